/-
  Texts of this seat, joined, less what CoreLazy does not lean on: CoreArg.
-/
import Derived.Test.YtpljkcakijkklaaDoorQCoreLazy9
import Derived.Test.YtpljkcakijkklaaDoorQCoreLazy5
import Derived.Laws.IdiomArrays
import Derived.WideShapes
set_option linter.unusedVariables false
set_option linter.unusedSimpArgs false
section
namespace Go.Proofs.YtpljkcakijkklaaDoor
set_option linter.unusedVariables false
set_option linter.unusedSimpArgs false
open Go.RowKit

def OpnN (N : Nat) (P : Program) (t : TypeId) {α : Type} (c : α → List Value) (ok : World → α → Prop) : Prop :=
 ∀ {H : Type} {enc : TypeId × Value → H} {w : World} {fuel : Nat} {cs : List Value} {x : DataW H × List MemPlace}, fuel ≤ N →
  DataW.trod enc P w 0 (fun _ => true) true fuel t cs = some x → (∀ n ∈ x.1.weights P t, n ≤ reachBytes) → ∃ a : α, cs = c a ∧ ok w a
theorem Opn.upto {N : Nat} {P : Program} {t : TypeId} {α : Type} {c : α → List Value} {ok : World → α → Prop} (h : Opn P t c ok) : OpnN N P t c ok := fun _ h1 h2 => h h1 h2
theorem OpnN.all {P : Program} {t : TypeId} {α : Type} {c : α → List Value} {ok : World → α → Prop} (h : ∀ N, OpnN N P t c ok) : Opn P t c ok := fun h1 h2 => h _ (Nat.le_refl _) h1 h2
theorem opnN_slice {N : Nat} {P : Program} {t e : TypeId} {α : Type} {c : α → List Value} {okE : World → α → Prop} (ht : P.underlying t = some (.slice e)) (he : OpnN N P e c okE) :
  OpnN N P t (fun s : Sl α => [.slice s.at_ s.len s.cap]) (Sl.ok P e c okE) := by
 intro H enc w fuel cs x hfu h hw
 rcases DataW.trod_slice ht h with ⟨rfl, rfl⟩ | ⟨a, len, cap, elems, rest, n, rfl, rfl, rfl, _, hlc, hcm, hel, h1, h2, _⟩
 ·exact ⟨⟨none, 0, 0, []⟩, rfl, Nat.le_refl _, Nat.zero_le _, rfl, by simp, (fun z hz => by cases hz), .inl ⟨rfl, rfl⟩⟩
 ·obtain ⟨hrl, h3⟩ := h2 rfl
  have hwt : (elems.length + rest.length) * P.bytesOf e ≤ reachBytes := by
   have := hw ((elems.length + rest.length) * P.bytesOf e) (by simp [DataW.weights, ht])
   exact this
  have key : ∀ i, i < cap → ∃ z, (okE w z ∧ w.cells? 0 (a.add (i * P.cellsOf e)) (P.cellsOf e) = some (c z)) := by
   intro i hi
   by_cases hl : i < len
   ·have hx := h1 i hl
    rw [List.getElem?_eq_getElem (by omega)] at hx
    obtain ⟨cs', hc1, hc2⟩ := Option.bind_eq_some_iff.1 hx
    obtain ⟨z, rfl, hz⟩ := he (by omega) hc2 (fun n hn => hw n (by
     simp only [DataW.weights, ht]
     refine List.mem_cons_of_mem _ (List.mem_append_left _ (mem_weightsAll (List.mem_map_of_mem (List.getElem_mem _)) n hn))))
    exact ⟨z, hz, hc1⟩
   ·have hx := h3 (i - len) (by omega)
    rw [show len + (i - len) = i by omega, List.getElem?_eq_getElem (by omega)] at hx
    obtain ⟨cs', hc1, hc2⟩ := Option.bind_eq_some_iff.1 hx
    obtain ⟨z, rfl, hz⟩ := he (by omega) hc2 (fun n hn => hw n (by
     simp only [DataW.weights, ht]
     refine List.mem_cons_of_mem _ (List.mem_append_right _ (mem_weightsAll (List.mem_map_of_mem (List.getElem_mem _)) n hn))))
    exact ⟨z, hz, hc1⟩
  obtain ⟨l, hl, hr⟩ := exists_list (β := Unit) cap _ key
  refine ⟨⟨some a, len, cap, l⟩, rfl, hlc, hcm, hl, by rw [hel, hrl, show len + (cap - len) = cap by omega] at hwt; exact hwt, fun z hz => ?_, .inr ⟨a, rfl, fun i z hz => (hr i z hz).2⟩⟩
  obtain ⟨i, hi, rfl⟩ := List.getElem_of_mem hz
  exact (hr i _ (List.getElem?_eq_getElem hi)).1
def OpnFN (N : Nat) (P : Program) (fs : List Field) (off : Nat) {α : Type} (c : α → List Value) (ok : World → α → Prop) : Prop :=
 ∀ {H : Type} {enc : TypeId × Value → H} {w : World} {n : Nat} {cs : List Value} {xs : List (DataW H × List MemPlace)}, n ≤ N →
  xs.length = fs.length → (∀ (i : Nat) (f : Field), fs[i]? = some f → DataW.trod enc P w 0 (fun _ => true) true n f.type ((cs.drop f.offset).take (P.cellsOf f.type)) = xs[i]?) →
  cs.length = off + (fs.map fun f => P.cellsOf f.type).sum → (∀ n ∈ DataW.weightsEach P (fs.map (·.type)) (xs.map (·.1)), n ≤ reachBytes) → ∃ a : α, cs.drop off = c a ∧ ok w a
theorem opnFN_last {N : Nat} {P : Program} {f : Field} {off : Nat} {α : Type} {c : α → List Value} {ok : World → α → Prop} (ho : f.offset = off) (h : OpnN N P f.type c ok) : OpnFN N P [f] off c ok := by
 intro H enc w n cs xs hfu hx ht hl hw
 have h0 := ht 0 f rfl
 obtain ⟨x, rfl⟩ : ∃ x, xs = [x] := by
  match xs, hx with
  | [x], _ => exact ⟨x, rfl⟩
 subst ho
 obtain ⟨a, ha, hok⟩ := h hfu h0 (fun n hn => hw n (by simp [DataW.weightsEach, hn]))
 refine ⟨a, ?_, hok⟩
 rw [← ha, List.take_of_length_le]
 simp at hl
 rw [List.length_drop]
 omega
theorem opnFN_cons {N : Nat} {P : Program} {f : Field} {fs : List Field} {off : Nat} {α β : Type} {c : α → List Value} {ok : World → α → Prop} {d : β → List Value} {okB : World → β → Prop} (ho : f.offset = off) {sz : Nat} (hs : P.cellsOf f.type = sz)
  (h : OpnN N P f.type c ok) (hr : OpnFN N P fs (off + sz) d okB) : OpnFN N P (f :: fs) off (fun x : α × β => c x.1 ++ d x.2) (fun w x => ok w x.1 ∧ okB w x.2) := by
 intro H enc w n cs xs hfu hx ht hl hw
 have h0 := ht 0 f rfl
 obtain ⟨x, ys, rfl⟩ : ∃ x ys, xs = x :: ys := by
  match xs, hx with
  | x :: ys, _ => exact ⟨x, ys, rfl⟩
 subst ho
 obtain ⟨a, ha, hok⟩ := h hfu h0 (fun n hn => hw n (by simp [DataW.weightsEach]; exact .inl hn))
 obtain ⟨b, hb, hokb⟩ := hr (xs := ys) hfu (by simpa using hx) (fun i g hg => by simpa using ht (i + 1) g (by simpa using hg)) (by simp at hl; omega) (fun n hn => hw n (by simp [DataW.weightsEach]; exact .inr hn))
 refine ⟨(a, b), ?_, hok, hokb⟩
 rw [hs] at ha
 show cs.drop f.offset = c a ++ d b
 rw [← ha, ← hb, ← List.drop_drop]
 exact (List.take_append_drop sz _).symm
theorem opnN_struct {N : Nat} {P : Program} {t : TypeId} {fs : List Field} {α : Type} {c : α → List Value} {ok : World → α → Prop} (ht : P.underlying t = some (.struct fs.toArray)) (hz : P.cellsOf t = (fs.map fun f => P.cellsOf f.type).sum) (h : OpnFN N P fs 0 c ok) : OpnN (N + 1) P t c ok := by
 intro H enc w fuel cs x hfu hx hw
 obtain ⟨xs, n, rfl, rfl, hl, hn, hf⟩ := DataW.trod_struct ht hx
 obtain ⟨a, ha, hok⟩ := h (xs := xs) (cs := cs) (by omega) (by simpa using hn) (fun i f hi => hf i f (by simpa using hi)) (by rw [hl, hz]; omega) (fun n hn => hw n (by simpa [DataW.weights, ht] using hn))
 exact ⟨a, by simpa using ha, hok⟩

theorem i64_of_wf {n : Int} (h : (Lit.int .i64 n).wf = true) : I64 n := by
 have h2 : IntKind.i64.min ≤ n ∧ n ≤ 9223372036854775807 := by simpa [Lit.wf] using h
 have e : IntKind.i64.min = -9223372036854775808 := by decide
 unfold I64
 omega
theorem sl_lies {P : Program} {t : TypeId} (hz : P.cellsOf t = 4) (hb : 48 ≤ P.bytesOf t) {w : World} {s : Sl Cr} (h : Sl.ok P t Cr.cells (fun w c => Lies w c) w s) :
  ((s.all.take s.len).length ≤ s.cap ∧ (s.all.take s.len).length ≤ 2932031007317) ∧ LiesL w s.at_ 0 (s.all.take s.len) ∧ (s.all.take s.len).length = s.len := by
 obtain ⟨h1, h2, h3, h4, h5, h6⟩ := h
 have hl : (s.all.take s.len).length = s.len := by rw [List.length_take]; omega
 have hc : s.cap ≤ 2932031007317 := by
  have a : s.cap * 48 ≤ s.cap * P.bytesOf t := Nat.mul_le_mul_left _ hb
  have b : reachBytes ≤ 140737488351232 := by first | exact Nat.le_refl _ | decide
  omega
 refine ⟨⟨by omega, by omega⟩, LiesL.of_get fun j c hj => ?_, hl⟩
 rw [List.getElem?_take] at hj
 split at hj
 ·rcases h6 with ⟨_, h6⟩ | ⟨a, ha, hg⟩
  ·omega
  ·refine ⟨⟨a, ha, ?_⟩, h5 c (List.mem_of_getElem? hj)⟩
   have := hg j c hj
   rw [hz] at this
   rw [Nat.zero_add]
   exact this
 ·cases hj
set_option maxRecDepth 100000
theorem core_opnN (N : Nat) : OpnN N Tryd.prog 24 Cr.cells (fun w c => Lies w c) := by
 induction N with
 | zero =>
  intro H enc w fuel cs x hfu h _
  obtain rfl : fuel = 0 := by omega
  simp [DataW.trod] at h
 | succ N ih =>
  intro H enc w fuel cs x hfu hx hw
  obtain ⟨a, ha, hk⟩ := opnN_struct (N := N) Tryd.underlying24 (by kernel_rfl)
   (opnFN_cons rfl (sz := 1) (by kernel_rfl) (Opn.upto (opn_int Tryd.underlying3))
    (opnFN_cons rfl (sz := 1) (by kernel_rfl) (Opn.upto (opn_int Tryd.underlying2))
     (opnFN_cons rfl (sz := 1) (by kernel_rfl) (Opn.upto (opn_int Tryd.underlying2))
      (opnFN_last rfl (opnN_slice Tryd.underlying22 ih))))) hfu hx hw
  obtain ⟨h0, h1, h2, h3⟩ := hk
  obtain ⟨s1, s2, s3⟩ := sl_lies (by kernel_rfl) (by first | exact of_decide_eq_true (by kernel_rfl) | decide) h3
  refine ⟨.node a.1 a.2.1 a.2.2.1 a.2.2.2.at_ a.2.2.2.cap (a.2.2.2.all.take a.2.2.2.len), ?_, ?_⟩
  ·rw [ha]
   simp only [Cr.cells, Cr.op_node, Cr.n_node, Cr.m_node, Cr.at_node, Cr.cap_node, Cr.kids_node, s3]
   rfl
  ·show Lies _ _
   rw [Lies]
   exact ⟨⟨i64_of_wf h0, i64_of_wf h1, i64_of_wf h2⟩, s1, s2⟩
theorem core_opn : Opn Tryd.prog 24 Cr.cells (fun w c => Lies w c) := OpnN.all core_opnN
theorem core_arg {H : Type} {enc : TypeId × Value → H} {base : Nat} {d : DataW H} {p : List MemPlace} {v : Value} {W : World} (hval : Value.okWide Tryd.prog W .any base 24 v)
  (h : DataW.Trod enc Tryd.prog W 0 (fun _ => true) true 24 v d p) (y : ∀ n ∈ DataW.weights Tryd.prog 24 d, n ≤ reachBytes) : ∃ c : Cr, v = c.val ∧ Lies W c := by
 obtain ⟨cs, rfl, hsz⟩ := WideShapes.okWide_struct Tryd.underlying24 hval
 obtain ⟨fuel, hf⟩ := h
 obtain ⟨c, hc, hl⟩ := core_opn hf y
 have hs' : cs.toList = c.cells := by simpa [Value.cells] using hc
 have : cs = c.cells.toArray := by rw [← hs']
 rw [this]
 exact ⟨c, rfl, hl⟩
end Go.Proofs.YtpljkcakijkklaaDoor

end
