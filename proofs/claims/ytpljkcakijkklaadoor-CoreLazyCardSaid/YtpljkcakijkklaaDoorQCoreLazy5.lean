/-
  Texts of this seat, joined, less what CoreLazy does not lean on: Opens.
-/
import Derived.OpenShut
import Derived.ChangeArms
import Derived.SizedLaws
import Derived.ChangeShapes
set_option linter.unusedVariables false
set_option linter.unusedSimpArgs false
section
namespace Go.Proofs.YtpljkcakijkklaaDoor
set_option linter.unusedVariables false
set_option linter.unusedSimpArgs false
open Go.RowKit

def Opn (P : Program) (t : TypeId) {α : Type} (c : α → List Value) (ok : World → α → Prop) : Prop :=
 ∀ {H : Type} {enc : TypeId × Value → H} {w : World} {fuel : Nat} {cs : List Value} {x : DataW H × List MemPlace},
  DataW.trod enc P w 0 (fun _ => true) true fuel t cs = some x → (∀ n ∈ x.1.weights P t, n ≤ reachBytes) → ∃ a : α, cs = c a ∧ ok w a

theorem opn_int {P : Program} {t : TypeId} {k : IntKind} (ht : P.underlying t = some (.int k)) : Opn P t (fun n : Int => [.int k n]) (fun _ n => (Lit.int k n).wf = true) := by
 intro H enc w fuel cs x h _
 cases fuel with
 | zero => simp [DataW.trod] at h
 | succ n =>
  unfold DataW.trod at h
  rw [ht] at h
  split at h <;> simp_all
theorem opn_bool {P : Program} {t : TypeId} (ht : P.underlying t = some .bool) : Opn P t (fun b : Bool => [.bool b]) (fun _ _ => True) := by
 intro H enc w fuel cs x h _
 cases fuel with
 | zero => simp [DataW.trod] at h
 | succ n =>
  unfold DataW.trod at h
  rw [ht] at h
  split at h <;> simp_all
structure Sl (α : Type) where
 at_ : Option Addr
 len : Nat
 cap : Nat
 all : List α
def Sl.ok {α : Type} (P : Program) (e : TypeId) (c : α → List Value) (okE : World → α → Prop) (w : World) (s : Sl α) : Prop :=
 s.len ≤ s.cap ∧ s.cap ≤ maxLen ∧ s.all.length = s.cap ∧ s.cap * P.bytesOf e ≤ reachBytes ∧ (∀ z ∈ s.all, okE w z) ∧
  ((s.at_ = none ∧ s.cap = 0) ∨ ∃ a, s.at_ = some a ∧ ∀ i z, s.all[i]? = some z → w.cells? 0 (a.add (i * P.cellsOf e)) (P.cellsOf e) = some (c z))

theorem exists_list {α β : Type} (n : Nat) (R : Nat → α → Prop) (h : ∀ i, i < n → ∃ a, R i a) : ∃ l : List α, l.length = n ∧ ∀ i a, l[i]? = some a → R i a := by
 induction n with
 | zero => exact ⟨[], rfl, fun i a h => by simp at h⟩
 | succ n ih =>
  obtain ⟨l, hl, hr⟩ := ih (fun i hi => h i (by omega))
  obtain ⟨a, ha⟩ := h n (by omega)
  refine ⟨l ++ [a], by simp [hl], fun i b hb => ?_⟩
  by_cases hi : i < l.length
  ·rw [List.getElem?_append_left hi] at hb
   exact hr i b hb
  ·rw [List.getElem?_append_right (by omega)] at hb
   have : i - l.length = 0 := by
    rcases Nat.eq_zero_or_pos (i - l.length) with h0 | h0
    ·exact h0
    ·rw [List.getElem?_eq_none (by simp; omega)] at hb; cases hb
   rw [this] at hb
   simp at hb
   subst hb
   have : i = n := by omega
   subst this
   exact ha

theorem mem_weightsAll {H : Type} {P : Program} {e : TypeId} : ∀ {ds : List (DataW H)} {d : DataW H}, d ∈ ds → ∀ n ∈ d.weights P e, n ∈ DataW.weightsAll P e ds
 | [], _, h, _, _ => by cases h
 | d0 :: ds, d, h, n, hn => by
  unfold DataW.weightsAll
  rw [List.mem_append]
  rcases List.mem_cons.1 h with rfl | h
  ·exact .inl hn
  ·exact .inr (mem_weightsAll h n hn)

theorem opn_slice {P : Program} {t e : TypeId} {α : Type} {c : α → List Value} {okE : World → α → Prop} (ht : P.underlying t = some (.slice e)) (he : Opn P e c okE) :
  Opn P t (fun s : Sl α => [.slice s.at_ s.len s.cap]) (Sl.ok P e c okE) := by
 intro H enc w fuel cs x h hw
 rcases DataW.trod_slice ht h with ⟨rfl, rfl⟩ | ⟨a, len, cap, elems, rest, n, rfl, rfl, rfl, _, hlc, hcm, hel, h1, h2, _⟩
 ·exact ⟨⟨none, 0, 0, []⟩, rfl, Nat.le_refl _, Nat.zero_le _, rfl, by simp, (fun z hz => by cases hz), .inl ⟨rfl, rfl⟩⟩
 ·obtain ⟨hrl, h3⟩ := h2 rfl
  have hwt : (elems.length + rest.length) * P.bytesOf e ≤ reachBytes := by
   have := hw ((elems.length + rest.length) * P.bytesOf e) (by simp [DataW.weights, ht])
   exact this
  have key : ∀ i, i < cap → ∃ z, (okE w z ∧ w.cells? 0 (a.add (i * P.cellsOf e)) (P.cellsOf e) = some (c z)) := by
   intro i hi
   by_cases hl : i < len
   ·have hx := h1 i hl
    rw [List.getElem?_eq_getElem (by omega)] at hx
    obtain ⟨cs', hc1, hc2⟩ := Option.bind_eq_some_iff.1 hx
    obtain ⟨z, rfl, hz⟩ := he hc2 (fun n hn => hw n (by
     simp only [DataW.weights, ht]
     refine List.mem_cons_of_mem _ (List.mem_append_left _ (mem_weightsAll (List.mem_map_of_mem (List.getElem_mem _)) n hn))))
    exact ⟨z, hz, hc1⟩
   ·have hx := h3 (i - len) (by omega)
    rw [show len + (i - len) = i by omega, List.getElem?_eq_getElem (by omega)] at hx
    obtain ⟨cs', hc1, hc2⟩ := Option.bind_eq_some_iff.1 hx
    obtain ⟨z, rfl, hz⟩ := he hc2 (fun n hn => hw n (by
     simp only [DataW.weights, ht]
     refine List.mem_cons_of_mem _ (List.mem_append_right _ (mem_weightsAll (List.mem_map_of_mem (List.getElem_mem _)) n hn))))
    exact ⟨z, hz, hc1⟩
  obtain ⟨l, hl, hr⟩ := exists_list (β := Unit) cap _ key
  refine ⟨⟨some a, len, cap, l⟩, rfl, hlc, hcm, hl, by rw [hel, hrl, show len + (cap - len) = cap by omega] at hwt; exact hwt, fun z hz => ?_, .inr ⟨a, rfl, fun i z hz => (hr i z hz).2⟩⟩
  obtain ⟨i, hi, rfl⟩ := List.getElem_of_mem hz
  exact (hr i _ (List.getElem?_eq_getElem hi)).1

def OpnF (P : Program) (fs : List Field) (off : Nat) {α : Type} (c : α → List Value) (ok : World → α → Prop) : Prop :=
 ∀ {H : Type} {enc : TypeId × Value → H} {w : World} {n : Nat} {cs : List Value} {xs : List (DataW H × List MemPlace)},
  xs.length = fs.length → (∀ (i : Nat) (f : Field), fs[i]? = some f → DataW.trod enc P w 0 (fun _ => true) true n f.type ((cs.drop f.offset).take (P.cellsOf f.type)) = xs[i]?) →
  cs.length = off + (fs.map fun f => P.cellsOf f.type).sum → (∀ n ∈ DataW.weightsEach P (fs.map (·.type)) (xs.map (·.1)), n ≤ reachBytes) → ∃ a : α, cs.drop off = c a ∧ ok w a
theorem opnF_last {P : Program} {f : Field} {off : Nat} {α : Type} {c : α → List Value} {ok : World → α → Prop} (ho : f.offset = off) (h : Opn P f.type c ok) : OpnF P [f] off c ok := by
 intro H enc w n cs xs hx ht hl hw
 have h0 := ht 0 f rfl
 obtain ⟨x, rfl⟩ : ∃ x, xs = [x] := by
  match xs, hx with
  | [x], _ => exact ⟨x, rfl⟩
 subst ho
 obtain ⟨a, ha, hok⟩ := h h0 (fun n hn => hw n (by simp [DataW.weightsEach, hn]))
 refine ⟨a, ?_, hok⟩
 rw [← ha, List.take_of_length_le]
 simp at hl
 rw [List.length_drop]
 omega
theorem opnF_cons {P : Program} {f : Field} {fs : List Field} {off : Nat} {α β : Type} {c : α → List Value} {ok : World → α → Prop} {d : β → List Value} {okB : World → β → Prop} (ho : f.offset = off) {sz : Nat} (hs : P.cellsOf f.type = sz)
  (h : Opn P f.type c ok) (hr : OpnF P fs (off + sz) d okB) : OpnF P (f :: fs) off (fun x : α × β => c x.1 ++ d x.2) (fun w x => ok w x.1 ∧ okB w x.2) := by
 intro H enc w n cs xs hx ht hl hw
 have h0 := ht 0 f rfl
 obtain ⟨x, ys, rfl⟩ : ∃ x ys, xs = x :: ys := by
  match xs, hx with
  | x :: ys, _ => exact ⟨x, ys, rfl⟩
 subst ho
 obtain ⟨a, ha, hok⟩ := h h0 (fun n hn => hw n (by simp [DataW.weightsEach]; exact .inl hn))
 obtain ⟨b, hb, hokb⟩ := hr (xs := ys) (by simpa using hx) (fun i g hg => by simpa using ht (i + 1) g (by simpa using hg)) (by simp at hl; omega) (fun n hn => hw n (by simp [DataW.weightsEach]; exact .inr hn))
 refine ⟨(a, b), ?_, hok, hokb⟩
 rw [hs] at ha
 show cs.drop f.offset = c a ++ d b
 rw [← ha, ← hb, ← List.drop_drop]
 exact (List.take_append_drop sz _).symm
theorem opn_struct {P : Program} {t : TypeId} {fs : List Field} {α : Type} {c : α → List Value} {ok : World → α → Prop} (ht : P.underlying t = some (.struct fs.toArray)) (hz : P.cellsOf t = (fs.map fun f => P.cellsOf f.type).sum) (h : OpnF P fs 0 c ok) : Opn P t c ok := by
 intro H enc w fuel cs x hx hw
 obtain ⟨xs, n, rfl, rfl, hl, hn, hf⟩ := DataW.trod_struct ht hx
 obtain ⟨a, ha, hok⟩ := h (xs := xs) (cs := cs) (by simpa using hn) (fun i f hi => hf i f (by simpa using hi)) (by rw [hl, hz]; omega) (fun n hn => hw n (by simpa [DataW.weights, ht] using hn))
 exact ⟨a, by simpa using ha, hok⟩
theorem Opn.map {P : Program} {t : TypeId} {α β : Type} {c : α → List Value} {ok : World → α → Prop} (h : Opn P t c ok) (f : α → β) {d : β → List Value} {okB : World → β → Prop} (hc : ∀ a, c a = d (f a)) (hok : ∀ w a, ok w a → okB w (f a)) : Opn P t d okB := by
 intro H enc w fuel cs x hx hw
 obtain ⟨a, ha, hk⟩ := h hx hw
 exact ⟨f a, by rw [ha, hc], hok w a hk⟩
theorem cells_get {w : World} {a : Addr} {n : Nat} {cs : List Value} (h : w.cells? 0 a n = some cs) (j : Nat) (u : Value) (hj : cs[j]? = some u) : w.cell? (a.add j) = some u := by
 obtain ⟨h1, h2, h3⟩ := World.cells?_some h
 have hl : j < n := by
  rw [← h2]
  exact (List.getElem?_eq_some_iff.1 hj).1
 rw [h3 j hl, hj]
end Go.Proofs.YtpljkcakijkklaaDoor

end
