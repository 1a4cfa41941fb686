/-
  Texts of this seat, joined, less what CoreCopies does not lean on: CoreArg, Fp.
-/
import Derived.Test.YtpljkcakijkklaaDoorQCoreCopies11
import Derived.Test.YtpljkcakijkklaaDoorQCoreCopies4
import Derived.Laws.IdiomArrays
import Derived.WideShapes
set_option linter.unusedVariables false
set_option linter.unusedSimpArgs false
section
namespace Go.Proofs.YtpljkcakijkklaaDoor
set_option linter.unusedVariables false
set_option linter.unusedSimpArgs false
open Go.RowKit

def OpnN (N : Nat) (P : Program) (t : TypeId) {α : Type} (c : α → List Value) (ok : World → α → Prop) : Prop :=
 ∀ {H : Type} {enc : TypeId × Value → H} {w : World} {fuel : Nat} {cs : List Value} {x : DataW H × List MemPlace}, fuel ≤ N →
  DataW.trod enc P w 0 (fun _ => true) true fuel t cs = some x → (∀ n ∈ x.1.weights P t, n ≤ reachBytes) → ∃ a : α, cs = c a ∧ ok w a
theorem Opn.upto {N : Nat} {P : Program} {t : TypeId} {α : Type} {c : α → List Value} {ok : World → α → Prop} (h : Opn P t c ok) : OpnN N P t c ok := fun _ h1 h2 => h h1 h2
theorem OpnN.all {P : Program} {t : TypeId} {α : Type} {c : α → List Value} {ok : World → α → Prop} (h : ∀ N, OpnN N P t c ok) : Opn P t c ok := fun h1 h2 => h _ (Nat.le_refl _) h1 h2
theorem opnN_slice {N : Nat} {P : Program} {t e : TypeId} {α : Type} {c : α → List Value} {okE : World → α → Prop} (ht : P.underlying t = some (.slice e)) (he : OpnN N P e c okE) :
  OpnN N P t (fun s : Sl α => [.slice s.at_ s.len s.cap]) (Sl.ok P e c okE) := by
 intro H enc w fuel cs x hfu h hw
 rcases DataW.trod_slice ht h with ⟨rfl, rfl⟩ | ⟨a, len, cap, elems, rest, n, rfl, rfl, rfl, _, hlc, hcm, hel, h1, h2, _⟩
 ·exact ⟨⟨none, 0, 0, []⟩, rfl, Nat.le_refl _, Nat.zero_le _, rfl, by simp, (fun z hz => by cases hz), .inl ⟨rfl, rfl⟩⟩
 ·obtain ⟨hrl, h3⟩ := h2 rfl
  have hwt : (elems.length + rest.length) * P.bytesOf e ≤ reachBytes := by
   have := hw ((elems.length + rest.length) * P.bytesOf e) (by simp [DataW.weights, ht])
   exact this
  have key : ∀ i, i < cap → ∃ z, (okE w z ∧ w.cells? 0 (a.add (i * P.cellsOf e)) (P.cellsOf e) = some (c z)) := by
   intro i hi
   by_cases hl : i < len
   ·have hx := h1 i hl
    rw [List.getElem?_eq_getElem (by omega)] at hx
    obtain ⟨cs', hc1, hc2⟩ := Option.bind_eq_some_iff.1 hx
    obtain ⟨z, rfl, hz⟩ := he (by omega) hc2 (fun n hn => hw n (by
     simp only [DataW.weights, ht]
     refine List.mem_cons_of_mem _ (List.mem_append_left _ (mem_weightsAll (List.mem_map_of_mem (List.getElem_mem _)) n hn))))
    exact ⟨z, hz, hc1⟩
   ·have hx := h3 (i - len) (by omega)
    rw [show len + (i - len) = i by omega, List.getElem?_eq_getElem (by omega)] at hx
    obtain ⟨cs', hc1, hc2⟩ := Option.bind_eq_some_iff.1 hx
    obtain ⟨z, rfl, hz⟩ := he (by omega) hc2 (fun n hn => hw n (by
     simp only [DataW.weights, ht]
     refine List.mem_cons_of_mem _ (List.mem_append_right _ (mem_weightsAll (List.mem_map_of_mem (List.getElem_mem _)) n hn))))
    exact ⟨z, hz, hc1⟩
  obtain ⟨l, hl, hr⟩ := exists_list (β := Unit) cap _ key
  refine ⟨⟨some a, len, cap, l⟩, rfl, hlc, hcm, hl, by rw [hel, hrl, show len + (cap - len) = cap by omega] at hwt; exact hwt, fun z hz => ?_, .inr ⟨a, rfl, fun i z hz => (hr i z hz).2⟩⟩
  obtain ⟨i, hi, rfl⟩ := List.getElem_of_mem hz
  exact (hr i _ (List.getElem?_eq_getElem hi)).1
def OpnFN (N : Nat) (P : Program) (fs : List Field) (off : Nat) {α : Type} (c : α → List Value) (ok : World → α → Prop) : Prop :=
 ∀ {H : Type} {enc : TypeId × Value → H} {w : World} {n : Nat} {cs : List Value} {xs : List (DataW H × List MemPlace)}, n ≤ N →
  xs.length = fs.length → (∀ (i : Nat) (f : Field), fs[i]? = some f → DataW.trod enc P w 0 (fun _ => true) true n f.type ((cs.drop f.offset).take (P.cellsOf f.type)) = xs[i]?) →
  cs.length = off + (fs.map fun f => P.cellsOf f.type).sum → (∀ n ∈ DataW.weightsEach P (fs.map (·.type)) (xs.map (·.1)), n ≤ reachBytes) → ∃ a : α, cs.drop off = c a ∧ ok w a
theorem opnFN_last {N : Nat} {P : Program} {f : Field} {off : Nat} {α : Type} {c : α → List Value} {ok : World → α → Prop} (ho : f.offset = off) (h : OpnN N P f.type c ok) : OpnFN N P [f] off c ok := by
 intro H enc w n cs xs hfu hx ht hl hw
 have h0 := ht 0 f rfl
 obtain ⟨x, rfl⟩ : ∃ x, xs = [x] := by
  match xs, hx with
  | [x], _ => exact ⟨x, rfl⟩
 subst ho
 obtain ⟨a, ha, hok⟩ := h hfu h0 (fun n hn => hw n (by simp [DataW.weightsEach, hn]))
 refine ⟨a, ?_, hok⟩
 rw [← ha, List.take_of_length_le]
 simp at hl
 rw [List.length_drop]
 omega
theorem opnFN_cons {N : Nat} {P : Program} {f : Field} {fs : List Field} {off : Nat} {α β : Type} {c : α → List Value} {ok : World → α → Prop} {d : β → List Value} {okB : World → β → Prop} (ho : f.offset = off) {sz : Nat} (hs : P.cellsOf f.type = sz)
  (h : OpnN N P f.type c ok) (hr : OpnFN N P fs (off + sz) d okB) : OpnFN N P (f :: fs) off (fun x : α × β => c x.1 ++ d x.2) (fun w x => ok w x.1 ∧ okB w x.2) := by
 intro H enc w n cs xs hfu hx ht hl hw
 have h0 := ht 0 f rfl
 obtain ⟨x, ys, rfl⟩ : ∃ x ys, xs = x :: ys := by
  match xs, hx with
  | x :: ys, _ => exact ⟨x, ys, rfl⟩
 subst ho
 obtain ⟨a, ha, hok⟩ := h hfu h0 (fun n hn => hw n (by simp [DataW.weightsEach]; exact .inl hn))
 obtain ⟨b, hb, hokb⟩ := hr (xs := ys) hfu (by simpa using hx) (fun i g hg => by simpa using ht (i + 1) g (by simpa using hg)) (by simp at hl; omega) (fun n hn => hw n (by simp [DataW.weightsEach]; exact .inr hn))
 refine ⟨(a, b), ?_, hok, hokb⟩
 rw [hs] at ha
 show cs.drop f.offset = c a ++ d b
 rw [← ha, ← hb, ← List.drop_drop]
 exact (List.take_append_drop sz _).symm
theorem opnN_struct {N : Nat} {P : Program} {t : TypeId} {fs : List Field} {α : Type} {c : α → List Value} {ok : World → α → Prop} (ht : P.underlying t = some (.struct fs.toArray)) (hz : P.cellsOf t = (fs.map fun f => P.cellsOf f.type).sum) (h : OpnFN N P fs 0 c ok) : OpnN (N + 1) P t c ok := by
 intro H enc w fuel cs x hfu hx hw
 obtain ⟨xs, n, rfl, rfl, hl, hn, hf⟩ := DataW.trod_struct ht hx
 obtain ⟨a, ha, hok⟩ := h (xs := xs) (cs := cs) (by omega) (by simpa using hn) (fun i f hi => hf i f (by simpa using hi)) (by rw [hl, hz]; omega) (fun n hn => hw n (by simpa [DataW.weights, ht] using hn))
 exact ⟨a, by simpa using ha, hok⟩

theorem i64_of_wf {n : Int} (h : (Lit.int .i64 n).wf = true) : I64 n := by
 have h2 : IntKind.i64.min ≤ n ∧ n ≤ 9223372036854775807 := by simpa [Lit.wf] using h
 have e : IntKind.i64.min = -9223372036854775808 := by decide
 unfold I64
 omega
theorem sl_lies {P : Program} {t : TypeId} (hz : P.cellsOf t = 4) (hb : 48 ≤ P.bytesOf t) {w : World} {s : Sl Cr} (h : Sl.ok P t Cr.cells (fun w c => Lies w c) w s) :
  ((s.all.take s.len).length ≤ s.cap ∧ (s.all.take s.len).length ≤ 2932031007317) ∧ LiesL w s.at_ 0 (s.all.take s.len) ∧ (s.all.take s.len).length = s.len := by
 obtain ⟨h1, h2, h3, h4, h5, h6⟩ := h
 have hl : (s.all.take s.len).length = s.len := by rw [List.length_take]; omega
 have hc : s.cap ≤ 2932031007317 := by
  have a : s.cap * 48 ≤ s.cap * P.bytesOf t := Nat.mul_le_mul_left _ hb
  have b : reachBytes ≤ 140737488351232 := by first | exact Nat.le_refl _ | decide
  omega
 refine ⟨⟨by omega, by omega⟩, LiesL.of_get fun j c hj => ?_, hl⟩
 rw [List.getElem?_take] at hj
 split at hj
 ·rcases h6 with ⟨_, h6⟩ | ⟨a, ha, hg⟩
  ·omega
  ·refine ⟨⟨a, ha, ?_⟩, h5 c (List.mem_of_getElem? hj)⟩
   have := hg j c hj
   rw [hz] at this
   rw [Nat.zero_add]
   exact this
 ·cases hj
set_option maxRecDepth 100000
theorem core_opnN (N : Nat) : OpnN N Tryd.prog 24 Cr.cells (fun w c => Lies w c) := by
 induction N with
 | zero =>
  intro H enc w fuel cs x hfu h _
  obtain rfl : fuel = 0 := by omega
  simp [DataW.trod] at h
 | succ N ih =>
  intro H enc w fuel cs x hfu hx hw
  obtain ⟨a, ha, hk⟩ := opnN_struct (N := N) Tryd.underlying24 (by kernel_rfl)
   (opnFN_cons rfl (sz := 1) (by kernel_rfl) (Opn.upto (opn_int Tryd.underlying3))
    (opnFN_cons rfl (sz := 1) (by kernel_rfl) (Opn.upto (opn_int Tryd.underlying2))
     (opnFN_cons rfl (sz := 1) (by kernel_rfl) (Opn.upto (opn_int Tryd.underlying2))
      (opnFN_last rfl (opnN_slice Tryd.underlying22 ih))))) hfu hx hw
  obtain ⟨h0, h1, h2, h3⟩ := hk
  obtain ⟨s1, s2, s3⟩ := sl_lies (by kernel_rfl) (by first | exact of_decide_eq_true (by kernel_rfl) | decide) h3
  refine ⟨.node a.1 a.2.1 a.2.2.1 a.2.2.2.at_ a.2.2.2.cap (a.2.2.2.all.take a.2.2.2.len), ?_, ?_⟩
  ·rw [ha]
   simp only [Cr.cells, Cr.op_node, Cr.n_node, Cr.m_node, Cr.at_node, Cr.cap_node, Cr.kids_node, s3]
   rfl
  ·show Lies _ _
   rw [Lies]
   exact ⟨⟨i64_of_wf h0, i64_of_wf h1, i64_of_wf h2⟩, s1, s2⟩
theorem core_opn : Opn Tryd.prog 24 Cr.cells (fun w c => Lies w c) := OpnN.all core_opnN
end Go.Proofs.YtpljkcakijkklaaDoor

end
section
namespace Go.Proofs.YtpljkcakijkklaaDoor
set_option linter.unusedVariables false
set_option linter.unusedSimpArgs false
open Go.RowKit

inductive Tr where
 | node (op n m : Int) (l : List Tr)
mutual
def Cr.tr : Cr → Tr
 | .node o x y _ _ l => .node o x y (trL l)
def trL : List Cr → List Tr
 | [] => []
 | c :: l => c.tr :: trL l
end
theorem Cr.tr_eq (c : Cr) : c.tr = .node c.op c.n c.m (trL c.kids) := by cases c; rw [Cr.tr]; rfl
theorem trL_map : ∀ l : List Cr, trL l = l.map Cr.tr
 | [] => by rw [trL]; rfl
 | c :: l => by rw [trL, trL_map l]; rfl
theorem trL_append (a b : List Cr) : trL (a ++ b) = trL a ++ trL b := by rw [trL_map, trL_map, trL_map, List.map_append]
mutual
theorem sameS_tr : ∀ a b : Cr, sameS a b = true ↔ a.tr = b.tr
 | .node o x y p k l, .node o' x' y' p' k' l' => by
  have h := sameL_tr l l'
  rw [sameS, Cr.tr, Cr.tr, Bool.and_eq_true, Bool.and_eq_true, Bool.and_eq_true, h, Tr.node.injEq, beq_iff_eq, beq_iff_eq, beq_iff_eq]
theorem sameL_tr : ∀ a b : List Cr, sameL a b = true ↔ trL a = trL b
 | [], [] => by rw [sameL]; simp
 | [], _ :: _ => by rw [sameL, trL, trL]; simp
 | _ :: _, [] => by rw [sameL, trL, trL]; simp
 | a :: l, b :: l' => by
  have h1 := sameS_tr a b
  have h2 := sameL_tr l l'
  rw [sameL, trL, trL, Bool.and_eq_true, h1, h2, List.cons.injEq]
end
theorem add_block (a : Addr) (k : Nat) : (a.add k).block = a.block := by cases k <;> rfl
def blkOf : Option Addr → List Nat
 | some p => [p.block]
 | none => []
mutual
def Cr.fp : Cr → List Nat
 | .node _ _ _ a _ l => blkOf a ++ fpL l
def fpL : List Cr → List Nat
 | [] => []
 | c :: l => c.fp ++ fpL l
end
theorem Cr.fp_eq (c : Cr) : c.fp = blkOf c.at_ ++ fpL c.kids := by cases c; rw [Cr.fp]; rfl
theorem fpL_append : ∀ a b : List Cr, fpL (a ++ b) = fpL a ++ fpL b
 | [], b => by rw [List.nil_append, fpL]; rfl
 | c :: a, b => by rw [List.cons_append, fpL, fpL_append a b, fpL, List.append_assoc]
theorem fpL_one (c : Cr) : fpL [c] = c.fp := by rw [fpL, fpL, List.append_nil]
theorem fpL_mem {c : Cr} : ∀ {l : List Cr}, c ∈ l → ∀ b ∈ c.fp, b ∈ fpL l
 | d :: l, h, b, hb => by
  rw [fpL, List.mem_append]
  rcases List.mem_cons.1 h with rfl | h
  ·exact .inl hb
  ·exact .inr (fpL_mem h b hb)
mutual
theorem Lies.frame {w w' : World} : ∀ {c : Cr}, (∀ b ∈ c.fp, w'.heap[b]? = w.heap[b]?) → Lies w c → Lies w' c
 | .node o x y a k l, hf, h => by
  rw [Lies] at h ⊢
  rw [Cr.fp] at hf
  exact ⟨h.1, h.2.1, LiesL.frame (fun b hb => hf b (List.mem_append.2 hb)) h.2.2⟩
theorem LiesL.frame {w w' : World} {a : Option Addr} : ∀ {i : Nat} {l : List Cr}, (∀ b, b ∈ blkOf a ∨ b ∈ fpL l → w'.heap[b]? = w.heap[b]?) → LiesL w a i l → LiesL w' a i l
 | _, [], _, _ => by rw [LiesL]; trivial
 | i, c :: l, hf, h => by
  rw [LiesL] at h ⊢
  rw [fpL] at hf
  obtain ⟨⟨b, hb2, hc⟩, h2, h3⟩ := h
  refine ⟨⟨b, hb2, ?_⟩, Lies.frame (fun b hb => hf b (.inr (List.mem_append.2 (.inl hb)))) h2, LiesL.frame (fun b hb => hf b (hb.elim .inl fun hb => .inr (List.mem_append.2 (.inr hb)))) h3⟩
  obtain ⟨_, h4, h5⟩ := World.cells?_some hc
  refine World.cells?_of_each (Nat.zero_le _) h4 fun j hj => ?_
  rw [← h5 j hj]
  refine World.cell?_of_block (hf _ (.inl ?_))
  rw [hb2]
  exact List.mem_singleton.2 (by rw [add_block, add_block])
end
mutual
def Cr.Zf : Cr → Prop
 | .node _ _ _ a _ l => (∀ p, a = some p → p = ⟨p.block, 0, none⟩) ∧ ZfL l
def ZfL : List Cr → Prop
 | [] => True
 | c :: l => c.Zf ∧ ZfL l
end
theorem ZfL_of : ∀ {l : List Cr}, (∀ c ∈ l, c.Zf) → ZfL l
 | [], _ => by rw [ZfL]; trivial
 | c :: l, h => by rw [ZfL]; exact ⟨h c (by simp), ZfL_of fun d hd => h d (by simp [hd])⟩
theorem ZfL_mem : ∀ {l : List Cr} {c : Cr}, ZfL l → c ∈ l → c.Zf
 | d :: l, c, h, hc => by
  rw [ZfL] at h
  rcases List.mem_cons.1 hc with rfl | hc
  ·exact h.1
  ·exact ZfL_mem h.2 hc
theorem Cr.Zf.eq {c : Cr} (h : c.Zf) : (∀ p, c.at_ = some p → p = ⟨p.block, 0, none⟩) ∧ ZfL c.kids := by cases c; rw [Cr.Zf] at h; exact h
def Wr (w : World) (b : Nat) : Prop := ∃ cs t, w.heap[b]? = some (.cells cs t (0, 0))
theorem Wr.of {w w' : World} {b : Nat} (h : Wr w b) (e : w'.heap[b]? = w.heap[b]?) : Wr w' b := by
 obtain ⟨cs, t, k⟩ := h
 exact ⟨cs, t, e.trans k⟩
structure New (lo : Nat) (w : World) (c : Cr) : Prop where
 lies : Lies w c
 blocks : ∀ b ∈ c.fp, lo ≤ b ∧ b < w.heap.size
 wr : ∀ b ∈ c.fp, Wr w b
 apart : c.fp.Nodup
 zf : c.Zf
structure NewL (lo : Nat) (w : World) (l : List Cr) (row : List Nat) : Prop where
 lies : ∀ c ∈ l, Lies w c
 blocks : ∀ b ∈ fpL l, lo ≤ b ∧ b < w.heap.size
 wr : ∀ b ∈ fpL l, Wr w b
 apart : (fpL l).Nodup
 row : ∀ b ∈ row, b ∉ fpL l
 zf : ∀ c ∈ l, c.Zf
theorem NewL.nil (lo : Nat) (w : World) (row : List Nat) : NewL lo w [] row where
 lies := fun c hc => by cases hc
 blocks := fun b hb => by rw [fpL] at hb; cases hb
 wr := fun b hb => by rw [fpL] at hb; cases hb
 apart := by rw [fpL]; exact List.nodup_nil
 row := fun b _ hb => by rw [fpL] at hb; cases hb
 zf := fun c hc => by cases hc
theorem NewL.step {lo : Nat} {w w' : World} {l : List Cr} {row row' : List Nat} (h : NewL lo w l row) (hs : w.heap.size ≤ w'.heap.size) (hk : ∀ k, k < w.heap.size → k ∉ row → w'.heap[k]? = w.heap[k]?) (hr : ∀ b ∈ row', b ∈ row ∨ w.heap.size ≤ b) : NewL lo w' l row' where
 lies := fun c hc => (h.lies c hc).frame fun b hb => hk b (h.blocks b (fpL_mem hc b hb)).2 (fun e => h.row b e (fpL_mem hc b hb))
 blocks := fun b hb => ⟨(h.blocks b hb).1, Nat.lt_of_lt_of_le (h.blocks b hb).2 hs⟩
 wr := fun b hb => (h.wr b hb).of (hk b (h.blocks b hb).2 fun e => h.row b e hb)
 apart := h.apart
 row := fun b hb hf => (hr b hb).elim (fun e => h.row b e hf) (fun e => absurd (h.blocks b hf).2 (Nat.not_lt.2 e))
 zf := h.zf
theorem NewL.push {lo : Nat} {w : World} {l : List Cr} {row : List Nat} {c : Cr} {n : Nat} (h : NewL lo w l row) (hc : New n w c) (hn : lo ≤ n) (hl : ∀ b ∈ fpL l, b < n) (hrow : ∀ b ∈ row, b < n) : NewL lo w (l ++ [c]) row where
 lies := fun d hd => (List.mem_append.1 hd).elim (h.lies d) fun e => by rw [List.mem_singleton.1 e]; exact hc.lies
 blocks := fun b hb => by
  rw [fpL_append, fpL_one] at hb
  rcases List.mem_append.1 hb with hb | hb
  ·exact h.blocks b hb
  ·exact ⟨Nat.le_trans hn (hc.blocks b hb).1, (hc.blocks b hb).2⟩
 wr := fun b hb => by
  rw [fpL_append, fpL_one] at hb
  rcases List.mem_append.1 hb with hb | hb
  ·exact h.wr b hb
  ·exact hc.wr b hb
 apart := by
  rw [fpL_append, fpL_one]
  refine List.nodup_append.2 ⟨h.apart, hc.apart, fun a ha b hb e => ?_⟩
  have := hl a ha
  have := (hc.blocks b hb).1
  omega
 row := fun b hb hf => by
  rw [fpL_append, fpL_one] at hf
  rcases List.mem_append.1 hf with hf | hf
  ·exact h.row b hb hf
  ·have := hrow b hb
   have := (hc.blocks b hf).1
   omega
 zf := fun d hd => (List.mem_append.1 hd).elim (h.zf d) fun e => by rw [List.mem_singleton.1 e]; exact hc.zf
theorem NewL.node {lo : Nat} {w : World} {l : List Cr} {g cap : Nat} (h : NewL lo w l [g]) (hg : lo ≤ g ∧ g < w.heap.size) (hwr : Wr w g) {op n m : Int} (hi : I64 op ∧ I64 n ∧ I64 m) (hr : l.length ≤ cap ∧ l.length ≤ 2932031007317) (hl : LiesL w (some ⟨g, 0, none⟩) 0 l) : New lo w (.node op n m (some ⟨g, 0, none⟩) cap l) where
 lies := by rw [Lies]; exact ⟨hi, hr, hl⟩
 blocks := fun b hb => by
  rw [Cr.fp] at hb
  rcases List.mem_append.1 hb with hb | hb
  ·obtain rfl := List.mem_singleton.1 hb
   exact hg
  ·exact h.blocks b hb
 wr := fun b hb => by
  rw [Cr.fp] at hb
  rcases List.mem_append.1 hb with hb | hb
  ·obtain rfl := List.mem_singleton.1 hb
   exact hwr
  ·exact h.wr b hb
 apart := by
  rw [Cr.fp]
  exact List.nodup_append.2 ⟨List.nodup_cons.2 ⟨List.not_mem_nil, List.nodup_nil⟩, h.apart, fun a ha b hb e => by
   obtain rfl := List.mem_singleton.1 ha
   subst e
   exact h.row _ (List.mem_singleton.2 rfl) hb⟩
 zf := by
  rw [Cr.Zf]
  exact ⟨fun p e => by injection e with e; rw [← e], ZfL_of h.zf⟩
theorem New.leaf {lo : Nat} {w : World} {op n m : Int} (hi : I64 op ∧ I64 n ∧ I64 m) : New lo w (.node op n m none 0 []) where
 lies := by rw [Lies, LiesL]; exact ⟨hi, ⟨Nat.zero_le _, by decide⟩, trivial⟩
 blocks := fun b hb => by rw [Cr.fp, fpL] at hb; cases hb
 wr := fun b hb => by rw [Cr.fp, fpL] at hb; cases hb
 apart := by rw [Cr.fp, fpL]; exact List.nodup_nil
 zf := by
  rw [Cr.Zf, ZfL]
  exact ⟨fun p e => (by cases e), trivial⟩
theorem New.frame {lo : Nat} {w w' : World} {c : Cr} (h : New lo w c) (hs : w.heap.size ≤ w'.heap.size) (hk : ∀ b ∈ c.fp, w'.heap[b]? = w.heap[b]?) : New lo w' c :=
 ⟨h.lies.frame hk, fun b hb => ⟨(h.blocks b hb).1, Nat.lt_of_lt_of_le (h.blocks b hb).2 hs⟩, fun b hb => (h.wr b hb).of (hk b hb), h.apart, h.zf⟩
theorem New.below {lo : Nat} {w w' : World} {c : Cr} (h : New lo w c) (hb : Below w.heap.size w w') : New lo w' c := h.frame hb.size fun b hb' => hb.block b (h.blocks b hb').2
theorem New.mono {lo lo' : Nat} {w : World} {c : Cr} (h : New lo w c) (hl : lo' ≤ lo) : New lo' w c := ⟨h.lies, fun b hb => ⟨Nat.le_trans hl (h.blocks b hb).1, (h.blocks b hb).2⟩, h.wr, h.apart, h.zf⟩
end Go.Proofs.YtpljkcakijkklaaDoor

end
