/-
  The law's each: what an iterator over a ring's numbers gives up to a number, and how many of the indices were right.
-/
import Derived.Test.YtmlnbmbobkoipaaRingSeq
import Derived.Maps.AppendAt
namespace Go.Proofs.Ytmlnbmbobkoipaa
open Go.RowKit Go.Shelf Go.Proofs.YtmlnbmbobkoipaaW.PrintWords Go.Proofs.YtmlnbmbobkoipaaW.PrintLast Go.Proofs.YtmlnbmbobkoipaaW.PrintMore
attribute [local go_sem] Oper.semAt_some

/-- How many of the indices that came were right. -/
def rightN (pre : List (Nat × Int)) : Nat := (pre.zipIdx.filter fun y => decide (y.1.1 = y.2)).length
theorem rightN_snoc (pre : List (Nat × Int)) (x : Nat × Int) : rightN (pre ++ [x]) = rightN pre + if x.1 = pre.length then 1 else 0 := by
  unfold rightN
  rw [List.zipIdx_append, List.filter_append, List.length_append]
  by_cases h : x.1 = pre.length <;> simp [h]
theorem rightN_le (pre : List (Nat × Int)) : rightN pre ≤ pre.length := by
  unfold rightN
  exact Nat.le_trans (List.length_filter_le _ _) (by simp)
theorem rightN_upto (zs : List Int) (k : Nat) : rightN (uptoI zs k) = k := by
  induction k with
  | zero => rfl
  | succ k ih => rw [uptoI_succ, rightN_snoc, ih, uptoI_length, if_pos rfl]
theorem upto_snd (zs : List Int) (k : Nat) (h : k ≤ zs.length) : (uptoI zs k).map (·.2) = zs.take k := by
  refine List.ext_getElem? fun j => ?_
  unfold uptoI
  rw [List.map_map, List.getElem?_map, List.getElem?_take]
  by_cases hj : j < k
  · rw [List.getElem?_range hj, if_pos hj, List.getElem?_eq_getElem (by omega)]
    simp [List.getD_eq_getElem?_getD, List.getElem?_eq_getElem (show j < zs.length by omega)]
  · rw [if_neg hj, List.getElem?_eq_none (by simp; omega)]
    rfl
/-- How many come: up to the number n, and no more than there are. -/
def mostN (n : Int) (len : Nat) : Nat := min ((max n 0).toNat + 1) len
/-- What the loop keeps: the box of the list, the box of the right ones, the box of the number. -/
structure EInv (w : World) (n₀ B3 B6 B7 : Nat) (nn : Int) (pre : List (Nat × Int)) (W : World) : Prop where
  row : ∃ v, Boxed W B6 22 v ∧ W.ownsRow n₀ 2 1 v pre.length (pre.map fun x => Value.int .i64 x.2) ∧ True
  right : Boxed W B7 3 (.int .i64 (rightN pre))
  num : Boxed W B3 2 (.int .i64 nn)
  bel : Below w.heap.size w W
  size : n₀ ≤ W.heap.size
theorem einv_own (w wL : World) (n₀ B3 B6 B7 : Nat) (nn : Int) (h : w.heap.size ≤ wL.heap.size) : OwnFrom wL.heap.size (EInv w n₀ B3 B6 B7 nn) := by
  have h1 := Own.from (holdsRow_own n₀ B6 22 2 1 (fun pre : List (Nat × Int) => pre.length) (fun pre => pre.map fun x => Value.int .i64 x.2) (fun _ _ => True)) wL.heap.size
  have h2 := Own.from (boxed_own B7 3 (fun pre : List (Nat × Int) => .int .i64 (rightN pre))) wL.heap.size
  have h3 := Own.from (boxed_own B3 2 (fun _ : List (Nat × Int) => .int .i64 nn)) wL.heap.size
  have h4 := ownFrom_below (β := List (Nat × Int)) (n₀ := w.heap.size) (B := wL.heap.size) (w₀ := w) (Nat.le_refl _) h
  intro s W W' row hs hg hr
  exact ⟨h1 s W W' row hs.row hg hr, h2 s W W' row hs.right hg hr, h3 s W W' row hs.num hg hr, h4 s W W' row hs.bel hg hr, Nat.le_trans hs.size hg.size⟩
theorem keepsBlk_b {w : World} {sb : Nat} (W : World) (l : Nat) (o o' : Obj) (_ : w.heap.size ≤ l) (h : W.heap[l]? = some o) (hc : o.isCells = false) (_ : o.isWalk = false) : KeepsBlk sb W (W.putObj l o') := by
  intro ob hob hcb
  have : sb ≠ l := by
    rintro rfl
    rw [h] at hob
    cases hob
    rw [hc] at hcb
    cases hcb
  exact ((grownBy_putObj' W l o').block sb (Array.getElem?_eq_some_iff.1 hob).1 (fun e => this (by cases e; rfl))).trans hob
end Go.Proofs.Ytmlnbmbobkoipaa
