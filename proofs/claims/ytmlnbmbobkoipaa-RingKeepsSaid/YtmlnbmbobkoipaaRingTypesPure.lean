/-
  Plain laws: the newest n of the first i of a list. No program in sight.
-/
import Derived.Test.YtmlnbmbobkoipaaBase
namespace Go.Proofs.Ytmlnbmbobkoipaa
section
variable {α : Type} (z : α)
def lastN (n : Nat) (xs : List α) (i : Nat) : List α := (xs.take i).drop (i - n)
variable {n i : Nat} {xs : List α}
theorem lastN_len (h : i ≤ xs.length) : (lastN n xs i).length = i - (i - n) := by
  unfold lastN
  rw [List.length_drop, List.length_take, Nat.min_eq_left h]
theorem lastN_head (hn : 0 < n) (h : i ≤ xs.length) (hi : n ≤ i) : (lastN n xs i).headD z = xs.getD (i - n) z := by
  unfold lastN
  rw [List.headD_eq_head?_getD, List.head?_drop, List.getElem?_take, if_pos (by omega), List.getD_eq_getElem?_getD]
theorem lastN_push (hn : 0 < n) (h : i < xs.length) : (if (lastN n xs i).length = n then (lastN n xs i).tail else lastN n xs i) ++ [xs.getD i z] = lastN n xs (i + 1) := by
  rw [lastN_len (Nat.le_of_lt h)]
  have e : xs.take (i + 1) = xs.take i ++ [xs.getD i z] := by
    rw [List.take_add_one, List.getElem?_eq_getElem h, List.getD_eq_getElem?_getD, List.getElem?_eq_getElem h]
    rfl
  unfold lastN
  rw [e, List.drop_append_of_le_length (by rw [List.length_take]; omega)]
  congr 1
  split
  · rw [List.tail_drop]
    congr 1
    omega
  · congr 1
    omega
theorem lastN_last (hn : 0 < n) (h : i < xs.length) : (lastN n xs (i + 1)).getD ((lastN n xs (i + 1)).length - 1) z = xs.getD i z := by
  rw [← lastN_push z hn h, List.length_append, List.length_singleton, Nat.add_sub_cancel, List.getD_eq_getElem?_getD, List.getElem?_append_right (Nat.le_refl _)]
  simp
theorem lastN_all (hn : 0 < n) : lastN n xs xs.length = xs.drop (xs.length - n) := by
  unfold lastN
  rw [List.take_length]
end
open Go.RowKit Go.Proofs.YtmlnbmbobkoipaaW.PrintWords Go.Proofs.YtmlnbmbobkoipaaW.PrintLast Go.Proofs.YtmlnbmbobkoipaaW.PrintMore
theorem below_kept {w w1 w2 : World} {S : Nat → Prop} (h1 : Below w.heap.size w w1) (h2 : Below 0 w1 w2) (hk : Kept w1 w2 S) (hS : ∀ k, k < w.heap.size → ¬ S k) : Below w.heap.size w w2 :=
  ⟨h2.os.trans h1.os, h2.tape.trans h1.tape, h2.output.trans h1.output, Nat.le_trans h1.size h2.size, fun k hk' => (hk.2 k (Nat.lt_of_lt_of_le hk' h1.size) (hS k hk')).trans (h1.block k hk')⟩
end Go.Proofs.Ytmlnbmbobkoipaa
