/-
  FixOrder: held arithmetic keeps the order of numbers, rounds by less than one, commutes, and leaves a number times one as it was. For all numbers of 64 bits.
-/
import Derived.Test.YtbnmjfeacejngaaXFixOrderx1
import Derived.Test.YtbnmjfeacejngaaFixNum
namespace Go.Proofs.Ytbnmjfeacejngaa.Pure
open Go.RowKit Go.Proofs.Ytbnmjfeacejngaa Go.Proofs.Ytbnmjfeacejngaa.XFixOrder Go.Proofs.YtbnmjfeacejngaaW.PrintWords Go.Proofs.YtbnmjfeacejngaaW.PrintLast

theorem awake_order : capstanlaw01_awake.f = some true := by decide +kernel

theorem div_R64 {x : Int} (h : R64 x) : R64 (x / 1000000) := by
  obtain ⟨h0, h1⟩ := h
  exact ⟨by omega, by omega⟩
theorem cdiv_R64 {x : Int} (h : R64 x) : R64 (-(-x / 1000000)) := by
  obtain ⟨h0, h1⟩ := h
  exact ⟨by omega, by omega⟩
theorem floor_num {x : Int} (h : R64 x) : fix_Floor.f x = some (heldI (x / 1000000 * 1000000)) := by rw [floor_f h, heldI_of (div_R64 h)]
theorem ceil_num {x : Int} (h : R64 x) : fix_Ceil.f x = some (heldI (-(-x / 1000000) * 1000000)) := by rw [ceil_f h, heldI_of (cdiv_R64 h)]
theorem count_num {x : Int} (h : R64 x) : fix_Count.f x = some (heldI (heldI (-(-x / 1000000) * 1000000) / 1000000)) := by rw [count_f h, heldI_of (cdiv_R64 h)]
theorem mul_mono_div {x y z : Int} (h : x ≤ y) (hz : 0 ≤ z) : x * z / 1000000 ≤ y * z / 1000000 :=
  Int.ediv_le_ediv (by decide) (Int.mul_le_mul_of_nonneg_right h hz)

theorem j2_true {x y : Int} (hx : R64 x) (hy : R64 y) (k : Nat) : capstanlaw01_FixOrder.j2 (k + 1) x y false = some true := by
  simp only [capstanlaw01_FixOrder.j2]
  rw [if_neg (by decide), add_f hx hy, add_f hy hx, mul_f hx hy, mul_f hy hx, mul_f hx (show R64 1000000 by decide), add_f hx (show R64 0 by decide), abs_f hx, Int.add_comm y x, Int.mul_comm y x]
  simp only [Option.bind_some, if_true]
  rw [Int.mul_ediv_cancel _ (by decide), heldI_of hx, if_pos rfl, Int.add_zero, heldI_of hx, if_pos rfl]
  have : heldI (if x < 0 then -x else x) ≥ 0 := by
    unfold heldI
    repeat' split
    all_goals omega
  rw [decide_eq_true this]

theorem j1_true {x y : Int} (hx : R64 x) (hy : R64 y) (k : Nat) : capstanlaw01_FixOrder.j1 (k + 2) x y false = some true := by
  obtain ⟨h0, h1⟩ := hx
  simp only [capstanlaw01_FixOrder.j1]
  rw [if_neg (by decide), floor_num ⟨h0, h1⟩, ceil_num ⟨h0, h1⟩]
  simp only [Option.bind_some]
  have hF : heldI (x / 1000000 * 1000000) ≤ x := by
    unfold heldI
    repeat' split
    all_goals omega
  have hF2 : heldI (x / 1000000 * 1000000) > -9223372036854775808 → heldI (x / 1000000 * 1000000) = x / 1000000 * 1000000 := by
    unfold heldI
    repeat' split
    all_goals omega
  have hC : x ≤ heldI (-(-x / 1000000) * 1000000) := by
    unfold heldI
    repeat' split
    all_goals omega
  have hC2 : heldI (-(-x / 1000000) * 1000000) < 9223372036854775807 → heldI (-(-x / 1000000) * 1000000) = -(-x / 1000000) * 1000000 := by
    unfold heldI
    repeat' split
    all_goals omega
  rw [if_neg (by omega), if_neg (by omega)]
  have tail : (if heldI (-(-x / 1000000) * 1000000) < 9223372036854775807 then (if (Int.tmod (heldI (-(-x / 1000000) * 1000000)) 1000000) = 0 then (capstanlaw01_FixOrder.j2 (k + 1) x y (decide ((wrap64 (heldI (-(-x / 1000000) * 1000000) - x)) ≥ 1000000))) else (capstanlaw01_FixOrder.j2 (k + 1) x y true)) else (capstanlaw01_FixOrder.j2 (k + 1) x y false)) = some true := by
    by_cases hc : heldI (-(-x / 1000000) * 1000000) < 9223372036854775807
    · rw [if_pos hc, hC2 hc, Int.mul_tmod_left, if_pos rfl]
      have hc2 := hC2 hc
      have e : wrap64 (-(-x / 1000000) * 1000000 - x) = -(-x / 1000000) * 1000000 - x := w64_in ⟨by omega, by omega⟩
      rw [e, decide_eq_false (by omega)]
      exact j2_true ⟨h0, h1⟩ hy k
    · rw [if_neg hc]
      exact j2_true ⟨h0, h1⟩ hy k
  by_cases hf : heldI (x / 1000000 * 1000000) > -9223372036854775808
  · rw [if_pos hf, hF2 hf, Int.mul_tmod_left, if_pos rfl]
    have e : wrap64 (x - x / 1000000 * 1000000) = x - x / 1000000 * 1000000 := w64_in ⟨by omega, by omega⟩
    rw [e, if_neg (by omega)]
    exact tail
  · rw [if_neg hf]
    exact tail

theorem FixOrder : capstanlaw01_FixOrder.Pure := by
  intro x y z hx hy hz
  have rx := wf64 hx
  have ry := wf64 hy
  have rz := wf64 hz
  refine ⟨4, ?_⟩
  have j0 : capstanlaw01_FixOrder.j0 4 x y z false = some true := by
    simp only [capstanlaw01_FixOrder.j0]
    rw [if_neg (by decide)]
    by_cases h : x ≤ y
    · rw [if_pos h]
      by_cases h2 : z ≥ 0
      · rw [if_pos h2, mul_f rx rz, mul_f ry rz]
        simp only [Option.bind_some]
        rw [decide_eq_false (by have := heldI_mono (mul_mono_div h h2); omega)]
        exact j1_true rx ry 1
      · rw [if_neg h2]
        exact j1_true rx ry 1
    · rw [if_neg h]
      exact j1_true rx ry 1
  unfold capstanlaw01_FixOrder.f
  rw [awake_order]
  simp only [Option.bind_some, if_true]
  by_cases h : x ≤ y
  · rw [if_pos h, add_f rx rz, add_f ry rz, sub_f rz rx, sub_f rz ry, neg_f rx, neg_f ry, floor_num rx, floor_num ry, ceil_num rx, ceil_num ry, count_num rx, count_num ry]
    simp only [Option.bind_some]
    have a1 := heldI_mono (show x + z ≤ y + z by omega)
    have a2 := heldI_mono (show z + -y ≤ z + -x by omega)
    have a3 := heldI_mono (show -y ≤ -x by omega)
    have a4 := heldI_mono (show x / 1000000 * 1000000 ≤ y / 1000000 * 1000000 by omega)
    have a5 := heldI_mono (show -(-x / 1000000) * 1000000 ≤ -(-y / 1000000) * 1000000 by omega)
    have a6 := heldI_mono (Int.ediv_le_ediv (show (0 : Int) < 1000000 by decide) a5)
    rw [if_neg (by omega), if_neg (by omega), if_neg (by omega), if_neg (by omega), if_neg (by omega), decide_eq_false (by omega)]
    exact j0
  · rw [if_neg h]
    exact j0
end Go.Proofs.Ytbnmjfeacejngaa.Pure
