/-
  FixBack: a quotient times its divisor falls short of the number by less than a divisor. For all numbers of 32 bits.
-/
import Derived.Test.YtbnmjfeacejngaaXFixBackx1
import Derived.Test.YtbnmjfeacejngaaFixNum
namespace Go.Proofs.Ytbnmjfeacejngaa.Pure
open Go.RowKit Go.Proofs.Ytbnmjfeacejngaa Go.Proofs.Ytbnmjfeacejngaa.XFixBack Go.Proofs.YtbnmjfeacejngaaW.PrintWords Go.Proofs.YtbnmjfeacejngaaW.PrintLast

theorem awake_true : capstanlaw01_awake.f = some true := by decide +kernel

theorem quot_pos {x y : Int} (hx : -2147483648 ≤ x) (hx1 : x < 2147483648) (hy : 0 < y) : -2147483648000000 ≤ x * 1000000 / y ∧ x * 1000000 / y ≤ 2147483648000000 := by
  refine ⟨by rw [Int.le_ediv_iff_mul_le hy]; omega, ?_⟩
  have : x * 1000000 / y < 2147483648000001 := by rw [Int.ediv_lt_iff_lt_mul hy]; omega
  omega
theorem quot_neg {x y : Int} (hx : -2147483648 ≤ x) (hx1 : x < 2147483648) (hy : y < 0) : -2147483648000000 ≤ -(x * 1000000) / -y ∧ -(x * 1000000) / -y ≤ 2147483648000000 := by
  refine ⟨by rw [Int.le_ediv_iff_mul_le (by omega)]; omega, ?_⟩
  have : -(x * 1000000) / -y < 2147483648000001 := by rw [Int.ediv_lt_iff_lt_mul (by omega)]; omega
  omega

theorem FixBack : capstanlaw01_FixBack.Pure := by
  intro x y hx hy
  obtain ⟨x0, x1⟩ := wf32 hx
  obtain ⟨y0, y1⟩ := wf32 hy
  have rx : R64 x := ⟨by omega, by omega⟩
  have ry : R64 y := ⟨by omega, by omega⟩
  unfold capstanlaw01_FixBack.f
  rw [awake_true, w64_in rx, w64_in ry, div_f rx ry]
  simp only [Option.bind_some, if_true]
  by_cases hz : y = 0
  · subst hz
    simp
  · simp only [if_neg hz, if_true]
    by_cases hn : y < 0
    · obtain ⟨q0, q1⟩ := quot_neg x0 x1 hn
      have hq : heldI (quotI x y) = -(x * 1000000) / -y := by
        unfold quotI
        rw [if_pos hn]
        exact heldI_of ⟨by omega, by omega⟩
      have hm := Int.mul_ediv_add_emod (-(x * 1000000)) (-y)
      have m0 := Int.emod_nonneg (-(x * 1000000)) (show -y ≠ 0 by omega)
      have m1 := Int.emod_lt_of_pos (-(x * 1000000)) (show 0 < -y by omega)
      rw [if_pos hn, hq]
      generalize -(x * 1000000) / -y = q at *
      rw [Int.neg_mul, Int.mul_comm y q] at hm
      have e1 : wrap64 (x * 1000000) = x * 1000000 := w64_in ⟨by omega, by omega⟩
      have b0 : -4611686018427387904 ≤ q * y := by omega
      have b1 : q * y ≤ 4611686018427387904 := by omega
      have e2 : wrap64 (q * y) = q * y := w64_in ⟨by omega, by omega⟩
      have e3 : wrap64 (x * 1000000 - q * y) = x * 1000000 - q * y := w64_in ⟨by omega, by omega⟩
      have e4 : wrap64 (-(x * 1000000 - q * y)) = -(x * 1000000 - q * y) := w64_in ⟨by omega, by omega⟩
      have e5 : wrap64 (-y) = -y := w64_in ⟨by omega, by omega⟩
      rw [e1, e2, e3, e4, e5, if_pos (by omega), if_pos (by omega), scale_f rx ⟨by omega, by omega⟩ ⟨by omega, by omega⟩]
      simp only [Option.bind_some]
      rw [if_neg (by omega), Int.mul_ediv_cancel _ (by omega), heldI_of rx]
      simp
    · obtain ⟨q0, q1⟩ := quot_pos x0 x1 (show 0 < y by omega)
      have hq : heldI (quotI x y) = x * 1000000 / y := by
        unfold quotI
        rw [if_neg hn]
        exact heldI_of ⟨by omega, by omega⟩
      have hm := Int.mul_ediv_add_emod (x * 1000000) y
      have m0 := Int.emod_nonneg (x * 1000000) hz
      have m1 := Int.emod_lt_of_pos (x * 1000000) (show 0 < y by omega)
      rw [if_neg hn, hq]
      generalize x * 1000000 / y = q at *
      rw [Int.mul_comm y q] at hm
      have e1 : wrap64 (x * 1000000) = x * 1000000 := w64_in ⟨by omega, by omega⟩
      have e2 : wrap64 (q * y) = q * y := w64_in ⟨by omega, by omega⟩
      have e3 : wrap64 (x * 1000000 - q * y) = x * 1000000 - q * y := w64_in ⟨by omega, by omega⟩
      rw [e1, e2, e3, if_pos (by omega), if_pos (by omega), scale_f rx ry ry]
      simp only [Option.bind_some]
      rw [if_neg (by omega), Int.mul_ediv_cancel _ hz, heldI_of rx]
      simp
end Go.Proofs.Ytbnmjfeacejngaa.Pure
