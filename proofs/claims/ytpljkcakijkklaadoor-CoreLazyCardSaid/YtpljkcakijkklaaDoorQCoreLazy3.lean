/-
  Texts of this seat, joined, less what CoreLazy does not lean on: DivMath.
-/
set_option linter.unusedVariables false
set_option linter.unusedSimpArgs false
section
namespace Go.Proofs.YtpljkcakijkklaaDoor.DivMath
set_option linter.unusedVariables false
set_option linter.unusedSimpArgs false

theorem distrib (q y1 y0 : Int) : q * (y1 * 4294967296 + y0) = q * y1 * 4294967296 + q * y0 := by
 rw [Int.mul_add, Int.mul_assoc]

theorem test_iff {u q y1 y0 r d : Int} (hu : u = q * y1 + r) (hy : 0 < y1 * 4294967296 + y0) :
  q * y0 > 4294967296 * r + d ↔ (u * 4294967296 + d) / (y1 * 4294967296 + y0) < q := by
 rw [Int.ediv_lt_iff_lt_mul hy, distrib]
 generalize q * y1 = P1 at *
 generalize q * y0 = P0 at *
 omega

theorem break_le {u q y1 y0 r d : Int} (hu : u = q * y1 + r) (hy0 : 0 ≤ y0) (hy0' : y0 < 4294967296) (hq : q ≤ 4294967297) (hq0 : 1 ≤ q) (hd : 0 ≤ d) (hr : 4294967296 ≤ r + y1) (hy : 0 < y1 * 4294967296 + y0) :
  q - 1 ≤ (u * 4294967296 + d) / (y1 * 4294967296 + y0) := by
 rw [Int.le_ediv_iff_mul_le hy, distrib]
 have h1 : (q - 1) * y1 = q * y1 - y1 := by rw [Int.sub_mul, Int.one_mul]
 have h2 : (q - 1) * y0 ≤ 4294967296 * y0 := Int.mul_le_mul_of_nonneg_right (by omega) hy0
 rw [h1]
 generalize q * y1 = P1 at *
 generalize (q - 1) * y0 = P0 at *
 omega

theorem guess_ge {u y1 y0 d : Int} (hy1 : 2147483648 ≤ y1) (hy0 : 0 ≤ y0) (hd' : d < 4294967296) (hu0 : 0 ≤ u) :
  (u * 4294967296 + d) / (y1 * 4294967296 + y0) ≤ u / y1 := by
 have hy : 0 < y1 * 4294967296 + y0 := by omega
 rw [← Int.lt_add_one_iff, Int.ediv_lt_iff_lt_mul hy, distrib]
 have h1 : u < (u / y1 + 1) * y1 := Int.lt_ediv_add_one_mul_self u (by omega)
 have h2 : 0 ≤ u / y1 := Int.ediv_nonneg hu0 (by omega)
 have h3 : 0 ≤ (u / y1 + 1) * y0 := Int.mul_nonneg (by omega) hy0
 generalize (u / y1 + 1) * y1 = P1 at *
 generalize (u / y1 + 1) * y0 = P0 at *
 omega

theorem guess_le {u y1 y0 : Int} (hy1 : 2147483648 ≤ y1) (hy0' : y0 < 4294967296) (hu : u < y1 * 4294967296 + y0) : u / y1 ≤ 4294967297 := by
 have h : u / y1 < 4294967298 := by
  rw [Int.ediv_lt_iff_lt_mul (by omega)]
  omega
 omega

theorem digit_lt {u y d : Int} (hy : 0 < y) (hu : u < y) (hd' : d < 4294967296) : (u * 4294967296 + d) / y < 4294967296 := by
 rw [Int.ediv_lt_iff_lt_mul hy]
 omega

theorem digit_nonneg {u y d : Int} (hy : 0 < y) (hu : 0 ≤ u) (hd : 0 ≤ d) : 0 ≤ (u * 4294967296 + d) / y := Int.ediv_nonneg (by omega) (by omega)

theorem rest_of {u y d : Int} : u * 4294967296 + d - (u * 4294967296 + d) / y * y = (u * 4294967296 + d) % y := by
 have := Int.mul_ediv_add_emod (u * 4294967296 + d) y
 rw [Int.mul_comm] at this
 omega

theorem two_digits {u y d1 d0 : Int} (hy : 0 < y) :
  (u * 18446744073709551616 + d1 * 4294967296 + d0) / y = (u * 4294967296 + d1) / y * 4294967296 + ((u * 4294967296 + d1) % y * 4294967296 + d0) / y ∧
  (u * 18446744073709551616 + d1 * 4294967296 + d0) % y = ((u * 4294967296 + d1) % y * 4294967296 + d0) % y := by
 have h := Int.mul_ediv_add_emod (u * 4294967296 + d1) y
 generalize (u * 4294967296 + d1) / y = Q at *
 generalize (u * 4294967296 + d1) % y = R at *
 have e : u * 18446744073709551616 + d1 * 4294967296 + d0 = (R * 4294967296 + d0) + y * (Q * 4294967296) := by
  rw [← Int.mul_assoc]
  generalize y * Q = P at *
  omega
 rw [e, Int.add_mul_ediv_left _ _ (by omega), Int.add_mul_emod_self_left]
 exact ⟨by omega, rfl⟩

theorem scaled {N y T : Int} (hT : 0 < T) (hy : 0 < y) : (N * T) / (y * T) = N / y ∧ (N * T) % (y * T) / T = N % y := by
 refine ⟨Int.mul_ediv_mul_of_pos_left N y hT, ?_⟩
 rw [Int.mul_comm N, Int.mul_comm y, Int.mul_emod_mul_of_pos _ _ hT]
 exact Int.mul_ediv_cancel_left _ (by omega)

theorem split_lo {lo T T' : Int} (hT : 0 < T) (hT' : 0 < T') (hTT : T * T' = 18446744073709551616) (h0 : 0 ≤ lo) :
  lo * T = lo / T' * 18446744073709551616 + (lo * T) % 18446744073709551616 ∧ (lo < 18446744073709551616 → lo / T' < T) := by
 constructor
 ·have h1 := Int.mul_ediv_add_emod lo T'
  have h2 := Int.emod_nonneg lo (show T' ≠ 0 by omega)
  have h3 := Int.emod_lt_of_pos lo hT'
  have e : lo * T = lo / T' * 18446744073709551616 + lo % T' * T := by
   rw [← hTT]
   have : lo * T = (T' * (lo / T') + lo % T') * T := by rw [h1]
   rw [this, Int.add_mul, Int.mul_comm T' (lo / T'), Int.mul_assoc, Int.mul_comm T' T]
  have h4 : 0 ≤ lo % T' * T := Int.mul_nonneg h2 (by omega)
  have h5 : lo % T' * T < T' * T := Int.mul_lt_mul_of_pos_right h3 hT
  rw [Int.mul_comm T' T, hTT] at h5
  generalize lo % T' * T = z at *
  rw [e]
  omega
 ·intro h
  rw [Int.ediv_lt_iff_lt_mul hT', hTT]
  exact h
end Go.Proofs.YtpljkcakijkklaaDoor.DivMath

end
