/-
  Texts of this seat, joined, less what CoreLazy does not lean on: DivPure.
-/
import Derived.Test.YtpljkcakijkklaaDoorQCoreLazy14
import Derived.Test.YtpljkcakijkklaaDoorQCoreLazy3
import Derived.Lib.ItoaNum
set_option linter.unusedVariables false
set_option linter.unusedSimpArgs false
section
namespace Go.Proofs.YtpljkcakijkklaaDoor
set_option linter.unusedVariables false
set_option linter.unusedSimpArgs false
open Go.RowKit Go.Proofs.YtpljkcakijkklaaDoorW.PrintWords Go.Proofs.YtpljkcakijkklaaDoorW.PrintLast Go.Proofs.YtpljkcakijkklaaDoorW.PrintMore Go.Proofs.YtpljkcakijkklaaDoor.XDiv64 DivMath

theorem wu (x : Int) : IntKind.u64.wrap x = x % 18446744073709551616 := IntKind.wrap_u64 x
theorem wu_in {x : Int} (h0 : 0 ≤ x) (h1 : x < 18446744073709551616) : IntKind.u64.wrap x = x := by rw [wu]; omega

theorem tail_value {u y d Q : Int} (hu0 : 0 ≤ u) (huy : u < y) (hy : 0 < y) (hyW : y < 18446744073709551616) (hd : 0 ≤ d) (hd' : d < 4294967296) (hQ : Q = (u * 4294967296 + d) / y) :
  IntKind.u64.wrap (IntKind.u64.wrap (IntKind.u64.wrap (u * 4294967296) + d) - IntKind.u64.wrap (Q * y)) = (u * 4294967296 + d) % y := by
 have h := @rest_of u y d
 have h2 := Int.emod_nonneg (u * 4294967296 + d) (show y ≠ 0 by omega)
 have h3 := Int.emod_lt_of_pos (u * 4294967296 + d) hy
 rw [← hQ] at h
 generalize (u * 4294967296 + d) % y = R at *
 generalize Q * y = P at *
 simp only [wu]
 omega

theorem l1_ends {y s y1 y0 d Q1 u : Int} (hy1 : 2147483648 ≤ y1) (hy1' : y1 < 4294967296) (hy0 : 0 ≤ y0) (hy0' : y0 < 4294967296) (hy : y = y1 * 4294967296 + y0) (hu0 : 0 ≤ u) (huy : u < y) (hd : 0 ≤ d) (hd' : d < 4294967296) (hs : 0 ≤ s) (n : Nat) :
  ∀ (k : Nat) (q r : Int), u = q * y1 + r → 0 ≤ r → r < 4294967296 → q = (u * 4294967296 + d) / y + n → q ≤ 4294967297 → 2 * n + 2 ≤ k →
   bits_Div64.l1 k y s y1 y0 d Q1 r u q = some (IntKind.u64.wrap (IntKind.u64.wrap (Q1 * 4294967296) + (u * 4294967296 + d) / y), shr .u64 ((u * 4294967296 + d) % y) s) := by
 have hypos : 0 < y := by omega
 have hQ0 := @digit_nonneg u y d hypos hu0 hd
 have hQ1 := @digit_lt u y d hypos huy hd'
 induction n with
 | zero =>
  intro k q r hur hr0 hr1 hq hq1 hk
  obtain ⟨k, rfl⟩ : ∃ m, k = m + 2 := ⟨k - 2, by omega⟩
  have hq' : q = (u * 4294967296 + d) / y := by omega
  have ht := @test_iff u q y1 y0 r d hur (by omega)
  rw [← hy] at ht
  have hno : ¬ (q * y0 > 4294967296 * r + d) := by rw [ht]; omega
  have hp0 : 0 ≤ q * y0 := Int.mul_nonneg (by omega) hy0
  have hp1 : q * y0 ≤ 4294967295 * 4294967295 := Int.mul_le_mul (by omega) (by omega) hy0 (by decide)
  have hb : decide (IntKind.u64.wrap (q * y0) > IntKind.u64.wrap (IntKind.u64.wrap (4294967296 * r) + d)) = false := by
   rw [decide_eq_false_iff_not]
   generalize q * y0 = P at *
   simp only [wu]
   omega
  have ha := tail_value hu0 huy hypos (by omega) hd hd' hq'
  simp only [bits_Div64.l1]
  rw [if_neg (by omega), hb]
  simp only [bits_Div64.j4]
  rw [if_neg (by decide), if_pos hs, ha, hq']
 | succ n ih =>
  intro k q r hur hr0 hr1 hq hq1 hk
  obtain ⟨k, rfl⟩ : ∃ m, k = m + 2 := ⟨k - 2, by omega⟩
  have ht := @test_iff u q y1 y0 r d hur (by omega)
  rw [← hy] at ht
  have hyes : q * y0 > 4294967296 * r + d := by rw [ht]; omega
  have hp0 : 0 ≤ q * y0 := Int.mul_nonneg (by omega) hy0
  have step : bits_Div64.j4 (k + 1) y s y1 y0 d Q1 r u q true = some (IntKind.u64.wrap (IntKind.u64.wrap (Q1 * 4294967296) + (u * 4294967296 + d) / y), shr .u64 ((u * 4294967296 + d) % y) s) := by
   simp only [bits_Div64.j4]
   rw [if_true, wu_in (x := r + y1) (by omega) (by omega), wu_in (x := q - 1) (by omega) (by omega)]
   by_cases hbr : r + y1 ≥ 4294967296
   ·have hle := @break_le u q y1 y0 r d hur hy0 hy0' hq1 (by omega) hd (by omega) (by omega)
    rw [← hy] at hle
    have hq' : q - 1 = (u * 4294967296 + d) / y := by omega
    have ha := tail_value hu0 huy hypos (by omega) hd hd' hq'
    rw [if_pos hbr, if_pos hs, ha, hq']
   ·rw [if_neg hbr]
    exact ih k (q - 1) (r + y1) (by rw [Int.sub_mul]; omega) (by omega) (by omega) (by omega) (by omega) (by omega)
  simp only [bits_Div64.l1]
  by_cases hbig : q ≥ 4294967296
  ·rw [if_pos hbig]
   exact step
  ·have hp1 : q * y0 ≤ 4294967295 * 4294967295 := Int.mul_le_mul (by omega) (by omega) hy0 (by decide)
   have hb : decide (IntKind.u64.wrap (q * y0) > IntKind.u64.wrap (IntKind.u64.wrap (4294967296 * r) + d)) = true := by
    rw [decide_eq_true_eq]
    generalize q * y0 = P at *
    simp only [wu]
    omega
   rw [if_neg hbig, hb]
   exact step

theorem j2_ends {y s y1 y0 u d1 d0 Q1 : Int} (hy1 : 2147483648 ≤ y1) (hy1' : y1 < 4294967296) (hy0 : 0 ≤ y0) (hy0' : y0 < 4294967296) (hy : y = y1 * 4294967296 + y0) (hu0 : 0 ≤ u) (huy : u < y) (hd1 : 0 ≤ d1) (hd1' : d1 < 4294967296) (hd0 : 0 ≤ d0) (hd0' : d0 < 4294967296) (hs : 0 ≤ s)
  (hQ : Q1 = (u * 4294967296 + d1) / y) (k : Nat) (hk : 12 ≤ k) :
  bits_Div64.j2 k y s y1 y0 u d1 d0 Q1 = some ((u * 18446744073709551616 + d1 * 4294967296 + d0) / y, shr .u64 ((u * 18446744073709551616 + d1 * 4294967296 + d0) % y) s) := by
 have hypos : 0 < y := by omega
 obtain ⟨k, rfl⟩ : ∃ m, k = m + 1 := ⟨k - 1, by omega⟩
 have ha := tail_value hu0 huy hypos (by omega) hd1 hd1' hQ
 have hu2 := Int.emod_nonneg (u * 4294967296 + d1) (show y ≠ 0 by omega)
 have hu2' := Int.emod_lt_of_pos (u * 4294967296 + d1) hypos
 obtain ⟨t1, t2⟩ := @two_digits u y d1 d0 hypos
 simp only [bits_Div64.j2]
 rw [if_neg (by omega), ha, t1, t2, ← hQ]
 generalize (u * 4294967296 + d1) % y = v at *
 have g0 : 0 ≤ v / y1 := Int.ediv_nonneg hu2 (by omega)
 have g1 := @guess_le v y1 y0 hy1 hy0' (by omega)
 have g2 := @guess_ge v y1 y0 d0 hy1 hy0 hd0' hu2
 rw [← hy] at g2
 have g3 := Int.emod_nonneg v (show y1 ≠ 0 by omega)
 have g4 := Int.emod_lt_of_pos v (show 0 < y1 by omega)
 have g5 := Int.mul_ediv_add_emod v y1
 rw [Int.mul_comm] at g5
 have hQ0 := @digit_nonneg u y d1 hypos hu0 hd1
 have hQ1 := @digit_lt u y d1 hypos huy hd1'
 have hR0 := @digit_nonneg v y d0 hypos hu2 hd0
 have hR1 := @digit_lt v y d0 hypos hu2' hd0'
 rw [Int.tdiv_eq_ediv_of_nonneg hu2, wu_in (x := v / y1) g0 (by omega)]
 have gp : 0 ≤ v / y1 * y1 := Int.mul_nonneg g0 (by omega)
 have e : IntKind.u64.wrap (v - IntKind.u64.wrap (v / y1 * y1)) = v % y1 := by
  generalize v / y1 * y1 = P at *
  simp only [wu]
  omega
 rw [e, l1_ends hy1 hy1' hy0 hy0' hy hu2 hu2' hd0 hd0' hs (v / y1 - (v * 4294967296 + d0) / y).toNat k (v / y1) (v % y1) g5.symm g3 (by omega) (by omega) g1 ?_, wu_in (x := Q1 * 4294967296) (by omega) (by omega), wu_in (by omega) (by omega)]
 ·have : v / y1 - (v * 4294967296 + d0) / y ≤ 4 := by
   have h2 : (v * 4294967296 + d0) / y ≥ v / y1 - 2 := by
    rw [ge_iff_le, Int.le_ediv_iff_mul_le hypos, hy, distrib]
    have a1 : (v / y1 - 2) * y1 = v / y1 * y1 - 2 * y1 := Int.sub_mul ..
    have a2 : (v / y1 - 2) * y0 ≤ 4294967295 * y0 := Int.mul_le_mul_of_nonneg_right (by omega) hy0
    rw [a1]
    generalize v / y1 * y1 = P1 at *
    generalize (v / y1 - 2) * y0 = P0 at *
    omega
   omega
  omega

theorem l0_ends {y s y1 y0 u d1 d0 : Int} (hy1 : 2147483648 ≤ y1) (hy1' : y1 < 4294967296) (hy0 : 0 ≤ y0) (hy0' : y0 < 4294967296) (hy : y = y1 * 4294967296 + y0) (hu0 : 0 ≤ u) (huy : u < y) (hd : 0 ≤ d1) (hd' : d1 < 4294967296) (hd0 : 0 ≤ d0) (hd0' : d0 < 4294967296) (hs : 0 ≤ s) (n : Nat) :
  ∀ (k : Nat) (q r : Int), u = q * y1 + r → 0 ≤ r → r < 4294967296 → q = (u * 4294967296 + d1) / y + n → q ≤ 4294967297 → 2 * n + 14 ≤ k →
   bits_Div64.l0 k y s y1 y0 u d1 d0 q r = some ((u * 18446744073709551616 + d1 * 4294967296 + d0) / y, shr .u64 ((u * 18446744073709551616 + d1 * 4294967296 + d0) % y) s) := by
 have hypos : 0 < y := by omega
 have hQ0 := @digit_nonneg u y d1 hypos hu0 hd
 have hQ1 := @digit_lt u y d1 hypos huy hd'
 induction n with
 | zero =>
  intro k q r hur hr0 hr1 hq hq1 hk
  obtain ⟨k, rfl⟩ : ∃ m, k = m + 2 := ⟨k - 2, by omega⟩
  have hq' : q = (u * 4294967296 + d1) / y := by omega
  have ht := @test_iff u q y1 y0 r d1 hur (by omega)
  rw [← hy] at ht
  have hno : ¬ (q * y0 > 4294967296 * r + d1) := by rw [ht]; omega
  have hp0 : 0 ≤ q * y0 := Int.mul_nonneg (by omega) hy0
  have hp1 : q * y0 ≤ 4294967295 * 4294967295 := Int.mul_le_mul (by omega) (by omega) hy0 (by decide)
  have hb : decide (IntKind.u64.wrap (q * y0) > IntKind.u64.wrap (IntKind.u64.wrap (4294967296 * r) + d1)) = false := by
   rw [decide_eq_false_iff_not]
   generalize q * y0 = P at *
   simp only [wu]
   omega
  simp only [bits_Div64.l0]
  rw [if_neg (by omega), hb]
  simp only [bits_Div64.j1]
  rw [if_neg (by decide)]
  exact j2_ends hy1 hy1' hy0 hy0' hy hu0 huy hd hd' hd0 hd0' hs hq' k (by omega)
 | succ n ih =>
  intro k q r hur hr0 hr1 hq hq1 hk
  obtain ⟨k, rfl⟩ : ∃ m, k = m + 2 := ⟨k - 2, by omega⟩
  have ht := @test_iff u q y1 y0 r d1 hur (by omega)
  rw [← hy] at ht
  have hyes : q * y0 > 4294967296 * r + d1 := by rw [ht]; omega
  have hp0 : 0 ≤ q * y0 := Int.mul_nonneg (by omega) hy0
  have step : bits_Div64.j1 (k + 1) y s y1 y0 u d1 d0 q r true = some ((u * 18446744073709551616 + d1 * 4294967296 + d0) / y, shr .u64 ((u * 18446744073709551616 + d1 * 4294967296 + d0) % y) s) := by
   simp only [bits_Div64.j1]
   rw [if_true, wu_in (x := r + y1) (by omega) (by omega), wu_in (x := q - 1) (by omega) (by omega)]
   by_cases hbr : r + y1 ≥ 4294967296
   ·have hle := @break_le u q y1 y0 r d1 hur hy0 hy0' hq1 (by omega) hd (by omega) (by omega)
    rw [← hy] at hle
    have hq' : q - 1 = (u * 4294967296 + d1) / y := by omega
    rw [if_pos hbr]
    exact j2_ends hy1 hy1' hy0 hy0' hy hu0 huy hd hd' hd0 hd0' hs hq' k (by omega)
   ·rw [if_neg hbr]
    exact ih k (q - 1) (r + y1) (by rw [Int.sub_mul]; omega) (by omega) (by omega) (by omega) (by omega) (by omega)
  simp only [bits_Div64.l0]
  by_cases hbig : q ≥ 4294967296
  ·rw [if_pos hbig]
   exact step
  ·have hp1 : q * y0 ≤ 4294967295 * 4294967295 := Int.mul_le_mul (by omega) (by omega) hy0 (by decide)
   have hb : decide (IntKind.u64.wrap (q * y0) > IntKind.u64.wrap (IntKind.u64.wrap (4294967296 * r) + d1)) = true := by
    rw [decide_eq_true_eq]
    generalize q * y0 = P at *
    simp only [wu]
    omega
   rw [if_neg hbig, hb]
   exact step

theorem or_add {a b : Int} (s : Nat) (ha : 0 ≤ a) (hb : 0 ≤ b) (hb' : b < 2 ^ s) (hab : a * 2 ^ s + b < 18446744073709551616) : Go.bits .or .u64 (a * 2 ^ s) b = a * 2 ^ s + b := by
 obtain ⟨a, rfl⟩ := Int.eq_ofNat_of_zero_le ha
 obtain ⟨b, rfl⟩ := Int.eq_ofNat_of_zero_le hb
 have hb2 : b < 2 ^ s := by exact_mod_cast hb'
 have e : ((a : Int) * 2 ^ s) = ((a * 2 ^ s : Nat) : Int) := by rw [Int.natCast_mul, Int.natCast_pow]; rfl
 rw [e] at hab ⊢
 rw [bits_or_u64_nat _ _ (by omega) (by omega), Nat.mul_comm a, ← Nat.two_pow_add_eq_or_of_lt hb2 a, Int.natCast_add]

theorem and_low {x : Int} (h0 : 0 ≤ x) (h1 : x < 18446744073709551616) : Go.bits .and .u64 x 4294967295 = x % 4294967296 := by
 obtain ⟨x, rfl⟩ := Int.eq_ofNat_of_zero_le h0
 have h := bits_and_u64_nat x 4294967295 (by omega) (by decide)
 have e : x &&& 4294967295 = x % 4294967296 := Nat.and_two_pow_sub_one_eq_mod x 32
 rw [e] at h
 refine h.trans ?_
 omega

theorem div64 {hi lo y : Int} (h0 : 0 ≤ hi) (h1 : hi < y) (hl0 : 0 ≤ lo) (hl1 : lo < 18446744073709551616) (hy : y < 18446744073709551616) :
  ∃ k, bits_Div64.f k hi lo y = some ((hi * 18446744073709551616 + lo) / y, (hi * 18446744073709551616 + lo) % y) := by
 by_cases hz : hi = 0
 ·subst hz
  refine ⟨0, ?_⟩
  unfold bits_Div64.f
  rw [if_neg (by omega), if_neg (by omega), if_pos rfl, Int.tdiv_eq_ediv_of_nonneg hl0, Int.tmod_eq_emod_of_nonneg hl0, Int.zero_mul, Int.zero_add]
  have q0 : 0 ≤ lo / y := Int.ediv_nonneg hl0 (by omega)
  have q1 : lo / y ≤ lo := Int.ediv_le_self _ hl0
  rw [wu_in q0 (by omega)]
 ·obtain ⟨yn, hyn⟩ := Int.eq_ofNat_of_zero_le (show 0 ≤ y by omega)
  have hb := Lib.bitLenAux_bounds 64 yn (by omega) (by omega)
  have hb' : 1 ≤ Lib.bitLen yn ∧ 2 ^ (Lib.bitLen yn - 1) ≤ yn ∧ yn < 2 ^ Lib.bitLen yn := hb
  have hle := Lib.bitLen_le yn 64 (by omega) (by omega)
  obtain ⟨L, hL⟩ : ∃ L, Lib.bitLen yn = L := ⟨_, rfl⟩
  rw [hL] at hb' hle
  obtain ⟨b1, b2, b3⟩ := hb'
  obtain ⟨s, hs⟩ : ∃ s, s + L = 64 := ⟨64 - L, by omega⟩
  have hs64 : s < 64 := by omega
  have hTT : (2 : Int) ^ s * 2 ^ (64 - s) = 18446744073709551616 := by
   rw [← Int.pow_add, show s + (64 - s) = 64 by omega]; rfl
  have hT : (0 : Int) < 2 ^ s := Int.pow_pos (by decide)
  have hT' : (0 : Int) < 2 ^ (64 - s) := Int.pow_pos (by decide)
  have hyT1 : y * 2 ^ s < 18446744073709551616 := by
   rw [hyn, ← hTT, Int.mul_comm ((2 : Int) ^ s)]
   refine Int.mul_lt_mul_of_pos_right ?_ hT
   rw [show 64 - s = L by omega]
   exact_mod_cast b3
  have hyT0 : 9223372036854775808 ≤ y * 2 ^ s := by
   have e : (9223372036854775808 : Int) = 2 ^ (L - 1) * 2 ^ s := by
    rw [← Int.pow_add, show L - 1 + s = 63 by omega]; rfl
   rw [e, hyn]
   refine Int.mul_le_mul_of_nonneg_right ?_ (by omega)
   exact_mod_cast b2
  obtain ⟨sp1, sp2⟩ := split_lo hT hT' hTT hl0
  have hlt := sp2 hl1
  have hl2 : 0 ≤ lo / 2 ^ (64 - s) := Int.ediv_nonneg hl0 (by omega)
  have hhiT : hi * 2 ^ s + 2 ^ s ≤ y * 2 ^ s := by
   have : (hi + 1) * 2 ^ s ≤ y * 2 ^ s := Int.mul_le_mul_of_nonneg_right (by omega) (by omega)
   rwa [Int.add_mul, Int.one_mul] at this
  have hhi0 : 0 ≤ hi * 2 ^ s := Int.mul_nonneg h0 (by omega)
  have hz0 : bits_LeadingZeros64.f y = some (s : Int) := by
   unfold bits_LeadingZeros64.f
   rw [if_pos (by omega), hyn, Int.toNat_natCast, hL]
   congr 1
   omega
  have hor := or_add (a := hi) (b := lo / 2 ^ (64 - s)) s h0 hl2 hlt (by omega)
  have hshl : ∀ x : Int, shl .u64 x (s : Int) = (x * 2 ^ s) % 18446744073709551616 := by
   intro x
   unfold shl
   rw [wu, Int.toNat_natCast, show min s IntKind.u64.bits = s from Nat.min_eq_left (by show s ≤ 64; omega)]
  have hshr : ∀ (x : Int) (m : Nat), m ≤ 64 → shr .u64 x (m : Int) = x / 2 ^ m := by
   intro x m hm
   unfold shr
   rw [Int.toNat_natCast, show min m IntKind.u64.bits = m from Nat.min_eq_left hm]
  have e64 : IntKind.u64.wrap (64 - IntKind.u64.wrap (s : Int)) = ((64 - s : Nat) : Int) := by simp only [wu]; omega
  have hy' : y * 2 ^ s % 18446744073709551616 = y * 2 ^ s := by omega
  have hhi' : hi * 2 ^ s % 18446744073709551616 = hi * 2 ^ s := by omega
  have hlast := scaled (N := hi * 18446744073709551616 + lo) (y := y) hT (by omega)
  have hN : (hi * 18446744073709551616 + lo) * 2 ^ s = (hi * 2 ^ s + lo / 2 ^ (64 - s)) * 18446744073709551616 + (lo * 2 ^ s) % 18446744073709551616 := by
   rw [Int.add_mul, sp1, Int.mul_right_comm]
   generalize hi * 2 ^ s = a at *
   generalize lo / 2 ^ (64 - s) = b at *
   omega
  have hu10 : 0 ≤ (lo * 2 ^ s) % 18446744073709551616 := Int.emod_nonneg _ (by decide)
  have hu10' : (lo * 2 ^ s) % 18446744073709551616 < 18446744073709551616 := Int.emod_lt_of_pos _ (by decide)
  have key : ∃ k, bits_Div64.l0 k (y * 2 ^ s) (s : Int) (y * 2 ^ s / 4294967296) (y * 2 ^ s % 4294967296) (hi * 2 ^ s + lo / 2 ^ (64 - s)) ((lo * 2 ^ s) % 18446744073709551616 / 4294967296) ((lo * 2 ^ s) % 18446744073709551616 % 4294967296)
    ((hi * 2 ^ s + lo / 2 ^ (64 - s)) / (y * 2 ^ s / 4294967296)) ((hi * 2 ^ s + lo / 2 ^ (64 - s)) % (y * 2 ^ s / 4294967296)) = some ((hi * 18446744073709551616 + lo) / y, (hi * 18446744073709551616 + lo) % y) := by
   rw [← hlast.1, ← hlast.2, hN]
   generalize hU : hi * 2 ^ s + lo / 2 ^ (64 - s) = U at *
   generalize hD : (lo * 2 ^ s) % 18446744073709551616 = D at *
   generalize hY : y * 2 ^ s = Y at *
   have g0 : 0 ≤ U / (Y / 4294967296) := Int.ediv_nonneg (by omega) (by omega)
   have g1 := @guess_le U (Y / 4294967296) (Y % 4294967296) (by omega) (by omega) (by omega)
   have g2 := @guess_ge U (Y / 4294967296) (Y % 4294967296) (D / 4294967296) (by omega) (by omega) (by omega) (by omega)
   have g3 := Int.emod_nonneg U (show Y / 4294967296 ≠ 0 by omega)
   have g4 := Int.emod_lt_of_pos U (show 0 < Y / 4294967296 by omega)
   have g5 := Int.mul_ediv_add_emod U (Y / 4294967296)
   rw [Int.mul_comm] at g5
   have eY : Y / 4294967296 * 4294967296 + Y % 4294967296 = Y := by omega
   rw [eY] at g2
   have := l0_ends (y := Y) (s := (s : Int)) (u := U) (d1 := D / 4294967296) (d0 := D % 4294967296) (y1 := Y / 4294967296) (y0 := Y % 4294967296) (by omega) (by omega) (by omega) (by omega) eY.symm (by omega) (by omega) (by omega) (by omega) (by omega) (by omega) (by omega)
    (U / (Y / 4294967296) - (U * 4294967296 + D / 4294967296) / Y).toNat _ (U / (Y / 4294967296)) (U % (Y / 4294967296)) g5.symm g3 (by omega) (by omega) g1 (Nat.le_refl _)
   refine ⟨_, this.trans ?_⟩
   have e : U * 18446744073709551616 + D / 4294967296 * 4294967296 + D % 4294967296 = U * 18446744073709551616 + D := by omega
   rw [e, hshr _ s (by omega)]
  obtain ⟨k, hk⟩ := key
  refine ⟨k, ?_⟩
  unfold bits_Div64.f
  rw [if_neg (by omega), if_neg (by omega), if_neg hz, hz0]
  simp only [Option.bind_some]
  rw [e64, wu_in (x := (s : Int)) (by omega) (by omega), if_pos (by omega), if_pos (by omega)]
  simp only [hshl, hshr lo (64 - s) (by omega), hy', hhi', hor]
  generalize hU : hi * 2 ^ s + lo / 2 ^ (64 - s) = U at *
  generalize hY : y * 2 ^ s = Y at *
  rw [if_neg (by omega), and_low (by omega) (by omega), and_low hu10 hu10', Int.tdiv_eq_ediv_of_nonneg (by omega)]
  have g0 : 0 ≤ U / (Y / 4294967296) := Int.ediv_nonneg (by omega) (by omega)
  have g1 := @guess_le U (Y / 4294967296) (Y % 4294967296) (by omega) (by omega) (by omega)
  have g3 := Int.emod_nonneg U (show Y / 4294967296 ≠ 0 by omega)
  have g5 := Int.mul_ediv_add_emod U (Y / 4294967296)
  rw [Int.mul_comm] at g5
  rw [wu_in (x := U / (Y / 4294967296)) g0 (by omega)]
  have gp : 0 ≤ U / (Y / 4294967296) * (Y / 4294967296) := Int.mul_nonneg g0 (by omega)
  have e : IntKind.u64.wrap (U - IntKind.u64.wrap (U / (Y / 4294967296) * (Y / 4294967296))) = U % (Y / 4294967296) := by
   generalize U / (Y / 4294967296) * (Y / 4294967296) = P at *
   simp only [wu]
   omega
  rw [e]
  exact hk
end Go.Proofs.YtpljkcakijkklaaDoor

end
