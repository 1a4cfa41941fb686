/-
  Texts of this seat, joined, less what CoreLazy does not lean on: FixWalk, FixOver, FixFns.
-/
import Derived.Test.YtpljkcakijkklaaDoorQCoreLazy13
import Derived.Test.YtpljkcakijkklaaDoorQCoreLazy15
import Derived.WalkSpells
import Derived.BigQuiet
import Derived.Deep.QuietTactic
import Derived.Below
import Derived.Lib.Hide
set_option linter.unusedVariables false
set_option linter.unusedSimpArgs false
section
namespace Go.Proofs.YtpljkcakijkklaaDoor
set_option linter.unusedVariables false
set_option linter.unusedSimpArgs false
open Go.RowKit Go.Shelf Go.Proofs.YtpljkcakijkklaaDoorW

structure IsW (x lo hi : Int) : Prop where
 lo_eq : lo = x % 18446744073709551616
 hi_eq : hi = x / 18446744073709551616 % 18446744073709551616
theorem IsW.lo0 {x lo hi : Int} (h : IsW x lo hi) : 0 ≤ lo := by rw [h.lo_eq]; omega
theorem IsW.lo1 {x lo hi : Int} (h : IsW x lo hi) : lo < 18446744073709551616 := by rw [h.lo_eq]; omega
theorem IsW.hi0 {x lo hi : Int} (h : IsW x lo hi) : 0 ≤ hi := by rw [h.hi_eq]; omega
theorem IsW.hi1 {x lo hi : Int} (h : IsW x lo hi) : hi < 18446744073709551616 := by rw [h.hi_eq]; omega
theorem bcell {W w1 : World} (hb : Below W.heap.size W w1) : (∀ b o, b < W.heap.size → w1.cell? ⟨b, o, none⟩ = W.cell? ⟨b, o, none⟩) ∧ (∀ b o, b < W.heap.size → w1.frozen? ⟨b, o, none⟩ = W.frozen? ⟨b, o, none⟩) :=
 ⟨fun b o h => hb.cell (p := ⟨b, o, none⟩) h, fun b o h => hb.frozen (p := ⟨b, o, none⟩) h⟩
def Says (x : Int) (w : World) (e : Ending) (w' : World) : Prop := ∃ lo hi : Int, IsW x lo hi ∧ e = .returned (.agg #[.int .u64 lo, .int .u64 hi]) ∧ Below w.heap.size w w'

theorem of_words {v : Int} (h0 : -9223372036854775808 ≤ v) (h1 : v < 9223372036854775808) : IsW v (IntKind.u64.wrap v) (IntKind.u64.wrap (v / 9223372036854775808)) := by
 simp only [wu]
 exact ⟨rfl, by omega⟩

theorem of_any (v : Int) (h0 : -9223372036854775808 ≤ v) (h1 : v < 9223372036854775808) (w : World) : Calls Tryd.prog 89 #[.int .i64 v] w (Says v w) := by
 have hw := of_words h0 h1
 go_enter Tryd.func89, Tryd.ntmps89
 go_wp2
 simp [bodyPost, results, Tryd.results89, go_sem]
 exact ⟨_, _, hw, rfl, (Below.refl _ _).alloc (Nat.le_refl _) _⟩

theorem plus_words {x y a b c d : Int} (hx : IsW x a b) (hy : IsW y c d) : IsW (x + y) ((a + c) % 18446744073709551616) ((b + d + (a + c) / 18446744073709551616) % 18446744073709551616) := by
 obtain ⟨rfl, rfl⟩ := hx
 obtain ⟨rfl, rfl⟩ := hy
 exact ⟨by omega, by omega⟩

theorem plus_any {x y a b c d : Int} (hx : IsW x a b) (hy : IsW y c d) (w : World) : Calls Tryd.prog 88 #[.agg #[.int .u64 a, .int .u64 b], .agg #[.int .u64 c, .int .u64 d]] w (Says (x + y) w) := by
 have hw := plus_words hx hy
 have a0 := hx.lo0; have a1 := hx.lo1; have b0 := hx.hi0; have b1 := hx.hi1
 have c0 := hy.lo0; have c1 := hy.lo1; have d0 := hy.hi0; have d1 := hy.hi1
 have k0 : 0 ≤ (a + c) / 18446744073709551616 := by omega
 have k1 : (a + c) / 18446744073709551616 ≤ 1 := by omega
 go_enter Tryd.func88, Tryd.ntmps88
 go_wp2_with (first | simp only [add64_0 a c a0 c0] | simp only [add64 b d _ b0 d0 k0 k1])
 simp [bodyPost, results, Tryd.results88, go_sem]
 exact ⟨_, _, hw, rfl, (((Below.refl _ _).alloc (Nat.le_refl _) _).alloc (by simp) _).alloc (by simp; omega) _⟩

theorem minus_words {x a b : Int} (hx : IsW x a b) : IsW (-x) (-a % 18446744073709551616) ((-b - bor 0 a) % 18446744073709551616) := by
 obtain ⟨rfl, rfl⟩ := hx
 unfold bor
 refine ⟨by omega, ?_⟩
 split <;> omega
theorem bor_01 (x y : Int) : 0 ≤ bor x y ∧ bor x y ≤ 1 := by unfold bor; split <;> omega

theorem minus_any {x a b : Int} (hx : IsW x a b) (w : World) : Calls Tryd.prog 57 #[.agg #[.int .u64 a, .int .u64 b]] w (Says (-x) w) := by
 have hw := minus_words hx
 have a0 := hx.lo0; have a1 := hx.lo1; have b0 := hx.hi0; have b1 := hx.hi1
 obtain ⟨k0, k1⟩ := bor_01 0 a
 have e1 := fun w => sub64n 0 a 0 (Int.le_refl 0) a0 a1 (Int.le_refl 0) (by decide) w
 have e2 := fun w => sub64n 0 b (bor 0 a) (Int.le_refl 0) b0 b1 k0 k1 w
 rw [Int.add_zero, Int.sub_zero] at e1
 go_enter Tryd.func57, Tryd.ntmps57
 go_wp2_with (first | simp only [e1] | simp only [e2])
 simp [bodyPost, results, Tryd.results57, go_sem]
 exact ⟨_, _, hw, rfl, ((Below.refl _ _).alloc (Nat.le_refl _) _).alloc (by simp) _⟩

theorem below_words {x a b : Int} (hx : IsW x a b) (h0 : -170141183460469231731687303715884105728 ≤ x) (h1 : x < 170141183460469231731687303715884105728) : decide (wrap64 b < 0) = decide (x < 0) := by
 obtain ⟨rfl, rfl⟩ := hx
 unfold wrap64
 rw [decide_eq_decide]
 omega

theorem below_any {x a b : Int} (hx : IsW x a b) (h0 : -170141183460469231731687303715884105728 ≤ x) (h1 : x < 170141183460469231731687303715884105728) (w : World) :
  Calls Tryd.prog 59 #[.agg #[.int .u64 a, .int .u64 b]] w fun e w' => e = .returned (.bool (decide (x < 0))) ∧ Below w.heap.size w w' := by
 have hw := below_words hx h0 h1
 go_enter Tryd.func59, Tryd.ntmps59
 go_wp2
 go_ret
 exact ⟨by simp [hw], (Below.refl _ _).alloc (Nat.le_refl _) _⟩

def inR (x : Int) : Bool := decide (-9223372036854775808 ≤ x ∧ x < 9223372036854775808)
theorem inR_iff {x : Int} : inR x = true ↔ -9223372036854775808 ≤ x ∧ x < 9223372036854775808 := by simp [inR]
theorem fit_words {x a b : Int} (hx : IsW x a b) (h0 : -170141183460469231731687303715884105728 ≤ x) (h1 : x < 170141183460469231731687303715884105728) :
  (b == IntKind.u64.wrap (wrap64 a / 9223372036854775808)) = inR x ∧ (inR x = true → wrap64 a = x) := by
 obtain ⟨rfl, rfl⟩ := hx
 rw [inR_iff, Bool.eq_iff_iff, inR_iff, beq_iff_eq]
 by_cases h : x % 18446744073709551616 < 9223372036854775808
 ·have e : wrap64 (x % 18446744073709551616) = x % 18446744073709551616 := by unfold wrap64; omega
  have e2 : x % 18446744073709551616 / 9223372036854775808 = 0 := by omega
  rw [e, e2, wu]
  omega
 ·have e : wrap64 (x % 18446744073709551616) = x % 18446744073709551616 - 18446744073709551616 := by unfold wrap64; omega
  have e2 : (x % 18446744073709551616 - 18446744073709551616) / 9223372036854775808 = -1 := by omega
  rw [e, e2, wu]
  omega

theorem fit_yes {x a b : Int} (hx : IsW x a b) (h0 : -170141183460469231731687303715884105728 ≤ x) (h1 : x < 170141183460469231731687303715884105728) (hr : inR x = true) (w : World) :
  Calls Tryd.prog 58 #[.agg #[.int .u64 a, .int .u64 b]] w fun e w' => e = .returned (.tuple #[.int .i64 x, .bool true]) ∧ Below w.heap.size w w' := by
 obtain ⟨e1, e2⟩ := fit_words hx h0 h1
 have e3 := e2 hr
 rw [hr, e3] at e1
 have HE := Lib.hid e3
 clear e2 e3 hr
 go_enter Tryd.func58, Tryd.ntmps58
 go_wp2
 rw [HE.out]
 go_quiet (fail)
 go_wp2
 go_ret2
 exact ⟨by simp, PrintWords.pw_below_drewN ((Below.refl _ _).alloc (Nat.le_refl _) _) _⟩

theorem fit_no {x a b : Int} (hx : IsW x a b) (h0 : -170141183460469231731687303715884105728 ≤ x) (h1 : x < 170141183460469231731687303715884105728) (hr : inR x = false) (w : World) :
  Calls Tryd.prog 58 #[.agg #[.int .u64 a, .int .u64 b]] w fun e w' => e = .returned (.tuple #[.int .i64 (wrap64 a), .bool false]) ∧ Below w.heap.size w w' := by
 obtain ⟨e1, e2⟩ := fit_words hx h0 h1
 rw [hr] at e1
 clear e2 hr
 go_enter Tryd.func58, Tryd.ntmps58
 go_wp2
 go_quiet (fail)
 go_wp2
 go_ret2
 exact ⟨by simp, PrintWords.pw_below_drewN ((Below.refl _ _).alloc (Nat.le_refl _) _) _⟩

def heldI (x : Int) : Int := if x < -9223372036854775808 then -9223372036854775808 else if 9223372036854775807 < x then 9223372036854775807 else x
theorem heldI_in {x : Int} (h : inR x = true) : heldI x = x := by
 rw [inR_iff] at h
 unfold heldI
 rw [if_neg (by omega), if_neg (by omega)]
theorem heldI_range (x : Int) : -9223372036854775808 ≤ heldI x ∧ heldI x ≤ 9223372036854775807 := by
 unfold heldI
 split
 ·omega
 ·split <;> omega

theorem held_any {x a b : Int} (hx : IsW x a b) (h0 : -170141183460469231731687303715884105728 ≤ x) (h1 : x < 170141183460469231731687303715884105728) (w : World) :
  Calls Tryd.prog 46 #[.agg #[.int .u64 a, .int .u64 b]] w fun e w' => e = .returned (.int .i64 (heldI x)) ∧ Below w.heap.size w w' := by
 cases hr : inR x with
 | true =>
  have hh := heldI_in hr
  have HH := Lib.hid hh
  have C := fun w => fit_yes hx h0 h1 hr w
  have HC := Lib.hid C
  clear hh C hr
  go_enter Tryd.func46, Tryd.ntmps46
  go_wp2_with (go_at_call 58; refine (HC.out _).mono ?_; rintro e w1 ⟨rfl, hb⟩)
  go_ret
  rw [HH.out]
  exact ⟨by simp, ((Below.refl _ _).alloc (Nat.le_refl _) _).trans (hb.mono (by simp))⟩
 | false =>
  have C := fun w => fit_no hx h0 h1 hr w
  have HC := Lib.hid C
  have hn : ¬ (-9223372036854775808 ≤ x ∧ x < 9223372036854775808) := by rw [← inR_iff, hr]; decide
  have D := fun w => below_any hx h0 h1 w
  have HD := Lib.hid D
  clear C D hr
  by_cases hs : x < 0
  ·have hh : heldI x = -9223372036854775808 := by unfold heldI; rw [if_pos (by omega)]
   have HH := Lib.hid hh
   have hd : decide (x < 0) = true := decide_eq_true hs
   clear hh hs hn
   go_enter Tryd.func46, Tryd.ntmps46
   go_wp2_with (first | (go_at_call 58; refine (HC.out _).mono ?_; rintro e w1 ⟨rfl, hb⟩; obtain ⟨hc, hf⟩ := bcell hb) | (go_at_call 59; refine (HD.out _).mono ?_; rintro e w2 ⟨rfl, hb2⟩))
   go_ret
   rw [HH.out]
   exact ⟨by simp, (((Below.refl _ _).alloc (Nat.le_refl _) _).trans (hb.mono (by simp))).trans (hb2.mono (by have := hb.size; simp at this; omega))⟩
  ·have hh : heldI x = 9223372036854775807 := by unfold heldI; rw [if_neg (by omega), if_pos (by omega)]
   have HH := Lib.hid hh
   have hd : decide (x < 0) = false := decide_eq_false hs
   clear hh hs hn
   go_enter Tryd.func46, Tryd.ntmps46
   go_wp2_with (first | (go_at_call 58; refine (HC.out _).mono ?_; rintro e w1 ⟨rfl, hb⟩; obtain ⟨hc, hf⟩ := bcell hb) | (go_at_call 59; refine (HD.out _).mono ?_; rintro e w2 ⟨rfl, hb2⟩))
   go_ret
   rw [HH.out]
   exact ⟨by simp, (((Below.refl _ _).alloc (Nat.le_refl _) _).trans (hb.mono (by simp))).trans (hb2.mono (by have := hb.size; simp at this; omega))⟩

theorem size_pos (v : Int) (h : 0 ≤ v) (h1 : v < 9223372036854775808) (w : World) : Calls Tryd.prog 56 #[.int .i64 v] w fun e w' => e = .returned (.int .u64 v) ∧ w = w' := by
 have hd : decide (v < 0) = false := decide_eq_false (by omega)
 have hw : IntKind.u64.wrap v = v := wu_in h (by omega)
 go_enter Tryd.func56, Tryd.ntmps56
 go_wp2
 go_ret
 exact ⟨by simp, rfl⟩
theorem size_neg (v : Int) (h : v < 0) (h1 : -9223372036854775808 ≤ v) (w : World) : Calls Tryd.prog 56 #[.int .i64 v] w fun e w' => e = .returned (.int .u64 (-v)) ∧ w = w' := by
 have hd : decide (v < 0) = true := decide_eq_true h
 have hw : IntKind.u64.wrap (-IntKind.u64.wrap v) = -v := by simp only [wu]; omega
 have HW := Lib.hid hw
 clear hw
 go_enter Tryd.func56, Tryd.ntmps56
 go_wp2
 go_ret
 exact ⟨by simp [HW.out], rfl⟩

theorem prod_words {P : Int} (h0 : 0 ≤ P) (h1 : P ≤ 85070591730234615865843651857942052864) : IsW P (P % 18446744073709551616) (P / 18446744073709551616) := ⟨rfl, by omega⟩
theorem prod_range {x y : Int} (hx0 : 0 ≤ x) (hx1 : x ≤ 9223372036854775808) (hy0 : 0 ≤ y) (hy1 : y ≤ 9223372036854775808) : 0 ≤ x * y ∧ x * y ≤ 85070591730234615865843651857942052864 :=
 ⟨Int.mul_nonneg hx0 hy0, Int.le_trans (Int.mul_le_mul hx1 hy1 hy0 (by decide)) (by decide)⟩
end Go.Proofs.YtpljkcakijkklaaDoor

end
section
namespace Go.Proofs.YtpljkcakijkklaaDoor
set_option linter.unusedVariables false
set_option linter.unusedSimpArgs false
open Go.RowKit Go.Shelf Go.Proofs.YtpljkcakijkklaaDoorW

theorem times_same (a b : Int) (a0 : -9223372036854775808 ≤ a) (a1 : a < 9223372036854775808) (b0 : -9223372036854775808 ≤ b) (b1 : b < 9223372036854775808) (hs : (0 ≤ a ∧ 0 ≤ b) ∨ (a < 0 ∧ b < 0)) (w : World) :
  Calls Tryd.prog 45 #[.int .i64 a, .int .i64 b] w (Says (a * b) w) := by
 rcases hs with ⟨ha, hb⟩ | ⟨ha, hb⟩
 ·obtain ⟨p0, p1⟩ := prod_range ha (by omega) hb (show b ≤ 9223372036854775808 by omega)
  have hw := prod_words p0 p1
  have da : decide (a < 0) = false := decide_eq_false (by omega)
  have db : decide (b < 0) = false := decide_eq_false (by omega)
  have CA := Lib.hid fun w => size_pos a ha a1 w
  have CB := Lib.hid fun w => size_pos b hb b1 w
  have CM := Lib.hid fun w => mul64 a b ha (by omega) hb (by omega) w
  clear p0 p1
  go_enter Tryd.func45, Tryd.ntmps45
  go_wp2_with (first | (go_at_call 56; (with_reducible refine (CA.out _).mono ?_); rintro e w' ⟨rfl, rfl⟩) | (go_at_call 56; (with_reducible refine (CB.out _).mono ?_); rintro e w' ⟨rfl, rfl⟩) | (go_at_call 55; refine (CM.out _).mono ?_; rintro e w' ⟨rfl, rfl⟩))
  simp [bodyPost, results, Tryd.results45, go_sem]
  exact ⟨_, _, hw, rfl, ((Below.refl _ _).alloc (Nat.le_refl _) _).alloc (by simp) _⟩
 ·obtain ⟨p0, p1⟩ := prod_range (x := -a) (y := -b) (by omega) (by omega) (by omega) (by omega)
  have hw0 := prod_words p0 p1
  have hw : IsW (a * b) (-a * -b % 18446744073709551616) (-a * -b / 18446744073709551616) := by
   rw [← Int.neg_mul_neg a b]
   exact hw0
  clear hw0
  have da : decide (a < 0) = true := decide_eq_true ha
  have db : decide (b < 0) = true := decide_eq_true hb
  have CA := Lib.hid fun w => size_neg a ha a0 w
  have CB := Lib.hid fun w => size_neg b hb b0 w
  have CM := Lib.hid fun w => mul64 (-a) (-b) (by omega) (by omega) (by omega) (by omega) w
  clear p0 p1
  go_enter Tryd.func45, Tryd.ntmps45
  go_wp2_with (first | (go_at_call 56; (with_reducible refine (CA.out _).mono ?_); rintro e w' ⟨rfl, rfl⟩) | (go_at_call 56; (with_reducible refine (CB.out _).mono ?_); rintro e w' ⟨rfl, rfl⟩) | (go_at_call 55; refine (CM.out _).mono ?_; rintro e w' ⟨rfl, rfl⟩))
  simp [bodyPost, results, Tryd.results45, go_sem]
  exact ⟨_, _, hw, rfl, ((Below.refl _ _).alloc (Nat.le_refl _) _).alloc (by simp) _⟩

theorem times_apart (a b A B : Int) (hA0 : 0 ≤ A) (hA1 : A ≤ 9223372036854775808) (hB0 : 0 ≤ B) (hB1 : B ≤ 9223372036854775808)
  (ca : ∀ w, Calls Tryd.prog 56 #[.int .i64 a] w fun e w' => e = .returned (.int .u64 A) ∧ w = w') (cb : ∀ w, Calls Tryd.prog 56 #[.int .i64 b] w fun e w' => e = .returned (.int .u64 B) ∧ w = w')
  (da db : Bool) (ha : decide (a < 0) = da) (hb : decide (b < 0) = db) (hd : (!da == db) = true) (hP : -(A * B) = a * b) (w : World) :
  Calls Tryd.prog 45 #[.int .i64 a, .int .i64 b] w (Says (a * b) w) := by
 obtain ⟨p0, p1⟩ := prod_range hA0 hA1 hB0 hB1
 have CN := Lib.hid fun w => minus_any (prod_words p0 p1) w
 have CA := Lib.hid ca
 have CB := Lib.hid cb
 have CM := Lib.hid fun w => mul64 A B hA0 (by omega) hB0 (by omega) w
 have HP := Lib.hid hP
 clear p0 p1 ca cb hP
 go_enter Tryd.func45, Tryd.ntmps45
 go_wp2_with (first | (go_at_call 56; (with_reducible refine (CA.out _).mono ?_); rintro e w' ⟨rfl, rfl⟩) | (go_at_call 56; (with_reducible refine (CB.out _).mono ?_); rintro e w' ⟨rfl, rfl⟩) | (go_at_call 55; refine (CM.out _).mono ?_; rintro e w' ⟨rfl, rfl⟩) | (go_at_call 57; refine (CN.out _).mono ?_; rintro e w1 ⟨lo, hi, hw, rfl, hb1⟩; obtain ⟨hc, hf⟩ := bcell hb1))
 rw [← HP.out]
 refine bodyPost_ret (v := .agg #[.int .u64 lo, .int .u64 hi]) ?_ rfl ⟨lo, hi, hw, rfl, ?_⟩
 ·have k0 : w1.cell? ⟨w.heap.size, 0, none⟩ = some (.int .u64 0) := by rw [hc _ _ (by simp; omega)]; simp [go_sem]
  have k1 : w1.cell? ⟨w.heap.size, 1, none⟩ = some (.int .u64 0) := by rw [hc _ _ (by simp; omega)]; simp [go_sem]
  simp [results, Tryd.results45, go_sem, k0, k1]
 ·exact (((((Below.refl _ _).alloc (Nat.le_refl _) _).alloc (by simp) _).trans (hb1.mono (by simp; omega))).setCell (by simp) _).setCell (by simp) _

theorem times_any (a b : Int) (a0 : -9223372036854775808 ≤ a) (a1 : a < 9223372036854775808) (b0 : -9223372036854775808 ≤ b) (b1 : b < 9223372036854775808) (w : World) :
  Calls Tryd.prog 45 #[.int .i64 a, .int .i64 b] w (Says (a * b) w) := by
 by_cases ha : a < 0
 ·by_cases hb : b < 0
  ·exact times_same a b a0 a1 b0 b1 (.inr ⟨ha, hb⟩) w
  ·exact times_apart a b (-a) b (by omega) (by omega) (by omega) (by omega) (size_neg a ha a0) (size_pos b (by omega) b1) true false (decide_eq_true ha) (decide_eq_false hb) rfl (by rw [Int.neg_mul, Int.neg_neg]) w
 ·by_cases hb : b < 0
  ·exact times_apart a b a (-b) (by omega) (by omega) (by omega) (by omega) (size_pos a (by omega) a1) (size_neg b hb b0) false true (decide_eq_false ha) (decide_eq_true hb) rfl (by rw [Int.mul_neg, Int.neg_neg]) w
  ·exact times_same a b a0 a1 b0 b1 (.inl ⟨by omega, by omega⟩) w

theorem div64_any {hi lo y : Int} (h0 : 0 ≤ hi) (h1 : hi < y) (hl0 : 0 ≤ lo) (hl1 : lo < 18446744073709551616) (hy : y < 18446744073709551616) (w : World) :
  Calls Tryd.prog 87 #[.int .u64 hi, .int .u64 lo, .int .u64 y] w fun e w' => e = .returned (.tuple #[.int .u64 ((hi * 18446744073709551616 + lo) / y), .int .u64 ((hi * 18446744073709551616 + lo) % y)]) ∧ Below w.heap.size w w' := by
 obtain ⟨k, hk⟩ := div64 h0 h1 hl0 hl1 hy
 refine (XDiv64.bits_Div64.calls k hi lo y _ _ w hk).mono ?_
 rintro e w' ⟨rfl, hd⟩
 exact ⟨rfl, hd.below⟩

theorem over_words {x a b d : Int} (hx : IsW x a b) (h0 : 0 ≤ x) (h1 : x < 170141183460469231731687303715884105728) (hd : 0 < d) (hd1 : d < 18446744073709551616) :
  IsW (x / d) ((b % d * 18446744073709551616 + a) / d) (b / d) ∧ (b % d * 18446744073709551616 + a) % d = x % d ∧ 0 ≤ b % d ∧ b % d < d := by
 obtain ⟨rfl, rfl⟩ := hx
 have e : x / 18446744073709551616 % 18446744073709551616 = x / 18446744073709551616 := by omega
 rw [e]
 have r0 := Int.emod_nonneg (x / 18446744073709551616) (show d ≠ 0 by omega)
 have r1 := Int.emod_lt_of_pos (x / 18446744073709551616) hd
 have hm := Int.mul_ediv_add_emod (x / 18446744073709551616) d
 generalize hq : x / 18446744073709551616 / d = q at *
 generalize hr : x / 18446744073709551616 % d = r at *
 have hq0 : 0 ≤ q := by rw [← hq]; exact Int.ediv_nonneg (by omega) (by omega)
 have hq1 : q ≤ x / 18446744073709551616 := by rw [← hq]; exact Int.ediv_le_self _ (by omega)
 have ex : x = (r * 18446744073709551616 + x % 18446744073709551616) + d * (q * 18446744073709551616) := by
  rw [← Int.mul_assoc]
  generalize d * q = P at *
  omega
 have l0 : 0 ≤ (r * 18446744073709551616 + x % 18446744073709551616) / d := Int.ediv_nonneg (by omega) (by omega)
 have l1 : (r * 18446744073709551616 + x % 18446744073709551616) / d < 18446744073709551616 := by
  rw [Int.ediv_lt_iff_lt_mul hd]
  omega
 have ed : x / d = (r * 18446744073709551616 + x % 18446744073709551616) / d + q * 18446744073709551616 := by
  rw [ex, Int.add_mul_ediv_left _ _ (by omega), ← ex]
 have em : x % d = (r * 18446744073709551616 + x % 18446744073709551616) % d := by
  rw [ex, Int.add_mul_emod_self_left, ← ex]
 refine ⟨⟨?_, ?_⟩, em.symm, r0, r1⟩
 ·rw [ed]; omega
 ·rw [ed]; omega
theorem neg_over {m d : Int} (hd : 0 < d) : (-m) / d = if m % d > 0 then -(m / d + 1) else -(m / d) := by
 have h := Int.mul_ediv_add_emod m d
 have r0 := Int.emod_nonneg m (show d ≠ 0 by omega)
 have r1 := Int.emod_lt_of_pos m hd
 generalize m / d = q at *
 generalize m % d = r at *
 split
 ·have e : -m = (d - r) + d * (-(q + 1)) := by rw [Int.mul_neg, Int.mul_add, Int.mul_one]; omega
  rw [e, Int.add_mul_ediv_left _ _ (by omega), Int.ediv_eq_zero_of_lt (by omega) (by omega), Int.zero_add]
 ·have e : -m = 0 + d * (-q) := by rw [Int.mul_neg]; omega
  rw [e, Int.add_mul_ediv_left _ _ (by omega), Int.zero_ediv, Int.zero_add]

theorem over_pos {x a b d : Int} (hx : IsW x a b) (h0 : 0 ≤ x) (h1 : x < 170141183460469231731687303715884105728) (hd : 0 < d) (hd1 : d < 18446744073709551616) (w : World) :
  Calls Tryd.prog 60 #[.agg #[.int .u64 a, .int .u64 b], .int .u64 d] w (Says (x / d) w) := by
 obtain ⟨hw, _, r0, r1⟩ := over_words hx h0 h1 hd hd1
 have CB := Lib.hid fun w => below_any hx (by omega) h1 w
 have CD := Lib.hid fun w => div64_any r0 r1 hx.lo0 hx.lo1 hd1 w
 have dx : decide (x < 0) = false := decide_eq_false (by omega)
 have b0 := hx.hi0; have b1 := hx.hi1
 have dn : (d == 0) = false := by rw [beq_eq_false_iff_ne]; omega
 clear r0 r1
 go_enter Tryd.func60, Tryd.ntmps60
 go_wp2_with (go_at_call 59; refine (CB.out _).mono ?_; rintro e w1 ⟨rfl, hb1⟩; obtain ⟨hc, hf⟩ := bcell hb1; have hz : w.heap.size + 1 < w1.heap.size := by have := hb1.size; simp at this; omega)
 go_quiet (fail)
 go_wp2_with (go_at_call 87; refine (CD.out _).mono ?_; rintro e w2 ⟨rfl, hbd⟩; have hb2 := (PrintWords.pw_below_drewN hb1 _).trans (hbd.mono (by have := hb1.size; simpa using this)); clear hc hf; obtain ⟨hc, hf⟩ := bcell hb2; have hz2 : w.heap.size + 1 < w2.heap.size := by have := hb2.size; simp at this; omega)
 have k0 : w2.cell? ⟨w.heap.size + 1, 0, none⟩ = some (.int .u64 0) := by rw [hc _ _ (by simp)]; simp [go_sem]
 have k1 : w2.cell? ⟨w.heap.size + 1, 1, none⟩ = some (.int .u64 0) := by rw [hc _ _ (by simp)]; simp [go_sem]
 refine bodyPost_ret (v := .agg #[.int .u64 ((b % d * 18446744073709551616 + a) / d), .int .u64 (b / d)]) ?_ rfl ⟨_, _, hw, rfl, ?_⟩
 ·simp [results, Tryd.results60, go_sem, k0, k1, hz2, World.cell?_alloc_past]
 ·have hB : Below w.heap.size w w2 := (((Below.refl _ _).alloc (Nat.le_refl _) _).alloc (by simp) _).trans (hb2.mono (by simp; omega))
  first
  | exact ((hB.alloc (by omega) _).setCell (by simp) _).setCell (by simp) _
  | exact ((hB.setCell (by simp) _).setCell (by simp) _).alloc (by simp; omega) _

theorem two_of {w : World} {g : Nat} {T : TypeId} {u v : Value} (h : w.heap[g]? = some (.cells #[u, v] T (0, 0))) : w.cell? ⟨g, 0, none⟩ = some u ∧ w.cell? ⟨g, 1, none⟩ = some v ∧ w.frozen? ⟨g, 0, none⟩ = false ∧ w.frozen? ⟨g, 1, none⟩ = false :=
 ⟨(PrintWords.blk_cell h 0).trans rfl, (PrintWords.blk_cell h 1).trans rfl, PrintWords.blk_frozen h 0, PrintWords.blk_frozen h 1⟩
theorem two_set {w : World} {g : Nat} {T : TypeId} {u v : Value} (h : w.heap[g]? = some (.cells #[u, v] T (0, 0))) (x y : Value) : ((w.setCell ⟨g, 0, none⟩ x).setCell ⟨g, 1, none⟩ y).heap[g]? = some (.cells #[x, y] T (0, 0)) := by
 simpa using PrintWords.blk_set (PrintWords.blk_set h 0 x) 1 y
theorem two_far {w : World} {g k : Nat} {o : Obj} (h : w.heap[k]? = some o) (hne : k ≠ g) (x y : Value) : ((w.setCell ⟨g, 0, none⟩ x).setCell ⟨g, 1, none⟩ y).heap[k]? = some o := by
 rw [Below.heap_setCell _ _ _ _ hne, Below.heap_setCell _ _ _ _ hne]
 exact h
theorem new_two (w : World) (o o' : Obj) : ((w.alloc o).alloc o').heap[w.heap.size]? = some o ∧ ((w.alloc o).alloc o').heap[w.heap.size + 1]? = some o' :=
 ⟨PrintWords.blk_alloc (PrintWords.blk_new w o) o', by have := PrintWords.blk_new (w.alloc o) o'; simpa using this⟩

theorem over_neg {x a b d : Int} (hx : IsW x a b) (h0 : -170141183460469231731687303715884105728 < x) (h1 : x < 0) (hd : 0 < d) (hd1 : d < 18446744073709551616) (w : World) :
  Calls Tryd.prog 60 #[.agg #[.int .u64 a, .int .u64 b], .int .u64 d] w (Says (x / d) w) := by
 have CB := Lib.hid fun w => below_any hx (by omega) (by omega) w
 have CN := Lib.hid fun w => minus_any hx w
 have dx : decide (x < 0) = true := decide_eq_true h1
 have dn : (d == 0) = false := by rw [beq_eq_false_iff_ne]; omega
 go_enter Tryd.func60, Tryd.ntmps60
 go_wp2_with (first | (go_at_call 59; refine (CB.out _).mono ?_; rintro e w1 ⟨rfl, hb1⟩; obtain ⟨hc, hf⟩ := bcell hb1; have hz : w.heap.size + 1 < w1.heap.size := by have := hb1.size; simp at this; omega) | (go_at_call 57; refine (CN.out _).mono ?_; rintro e w2 ⟨lo, hi, hw, rfl, hbd⟩; have hb2 := hb1.trans (hbd.mono hb1.size); clear hc hf; obtain ⟨hc, hf⟩ := bcell hb2; have hz2 : w.heap.size + 1 < w2.heap.size := by have := hb2.size; simp at this; omega))
 obtain ⟨n0, n1⟩ := new_two w (.cells #[.int .u64 a, .int .u64 b] 94) (.cells #[.int .u64 0, .int .u64 0] 94)
 have b0 := two_set ((hb2.block _ (by simp; omega)).trans n0) (.int .u64 lo) (.int .u64 hi)
 have b1 := two_far ((hb2.block _ (by simp)).trans n1) (g := w.heap.size) (by omega) (.int .u64 lo) (.int .u64 hi)
 have hB : Below w.heap.size w w2 := (((Below.refl _ _).alloc (Nat.le_refl _) _).alloc (by simp) _).trans (hb2.mono (by simp; omega))
 have hB3 := (hB.setCell (p := ⟨w.heap.size, 0, none⟩) (Nat.le_refl _) (.int .u64 lo)).setCell (p := ⟨w.heap.size, 1, none⟩) (Nat.le_refl _) (.int .u64 hi)
 have hz3 : w.heap.size + 1 < ((w2.setCell ⟨w.heap.size, 0, none⟩ (.int .u64 lo)).setCell ⟨w.heap.size, 1, none⟩ (.int .u64 hi)).heap.size := by simp [World.setCell]; omega
 generalize (w2.setCell ⟨w.heap.size, 0, none⟩ (.int .u64 lo)).setCell ⟨w.heap.size, 1, none⟩ (.int .u64 hi) = w3 at *
 clear hc hf n0 n1 hb1 hb2 hbd hB hz hz2 dx CB CN
 obtain ⟨c0, c1, f0, f1⟩ := two_of b0
 obtain ⟨c2, c3, f2, f3⟩ := two_of b1
 have Hb0 := Lib.hid b0
 have Hb1 := Lib.hid b1
 clear b0 b1
 obtain ⟨hw2, hm, r0, r1⟩ := over_words hw (by omega) (by omega) hd hd1
 have CD := Lib.hid fun w => div64_any r0 r1 hw.lo0 hw.lo1 hd1 w
 have i0 := hw.hi0; have i1 := hw.hi1
 have hneg := neg_over (m := -x) hd
 rw [Int.neg_neg, ← hm] at hneg
 have hrs : 0 ≤ (hi % d * 18446744073709551616 + lo) % d := Int.emod_nonneg _ (by omega)
 clear hm r0 r1
 generalize (hi % d * 18446744073709551616 + lo) / d = ql at *
 generalize (hi % d * 18446744073709551616 + lo) % d = rs at *
 have HN := Lib.hid hneg
 clear hneg
 by_cases hr : 0 < rs
 ·have hrd : decide (0 < rs) = true := decide_eq_true hr
  have CP := Lib.hid fun w => plus_any hw2 (show IsW 1 1 0 from ⟨rfl, rfl⟩) w
  have HR := Lib.hid hr
  clear hr
  go_quiet (fail)
  go_wp2_with (first | (go_at_call 87; refine (CD.out _).mono ?_; rintro e w4 ⟨rfl, hbd⟩; have hb4 := (PrintWords.pw_below_drewN hB3 nq).trans (hbd.mono (by simp; omega)); have q1 := (hbd.block _ (by simpa using hz3)).trans Hb1.out; have hz4 : w.heap.size + 1 < w4.heap.size := by have := hbd.size; simp at this; omega))
  refine (CP.out _).mono ?_
  rintro e w5 ⟨l5, h5, hw5, rfl, hb5⟩
  obtain ⟨hc5, hf5⟩ := bcell hb5
  have hz5 : w4.heap.size < w5.heap.size := by have := hb5.size; simp at this; omega
  have q5 := (hb5.block (w.heap.size + 1) (by simp; omega)).trans (PrintWords.blk_alloc q1 _)
  go_wp2_with fail
  refine (minus_any hw5 _).mono ?_
  rintro e w6 ⟨l6, h6, hw6, rfl, hb6⟩
  have hz6 : w5.heap.size ≤ w6.heap.size := by have := hb6.size; simpa [World.setCell] using this
  have q6 := (hb6.block (w.heap.size + 1) (by simp [World.setCell]; omega)).trans (two_far q5 (g := w4.heap.size) (by omega) _ _)
  obtain ⟨y0, y1, z0, z1⟩ := two_of q6
  go_wp2
  have e : -(-x / d + 1) = x / d := by rw [HN.out, if_pos HR.out]
  rw [← e]
  refine bodyPost_ret (v := .agg #[.int .u64 l6, .int .u64 h6]) ?_ rfl ⟨_, _, hw6, rfl, ?_⟩
  ·simp [results, Tryd.results60, go_sem, y0, y1]
  ·have hB6 := ((((hb4.alloc (by omega) _).trans (hb5.mono (by simp; omega))).setCell (p := ⟨w4.heap.size, 0, none⟩) (by show w.heap.size ≤ w4.heap.size; omega) (.int .u64 l5)).setCell (p := ⟨w4.heap.size, 1, none⟩) (by show w.heap.size ≤ w4.heap.size; omega) (.int .u64 h5)).trans (hb6.mono (by simp [World.setCell]; omega))
   exact (hB6.setCell (by simp) _).setCell (by simp) _
 ·have hrd : decide (0 < rs) = false := decide_eq_false hr
  have CM := Lib.hid fun w => minus_any hw2 w
  have HR := Lib.hid hr
  clear hr
  go_quiet (fail)
  go_wp2_with ((go_at_call 87; refine (CD.out _).mono ?_; rintro e w4 ⟨rfl, hbd⟩; have hb4 := (PrintWords.pw_below_drewN hB3 nq).trans (hbd.mono (by simp; omega)); have q1 := (hbd.block _ (by simpa using hz3)).trans Hb1.out; have hz4 : w.heap.size + 1 < w4.heap.size := by have := hbd.size; simp at this; omega))
  refine (CM.out _).mono ?_
  rintro e w6 ⟨l6, h6, hw6, rfl, hb6⟩
  have hz6 : w4.heap.size < w6.heap.size := by have := hb6.size; simp at this; omega
  have q6 := (hb6.block (w.heap.size + 1) (by simp; omega)).trans (PrintWords.blk_alloc q1 _)
  obtain ⟨y0, y1, z0, z1⟩ := two_of q6
  go_wp2
  have e : -(-x / d) = x / d := by rw [HN.out, if_neg (by have := HR.out; omega)]
  rw [← e]
  refine bodyPost_ret (v := .agg #[.int .u64 l6, .int .u64 h6]) ?_ rfl ⟨_, _, hw6, rfl, ?_⟩
  ·simp [results, Tryd.results60, go_sem, y0, y1]
  ·have hB6 := (hb4.alloc (by omega) _).trans (hb6.mono (by simp; omega))
   exact (hB6.setCell (by simp) _).setCell (by simp) _

theorem over_any {x a b d : Int} (hx : IsW x a b) (h0 : -170141183460469231731687303715884105728 < x) (h1 : x < 170141183460469231731687303715884105728) (hd : 0 < d) (hd1 : d < 18446744073709551616) (w : World) :
  Calls Tryd.prog 60 #[.agg #[.int .u64 a, .int .u64 b], .int .u64 d] w (Says (x / d) w) := by
 by_cases h : x < 0
 ·exact over_neg hx h0 h hd hd1 w
 ·exact over_pos hx (by omega) h1 hd hd1 w
end Go.Proofs.YtpljkcakijkklaaDoor

end
section
namespace Go.Proofs.YtpljkcakijkklaaDoor
set_option linter.unusedVariables false
set_option linter.unusedSimpArgs false
open Go.RowKit Go.Shelf Go.Proofs.YtpljkcakijkklaaDoorW

def R64 (x : Int) : Prop := -9223372036854775808 ≤ x ∧ x ≤ 9223372036854775807
instance (x : Int) : Decidable (R64 x) := inferInstanceAs (Decidable (_ ∧ _))
theorem heldI_R64 (x : Int) : R64 (heldI x) := heldI_range x

theorem prod_span {a b : Int} (ha : R64 a) (hb : R64 b) : -85070591730234615865843651857942052864 ≤ a * b ∧ a * b ≤ 85070591730234615865843651857942052864 := by
 obtain ⟨a0, a1⟩ := ha
 obtain ⟨b0, b1⟩ := hb
 by_cases h : 0 ≤ a <;> by_cases k : 0 ≤ b
 ·have := prod_range (x := a) (y := b) h (by omega) k (by omega); omega
 ·have := prod_range (x := a) (y := -b) h (by omega) (by omega) (by omega); rw [Int.mul_neg] at this; omega
 ·have := prod_range (x := -a) (y := b) (by omega) (by omega) k (by omega); rw [Int.neg_mul] at this; omega
 ·have := prod_range (x := -a) (y := -b) (by omega) (by omega) (by omega) (by omega); rw [Int.neg_mul_neg] at this; omega
theorem div_range {x d : Int} (hd : 0 < d) (h0 : -85070591730234615865843651857942052865 ≤ x) (h1 : x < 85070591730234615865843651857942052866) : -85070591730234615865843651857942052865 ≤ x / d ∧ x / d < 85070591730234615865843651857942052866 := by
 rw [Int.le_ediv_iff_mul_le hd, Int.ediv_lt_iff_lt_mul hd]
 constructor <;> omega

def fix_Add.f (a0 a1 : Int) : Option Int := if R64 a0 ∧ R64 a1 then some (heldI (a0 + a1)) else none
theorem fix_Add.calls (a0 a1 r : Int) (w : World) (h : fix_Add.f a0 a1 = some r) : Calls Tryd.prog 70 #[.int .i64 a0, .int .i64 a1] w fun e w' => e = .returned (.int .i64 r) ∧ Below w.heap.size w w' := by
 unfold fix_Add.f at h
 split at h
 ·rename_i hr
  obtain ⟨⟨p0, p1⟩, q0, q1⟩ := hr
  injection h with h
  have HR := Lib.hid h
  clear h
  go_enter Tryd.func70, Tryd.ntmps70
  go_wp2_with fail
  refine (of_any a0 p0 (by omega) _).mono ?_
  rintro e w1 ⟨lo1, hi1, hw1, rfl, hb1⟩
  go_wp2_with fail
  refine (of_any a1 q0 (by omega) _).mono ?_
  rintro e w2 ⟨lo2, hi2, hw2, rfl, hb2⟩
  go_wp2_with fail
  refine (plus_any hw1 hw2 _).mono ?_
  rintro e w3 ⟨lo3, hi3, hw3, rfl, hb3⟩
  go_wp2_with fail
  refine (held_any hw3 (by omega) (by omega) _).mono ?_
  rintro e w4 ⟨rfl, hb4⟩
  rw [HR.out]
  go_wp2
  go_ret
  have c2 := hb1.trans (hb2.mono hb1.size)
  have c3 := c2.trans (hb3.mono c2.size)
  have c4 := c3.trans (hb4.mono c3.size)
  exact ⟨by simp, c4⟩
 ·cases h

def fix_Sub.f (a0 a1 : Int) : Option Int := if R64 a0 ∧ R64 a1 then some (heldI (a0 + -a1)) else none
theorem fix_Sub.calls (a0 a1 r : Int) (w : World) (h : fix_Sub.f a0 a1 = some r) : Calls Tryd.prog 71 #[.int .i64 a0, .int .i64 a1] w fun e w' => e = .returned (.int .i64 r) ∧ Below w.heap.size w w' := by
 unfold fix_Sub.f at h
 split at h
 ·rename_i hr
  obtain ⟨⟨p0, p1⟩, q0, q1⟩ := hr
  injection h with h
  have HR := Lib.hid h
  clear h
  go_enter Tryd.func71, Tryd.ntmps71
  go_wp2_with fail
  refine (of_any a0 p0 (by omega) _).mono ?_
  rintro e w1 ⟨lo1, hi1, hw1, rfl, hb1⟩
  go_wp2_with fail
  refine (of_any a1 q0 (by omega) _).mono ?_
  rintro e w2 ⟨lo2, hi2, hw2, rfl, hb2⟩
  go_wp2_with fail
  refine (minus_any hw2 _).mono ?_
  rintro e w3 ⟨lo3, hi3, hw3, rfl, hb3⟩
  go_wp2_with fail
  refine (plus_any hw1 hw3 _).mono ?_
  rintro e w4 ⟨lo4, hi4, hw4, rfl, hb4⟩
  go_wp2_with fail
  refine (held_any hw4 (by omega) (by omega) _).mono ?_
  rintro e w5 ⟨rfl, hb5⟩
  rw [HR.out]
  go_wp2
  go_ret
  have c2 := hb1.trans (hb2.mono hb1.size)
  have c3 := c2.trans (hb3.mono c2.size)
  have c4 := c3.trans (hb4.mono c3.size)
  have c5 := c4.trans (hb5.mono c4.size)
  exact ⟨by simp, c5⟩
 ·cases h

def fix_Neg.f (a0 : Int) : Option Int := if R64 a0 then some (heldI (-a0)) else none
theorem fix_Neg.calls (a0 r : Int) (w : World) (h : fix_Neg.f a0 = some r) : Calls Tryd.prog 62 #[.int .i64 a0] w fun e w' => e = .returned (.int .i64 r) ∧ Below w.heap.size w w' := by
 unfold fix_Neg.f at h
 split at h
 ·rename_i hr
  obtain ⟨p0, p1⟩ := hr
  injection h with h
  have HR := Lib.hid h
  clear h
  go_enter Tryd.func62, Tryd.ntmps62
  go_wp2_with fail
  refine (of_any a0 p0 (by omega) _).mono ?_
  rintro e w1 ⟨lo1, hi1, hw1, rfl, hb1⟩
  go_wp2_with fail
  refine (minus_any hw1 _).mono ?_
  rintro e w2 ⟨lo2, hi2, hw2, rfl, hb2⟩
  go_wp2_with fail
  refine (held_any hw2 (by omega) (by omega) _).mono ?_
  rintro e w3 ⟨rfl, hb3⟩
  rw [HR.out]
  go_wp2
  go_ret
  have c2 := hb1.trans (hb2.mono hb1.size)
  have c3 := c2.trans (hb3.mono c2.size)
  exact ⟨by simp, c3⟩
 ·cases h

def fix_Mul.f (a0 a1 : Int) : Option Int := if R64 a0 ∧ R64 a1 then some (heldI (a0 * a1 / 1000000)) else none
theorem fix_Mul.calls (a0 a1 r : Int) (w : World) (h : fix_Mul.f a0 a1 = some r) : Calls Tryd.prog 72 #[.int .i64 a0, .int .i64 a1] w fun e w' => e = .returned (.int .i64 r) ∧ Below w.heap.size w w' := by
 unfold fix_Mul.f at h
 split at h
 ·rename_i hr
  obtain ⟨r0, r1⟩ := hr
  injection h with h
  obtain ⟨s0, s1⟩ := prod_span r0 r1
  have t0 := r0.2
  have t1 := r1.2
  obtain ⟨u0, u1⟩ := div_range (d := 1000000) (by decide) (x := a0 * a1) (by omega) (by omega)
  have HR := Lib.hid h
  clear h
  go_enter Tryd.func72, Tryd.ntmps72
  go_wp2_with fail
  refine (times_any a0 a1 r0.1 (by omega) r1.1 (by omega) _).mono ?_
  rintro e w1 ⟨lo1, hi1, hw1, rfl, hb1⟩
  go_wp2_with fail
  refine (over_any hw1 (by omega) (by omega) (d := 1000000) (by decide) (by decide) _).mono ?_
  rintro e w2 ⟨lo2, hi2, hw2, rfl, hb2⟩
  go_wp2_with fail
  refine (held_any hw2 (by omega) (by omega) _).mono ?_
  rintro e w3 ⟨rfl, hb3⟩
  rw [HR.out]
  go_wp2
  go_ret
  have c2 := hb1.trans (hb2.mono hb1.size)
  have c3 := c2.trans (hb3.mono c2.size)
  exact ⟨by simp, c3⟩
 ·cases h

def fix_Whole.f (a0 : Int) : Option Int := if R64 a0 then some (heldI (a0 * 1000000)) else none
theorem fix_Whole.calls (a0 r : Int) (w : World) (h : fix_Whole.f a0 = some r) : Calls Tryd.prog 37 #[.int .i64 a0] w fun e w' => e = .returned (.int .i64 r) ∧ Below w.heap.size w w' := by
 unfold fix_Whole.f at h
 split at h
 ·rename_i hr
  obtain ⟨p0, p1⟩ := hr
  injection h with h
  have HR := Lib.hid h
  clear h
  go_enter Tryd.func37, Tryd.ntmps37
  go_wp2_with fail
  refine (times_any a0 1000000 p0 (by omega) (by decide) (by decide) _).mono ?_
  rintro e w1 ⟨lo1, hi1, hw1, rfl, hb1⟩
  go_wp2_with fail
  refine (held_any hw1 (by omega) (by omega) _).mono ?_
  rintro e w2 ⟨rfl, hb2⟩
  rw [HR.out]
  go_wp2
  go_ret
  have c2 := hb1.trans (hb2.mono hb1.size)
  exact ⟨by simp, c2⟩
 ·cases h

def fix_Floor.f (a0 : Int) : Option Int := if R64 a0 then some (heldI (heldI (a0 / 1000000) * 1000000)) else none
theorem fix_Floor.calls (a0 r : Int) (w : World) (h : fix_Floor.f a0 = some r) : Calls Tryd.prog 69 #[.int .i64 a0] w fun e w' => e = .returned (.int .i64 r) ∧ Below w.heap.size w w' := by
 unfold fix_Floor.f at h
 split at h
 ·rename_i hr
  obtain ⟨p0, p1⟩ := hr
  injection h with h
  have HR := Lib.hid h
  clear h
  go_enter Tryd.func69, Tryd.ntmps69
  go_wp2_with fail
  refine (of_any a0 p0 (by omega) _).mono ?_
  rintro e w1 ⟨lo1, hi1, hw1, rfl, hb1⟩
  go_wp2_with fail
  refine (over_any hw1 (by omega) (by omega) (d := 1000000) (by decide) (by decide) _).mono ?_
  rintro e w2 ⟨lo2, hi2, hw2, rfl, hb2⟩
  go_wp2_with fail
  refine (held_any hw2 (by omega) (by omega) _).mono ?_
  rintro e w3 ⟨rfl, hb3⟩
  go_wp2_with fail
  refine ((fun w_ => fix_Whole.calls (heldI (a0 / 1000000)) _ w_ (if_pos (heldI_R64 _))) _).mono ?_
  rintro e w4 ⟨rfl, hb4⟩
  rw [HR.out]
  go_wp2
  go_ret
  have c2 := hb1.trans (hb2.mono hb1.size)
  have c3 := c2.trans (hb3.mono c2.size)
  have c4 := c3.trans (hb4.mono c3.size)
  exact ⟨by simp, c4⟩
 ·cases h

def fix_Ceil.f (a0 : Int) : Option Int := if R64 a0 then some (heldI (heldI (-(-a0 / 1000000)) * 1000000)) else none
theorem fix_Ceil.calls (a0 r : Int) (w : World) (h : fix_Ceil.f a0 = some r) : Calls Tryd.prog 67 #[.int .i64 a0] w fun e w' => e = .returned (.int .i64 r) ∧ Below w.heap.size w w' := by
 unfold fix_Ceil.f at h
 split at h
 ·rename_i hr
  obtain ⟨p0, p1⟩ := hr
  injection h with h
  have HR := Lib.hid h
  clear h
  go_enter Tryd.func67, Tryd.ntmps67
  go_wp2_with fail
  refine (of_any a0 p0 (by omega) _).mono ?_
  rintro e w1 ⟨lo1, hi1, hw1, rfl, hb1⟩
  go_wp2_with fail
  refine (minus_any hw1 _).mono ?_
  rintro e w2 ⟨lo2, hi2, hw2, rfl, hb2⟩
  go_wp2_with fail
  refine (over_any hw2 (by omega) (by omega) (d := 1000000) (by decide) (by decide) _).mono ?_
  rintro e w3 ⟨lo3, hi3, hw3, rfl, hb3⟩
  go_wp2_with fail
  refine (minus_any hw3 _).mono ?_
  rintro e w4 ⟨lo4, hi4, hw4, rfl, hb4⟩
  go_wp2_with fail
  refine (held_any hw4 (by omega) (by omega) _).mono ?_
  rintro e w5 ⟨rfl, hb5⟩
  go_wp2_with fail
  refine ((fun w_ => fix_Whole.calls (heldI (-(-a0 / 1000000))) _ w_ (if_pos (heldI_R64 _))) _).mono ?_
  rintro e w6 ⟨rfl, hb6⟩
  rw [HR.out]
  go_wp2
  go_ret
  have c2 := hb1.trans (hb2.mono hb1.size)
  have c3 := c2.trans (hb3.mono c2.size)
  have c4 := c3.trans (hb4.mono c3.size)
  have c5 := (c4.alloc c4.size _).trans (hb5.mono (by have := c4.size; simp; omega))
  exact ⟨by simp, c5.trans (hb6.mono c5.size)⟩
 ·cases h

def fix_Count.f (a0 : Int) : Option Int := if R64 a0 then some (heldI (heldI (heldI (-(-a0 / 1000000)) * 1000000) / 1000000)) else none
def fix_Abs.f (a0 : Int) : Option Int := if R64 a0 then some (heldI (if a0 < 0 then -a0 else a0)) else none
theorem abs_max {a0 : Int} (h : R64 a0) : max a0 (heldI (-a0)) = heldI (if a0 < 0 then -a0 else a0) := by
 obtain ⟨p0, p1⟩ := h
 unfold heldI
 repeat' split
 all_goals omega
theorem fix_Abs.calls (a0 r : Int) (w : World) (h : fix_Abs.f a0 = some r) : Calls Tryd.prog 65 #[.int .i64 a0] w fun e w' => e = .returned (.int .i64 r) ∧ Below w.heap.size w w' := by
 unfold fix_Abs.f at h
 split at h
 ·rename_i hr
  injection h with h
  have HR := Lib.hid h
  have HM := Lib.hid (abs_max hr)
  clear h
  go_enter Tryd.func65, Tryd.ntmps65
  go_wp2_with fail
  refine ((fun w_ => fix_Neg.calls a0 _ w_ (if_pos hr)) _).mono ?_
  rintro e w1 ⟨rfl, hb1⟩
  go_wp2
  go_ret
  exact ⟨by rw [← HR.out, ← HM.out]; simp, hb1⟩
 ·cases h

def fix_Scale.f (a0 a1 a2 : Int) : Option Int := if R64 a0 ∧ R64 a1 ∧ R64 a2 then some (if a1 < 0 ∨ a2 < 1 then 0 else heldI (a0 * a1 / a2)) else none
theorem fix_Scale.calls (a0 a1 a2 r : Int) (w : World) (h : fix_Scale.f a0 a1 a2 = some r) : Calls Tryd.prog 47 #[.int .i64 a0, .int .i64 a1, .int .i64 a2] w fun e w' => e = .returned (.int .i64 r) ∧ Below w.heap.size w w' := by
 unfold fix_Scale.f at h
 split at h
 ·rename_i hr
  obtain ⟨r0, r1, r2⟩ := hr
  injection h with h
  by_cases g1 : a1 < 0
  ·rw [if_pos (.inl g1)] at h
   have HR := Lib.hid h
   have d1 : decide (a1 < 0) = true := decide_eq_true g1
   clear h
   go_enter Tryd.func47, Tryd.ntmps47
   go_wp2_with fail
   rw [← HR.out]
   go_ret
   exact ⟨by simp, Below.refl _ _⟩
  by_cases g2 : a2 < 1
  ·rw [if_pos (.inr g2)] at h
   have HR := Lib.hid h
   have d1 : decide (a1 < 0) = false := decide_eq_false g1
   have d2 : decide (a2 < 1) = true := decide_eq_true g2
   clear h
   go_enter Tryd.func47, Tryd.ntmps47
   go_wp2_with fail
   rw [← HR.out]
   go_ret
   exact ⟨by simp, Below.refl _ _⟩
  ·rw [if_neg (by omega)] at h
   have HR := Lib.hid h
   have d1 : decide (a1 < 0) = false := decide_eq_false g1
   have d2 : decide (a2 < 1) = false := decide_eq_false g2
   obtain ⟨s0, s1⟩ := prod_span r0 r1
   have x0 := r2.1
   have x1 := r2.2
   obtain ⟨u0, u1⟩ := div_range (d := a2) (by omega) (x := a0 * a1) (by omega) (by omega)
   have hc : IntKind.u64.wrap a2 = a2 := wu_in (by omega) (by omega)
   clear h
   go_enter Tryd.func47, Tryd.ntmps47
   go_wp2_with fail
   refine (times_any a0 a1 r0.1 (by have := r0.2; omega) r1.1 (by have := r1.2; omega) _).mono ?_
   rintro e w1 ⟨lo1, hi1, hw1, rfl, hb1⟩
   go_wp2_with fail
   refine (over_any hw1 (by omega) (by omega) (by omega) (by omega) _).mono ?_
   rintro e w2 ⟨lo2, hi2, hw2, rfl, hb2⟩
   go_wp2_with fail
   refine (held_any hw2 (by omega) (by omega) _).mono ?_
   rintro e w3 ⟨rfl, hb3⟩
   rw [HR.out]
   go_wp2
   go_ret
   have c2 := hb1.trans (hb2.mono hb1.size)
   exact ⟨by simp, c2.trans (hb3.mono c2.size)⟩
 ·cases h

def quotI (a b : Int) : Int := if b < 0 then -(a * 1000000) / -b else a * 1000000 / b
def fix_Div.f (a0 a1 : Int) : Option (Int × Bool) := if R64 a0 ∧ R64 a1 then some (if a1 = 0 then (0, false) else (heldI (quotI a0 a1), true)) else none
theorem div_zero (a0 : Int) (w : World) : Calls Tryd.prog 74 #[.int .i64 a0, .int .i64 0] w fun e w' => e = .returned (.tuple #[.int .i64 0, .bool false]) ∧ Below w.heap.size w w' := by
 go_enter Tryd.func74, Tryd.ntmps74
 go_wp2_with fail
 go_ret2
 exact ⟨by simp, Below.refl _ _⟩
theorem div_pos (a0 a1 : Int) (r0 : R64 a0) (r1 : R64 a1) (h : 0 < a1) (w : World) : Calls Tryd.prog 74 #[.int .i64 a0, .int .i64 a1] w fun e w' => e = .returned (.tuple #[.int .i64 (heldI (a0 * 1000000 / a1)), .bool true]) ∧ Below w.heap.size w w' := by
 obtain ⟨s0, s1⟩ := prod_span r0 (show R64 1000000 by decide)
 obtain ⟨u0, u1⟩ := div_range (d := a1) (by omega) (x := a0 * 1000000) (by omega) (by omega)
 have x0 := r0.1; have x1 := r0.2; have y0 := r1.1; have y1 := r1.2
 have dz : (a1 == 0) = false := by rw [beq_eq_false_iff_ne]; omega
 have dn : decide (a1 < 0) = false := decide_eq_false (by omega)
 go_enter Tryd.func74, Tryd.ntmps74
 go_wp2_with fail
 refine (times_any a0 1000000 x0 (by omega) (by decide) (by decide) _).mono ?_
 rintro e w1 ⟨lo1, hi1, hw1, rfl, hb1⟩
 go_wp2_with fail
 have CS := Lib.hid fun w => size_pos a1 (by omega) (by omega) w
 go_region_held3 (fun w' => w'.cell? ⟨w1.heap.size, 0, none⟩ = some (.int .u64 lo1) ∧ w'.cell? ⟨w1.heap.size, 1, none⟩ = some (.int .u64 hi1)) (first | exact ⟨k2, k3⟩ | exact ⟨k0, k1⟩ | (simp [go_sem, World.cell?_alloc_past]; done))
  (first
   | (go_at_call 56; refine (CS.out _).mono ?_; rintro e w' ⟨rfl, rfl⟩)
   | (go_at_call 60; refine (over_any hw1 (by omega) (by omega) (by omega) (by omega) _).mono ?_; rintro e w2 ⟨lo2, hi2, hw2, rfl, hb2⟩; have k0 : w2.cell? ⟨w1.heap.size, 0, none⟩ = some (.int .u64 lo1) := (hb2.cell (p := ⟨w1.heap.size, 0, none⟩) (by simp)).trans (by simp [go_sem]); have k1 : w2.cell? ⟨w1.heap.size, 1, none⟩ = some (.int .u64 hi1) := (hb2.cell (p := ⟨w1.heap.size, 1, none⟩) (by simp)).trans (by simp [go_sem]))
   | (go_at_call 46; refine (held_any hw2 (by omega) (by omega) _).mono ?_; rintro e w3 ⟨rfl, hb3⟩; have k2 := (hb3.cell (p := ⟨w1.heap.size, 0, none⟩) (by have := hb2.size; simp at this; simp; omega)).trans k0; have k3 := (hb3.cell (p := ⟨w1.heap.size, 1, none⟩) (by have := hb2.size; simp at this; simp; omega)).trans k1))
 go_wp2
 go_ret2
 have hB := ((hb1.alloc hb1.size _).drew.trans (hb2.mono (by have := hb1.size; simp; omega)))
 exact ⟨by simp, hB.trans (hb3.mono hB.size)⟩

theorem div_neg (a0 a1 : Int) (r0 : R64 a0) (r1 : R64 a1) (h : a1 < 0) (w : World) : Calls Tryd.prog 74 #[.int .i64 a0, .int .i64 a1] w fun e w' => e = .returned (.tuple #[.int .i64 (heldI (-(a0 * 1000000) / -a1)), .bool true]) ∧ Below w.heap.size w w' := by
 obtain ⟨s0, s1⟩ := prod_span r0 (show R64 1000000 by decide)
 obtain ⟨u0, u1⟩ := div_range (d := -a1) (by omega) (x := -(a0 * 1000000)) (by omega) (by omega)
 have x0 := r0.1; have x1 := r0.2; have y0 := r1.1; have y1 := r1.2
 have dz : (a1 == 0) = false := by rw [beq_eq_false_iff_ne]; omega
 have dn : decide (a1 < 0) = true := decide_eq_true h
 go_enter Tryd.func74, Tryd.ntmps74
 go_wp2_with fail
 refine (times_any a0 1000000 x0 (by omega) (by decide) (by decide) _).mono ?_
 rintro e w1 ⟨lo1, hi1, hw1, rfl, hb1⟩
 go_wp2_with fail
 refine (minus_any hw1 _).mono ?_
 rintro e w2 ⟨lo2, hi2, hw2, rfl, hb2⟩
 obtain ⟨hc, hf⟩ := bcell hb2
 have hz : w1.heap.size < w2.heap.size := by have := hb2.size; simp at this; omega
 go_wp2_with fail
 have b0 := two_set ((hb2.block w1.heap.size (by simp)).trans (PrintWords.blk_new w1 _)) (.int .u64 lo2) (.int .u64 hi2)
 have hB := (hb1.alloc hb1.size (.cells #[.int .u64 lo1, .int .u64 hi1] 94)).trans (hb2.mono (by have := hb1.size; simp; omega))
 have hB3 := (hB.setCell (p := ⟨w1.heap.size, 0, none⟩) hb1.size (.int .u64 lo2)).setCell (p := ⟨w1.heap.size, 1, none⟩) hb1.size (.int .u64 hi2)
 have hz3 : w1.heap.size < ((w2.setCell ⟨w1.heap.size, 0, none⟩ (.int .u64 lo2)).setCell ⟨w1.heap.size, 1, none⟩ (.int .u64 hi2)).heap.size := by simp [World.setCell]; omega
 generalize (w2.setCell ⟨w1.heap.size, 0, none⟩ (.int .u64 lo2)).setCell ⟨w1.heap.size, 1, none⟩ (.int .u64 hi2) = w4 at *
 clear hc hf hb2 hB hz
 obtain ⟨c0, c1, f0, f1⟩ := two_of b0
 have Hb0 := Lib.hid b0
 clear b0
 have CS := Lib.hid fun w => size_neg a1 h y0 w
 go_region_held3 (fun w' => w'.cell? ⟨w1.heap.size, 0, none⟩ = some (.int .u64 lo2) ∧ w'.cell? ⟨w1.heap.size, 1, none⟩ = some (.int .u64 hi2)) (first | exact ⟨k2, k3⟩ | exact ⟨k0, k1⟩ | (simp [go_sem, c0, c1]; done))
  (first
   | (go_at_call 56; refine (CS.out _).mono ?_; rintro e w' ⟨rfl, rfl⟩)
   | (go_at_call 60; refine (over_any hw2 (by omega) (by omega) (by omega) (by omega) _).mono ?_; rintro e w5 ⟨lo5, hi5, hw5, rfl, hb5⟩; have k0 : w5.cell? ⟨w1.heap.size, 0, none⟩ = some (.int .u64 lo2) := (hb5.cell (p := ⟨w1.heap.size, 0, none⟩) (by simp; omega)).trans (by simp [go_sem, c0]); have k1 : w5.cell? ⟨w1.heap.size, 1, none⟩ = some (.int .u64 hi2) := (hb5.cell (p := ⟨w1.heap.size, 1, none⟩) (by simp; omega)).trans (by simp [go_sem, c1]))
   | (go_at_call 46; refine (held_any hw5 (by omega) (by omega) _).mono ?_; rintro e w6 ⟨rfl, hb6⟩; have k2 := (hb6.cell (p := ⟨w1.heap.size, 0, none⟩) (by have := hb5.size; simp at this; simp; omega)).trans k0; have k3 := (hb6.cell (p := ⟨w1.heap.size, 1, none⟩) (by have := hb5.size; simp at this; simp; omega)).trans k1))
 go_wp2
 go_ret2
 have hB5 := hB3.drew.trans (hb5.mono (by have := hB3.size; simpa using this))
 exact ⟨by simp, hB5.trans (hb6.mono hB5.size)⟩

theorem fix_Div.calls (a0 a1 r1 : Int) (r2 : Bool) (w : World) (h : fix_Div.f a0 a1 = some (r1, r2)) : Calls Tryd.prog 74 #[.int .i64 a0, .int .i64 a1] w fun e w' => e = .returned (.tuple #[.int .i64 r1, .bool r2]) ∧ Below w.heap.size w w' := by
 unfold fix_Div.f at h
 split at h
 ·rename_i hr
  injection h with h
  by_cases hz : a1 = 0
  ·subst hz
   rw [if_pos rfl] at h
   injection h with h1 h2
   subst h1; subst h2
   exact div_zero a0 w
  ·rw [if_neg hz] at h
   injection h with h1 h2
   subst h1; subst h2
   unfold quotI
   by_cases hn : a1 < 0
   ·rw [if_pos hn]
    exact div_neg a0 a1 hr.1 hr.2 hn w
   ·rw [if_neg hn]
    exact div_pos a0 a1 hr.1 hr.2 (by omega) w
 ·cases h
end Go.Proofs.YtpljkcakijkklaaDoor

end
