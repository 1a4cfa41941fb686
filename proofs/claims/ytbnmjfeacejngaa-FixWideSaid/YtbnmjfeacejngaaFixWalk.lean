/-
  The functions on numbers of 128 bits (package fix): each call comes to the whole number that its words stand for.
-/
import Derived.Test.YtbnmjfeacejngaaFixBits
import Derived.Test.YtbnmjfeacejngaaDivPure
import Derived.WalkSpells
import Derived.BigQuiet
import Derived.Deep.QuietTactic
import Derived.Below
import Derived.Lib.Hide
namespace Go.Proofs.Ytbnmjfeacejngaa
open Go.RowKit Go.Shelf Go.Proofs.YtbnmjfeacejngaaW

/-- The words of a whole number. -/
structure IsW (x lo hi : Int) : Prop where
  lo_eq : lo = x % 18446744073709551616
  hi_eq : hi = x / 18446744073709551616 % 18446744073709551616
theorem IsW.mk' (x : Int) : IsW x (x % 18446744073709551616) (x / 18446744073709551616 % 18446744073709551616) := ⟨rfl, rfl⟩
theorem IsW.lo0 {x lo hi : Int} (h : IsW x lo hi) : 0 ≤ lo := by rw [h.lo_eq]; omega
theorem IsW.lo1 {x lo hi : Int} (h : IsW x lo hi) : lo < 18446744073709551616 := by rw [h.lo_eq]; omega
theorem IsW.hi0 {x lo hi : Int} (h : IsW x lo hi) : 0 ≤ hi := by rw [h.hi_eq]; omega
theorem IsW.hi1 {x lo hi : Int} (h : IsW x lo hi) : hi < 18446744073709551616 := by rw [h.hi_eq]; omega
theorem bcell {W w1 : World} (hb : Below W.heap.size W w1) : (∀ b o, b < W.heap.size → w1.cell? ⟨b, o, none⟩ = W.cell? ⟨b, o, none⟩) ∧ (∀ b o, b < W.heap.size → w1.frozen? ⟨b, o, none⟩ = W.frozen? ⟨b, o, none⟩) :=
  ⟨fun b o h => hb.cell (p := ⟨b, o, none⟩) h, fun b o h => hb.frozen (p := ⟨b, o, none⟩) h⟩
/-- What a call that answers the words of x leaves. -/
def Says (x : Int) (w : World) (e : Ending) (w' : World) : Prop := ∃ lo hi : Int, IsW x lo hi ∧ e = .returned (.agg #[.int .u64 lo, .int .u64 hi]) ∧ Below w.heap.size w w'

theorem of_words {v : Int} (h0 : -9223372036854775808 ≤ v) (h1 : v < 9223372036854775808) : IsW v (IntKind.u64.wrap v) (IntKind.u64.wrap (v / 9223372036854775808)) := by
  simp only [wu]
  exact ⟨rfl, by omega⟩

theorem of_any (v : Int) (h0 : -9223372036854775808 ≤ v) (h1 : v < 9223372036854775808) (w : World) : Calls Try.prog 42 #[.int .i64 v] w (Says v w) := by
  have hw := of_words h0 h1
  go_enter Try.func42, Try.ntmps42
  go_wp2
  simp [bodyPost, results, Try.results42, go_sem]
  exact ⟨_, _, hw, rfl, (Below.refl _ _).alloc (Nat.le_refl _) _⟩

theorem plus_words {x y a b c d : Int} (hx : IsW x a b) (hy : IsW y c d) : IsW (x + y) ((a + c) % 18446744073709551616) ((b + d + (a + c) / 18446744073709551616) % 18446744073709551616) := by
  obtain ⟨rfl, rfl⟩ := hx
  obtain ⟨rfl, rfl⟩ := hy
  exact ⟨by omega, by omega⟩

theorem plus_any {x y a b c d : Int} (hx : IsW x a b) (hy : IsW y c d) (w : World) : Calls Try.prog 50 #[.agg #[.int .u64 a, .int .u64 b], .agg #[.int .u64 c, .int .u64 d]] w (Says (x + y) w) := by
  have hw := plus_words hx hy
  have a0 := hx.lo0; have a1 := hx.lo1; have b0 := hx.hi0; have b1 := hx.hi1
  have c0 := hy.lo0; have c1 := hy.lo1; have d0 := hy.hi0; have d1 := hy.hi1
  have k0 : 0 ≤ (a + c) / 18446744073709551616 := by omega
  have k1 : (a + c) / 18446744073709551616 ≤ 1 := by omega
  go_enter Try.func50, Try.ntmps50
  go_wp2_with (first | simp only [add64_0 a c a0 c0] | simp only [add64 b d _ b0 d0 k0 k1])
  simp [bodyPost, results, Try.results50, go_sem]
  exact ⟨_, _, hw, rfl, (((Below.refl _ _).alloc (Nat.le_refl _) _).alloc (by simp) _).alloc (by simp; omega) _⟩

theorem minus_words {x a b : Int} (hx : IsW x a b) : IsW (-x) (-a % 18446744073709551616) ((-b - bor 0 a) % 18446744073709551616) := by
  obtain ⟨rfl, rfl⟩ := hx
  unfold bor
  refine ⟨by omega, ?_⟩
  split <;> omega
theorem bor_01 (x y : Int) : 0 ≤ bor x y ∧ bor x y ≤ 1 := by unfold bor; split <;> omega

theorem minus_any {x a b : Int} (hx : IsW x a b) (w : World) : Calls Try.prog 48 #[.agg #[.int .u64 a, .int .u64 b]] w (Says (-x) w) := by
  have hw := minus_words hx
  have a0 := hx.lo0; have a1 := hx.lo1; have b0 := hx.hi0; have b1 := hx.hi1
  obtain ⟨k0, k1⟩ := bor_01 0 a
  have e1 := fun w => sub64n 0 a 0 (Int.le_refl 0) a0 a1 (Int.le_refl 0) (by decide) w
  have e2 := fun w => sub64n 0 b (bor 0 a) (Int.le_refl 0) b0 b1 k0 k1 w
  rw [Int.add_zero, Int.sub_zero] at e1
  go_enter Try.func48, Try.ntmps48
  go_wp2_with (first | simp only [e1] | simp only [e2])
  simp [bodyPost, results, Try.results48, go_sem]
  exact ⟨_, _, hw, rfl, ((Below.refl _ _).alloc (Nat.le_refl _) _).alloc (by simp) _⟩

theorem below_words {x a b : Int} (hx : IsW x a b) (h0 : -170141183460469231731687303715884105728 ≤ x) (h1 : x < 170141183460469231731687303715884105728) : decide (wrap64 b < 0) = decide (x < 0) := by
  obtain ⟨rfl, rfl⟩ := hx
  unfold wrap64
  rw [decide_eq_decide]
  omega

theorem below_any {x a b : Int} (hx : IsW x a b) (h0 : -170141183460469231731687303715884105728 ≤ x) (h1 : x < 170141183460469231731687303715884105728) (w : World) :
    Calls Try.prog 57 #[.agg #[.int .u64 a, .int .u64 b]] w fun e w' => e = .returned (.bool (decide (x < 0))) ∧ Below w.heap.size w w' := by
  have hw := below_words hx h0 h1
  go_enter Try.func57, Try.ntmps57
  go_wp2
  go_ret
  exact ⟨by simp [hw], (Below.refl _ _).alloc (Nat.le_refl _) _⟩

/-- Is it an int64? -/
def inR (x : Int) : Bool := decide (-9223372036854775808 ≤ x ∧ x < 9223372036854775808)
theorem inR_iff {x : Int} : inR x = true ↔ -9223372036854775808 ≤ x ∧ x < 9223372036854775808 := by simp [inR]
theorem fit_words {x a b : Int} (hx : IsW x a b) (h0 : -170141183460469231731687303715884105728 ≤ x) (h1 : x < 170141183460469231731687303715884105728) :
    (b == IntKind.u64.wrap (wrap64 a / 9223372036854775808)) = inR x ∧ (inR x = true → wrap64 a = x) := by
  obtain ⟨rfl, rfl⟩ := hx
  rw [inR_iff, Bool.eq_iff_iff, inR_iff, beq_iff_eq]
  by_cases h : x % 18446744073709551616 < 9223372036854775808
  · have e : wrap64 (x % 18446744073709551616) = x % 18446744073709551616 := by unfold wrap64; omega
    have e2 : x % 18446744073709551616 / 9223372036854775808 = 0 := by omega
    rw [e, e2, wu]
    omega
  · have e : wrap64 (x % 18446744073709551616) = x % 18446744073709551616 - 18446744073709551616 := by unfold wrap64; omega
    have e2 : (x % 18446744073709551616 - 18446744073709551616) / 9223372036854775808 = -1 := by omega
    rw [e, e2, wu]
    omega

theorem fit_yes {x a b : Int} (hx : IsW x a b) (h0 : -170141183460469231731687303715884105728 ≤ x) (h1 : x < 170141183460469231731687303715884105728) (hr : inR x = true) (w : World) :
    Calls Try.prog 59 #[.agg #[.int .u64 a, .int .u64 b]] w fun e w' => e = .returned (.tuple #[.int .i64 x, .bool true]) ∧ Below w.heap.size w w' := by
  obtain ⟨e1, e2⟩ := fit_words hx h0 h1
  have e3 := e2 hr
  rw [hr, e3] at e1
  have HE := Lib.hid e3
  clear e2 e3 hr
  go_enter Try.func59, Try.ntmps59
  go_wp2
  rw [HE.out]
  go_quiet (fail)
  go_wp2
  go_ret2
  exact ⟨by simp, PrintWords.pw_below_drewN ((Below.refl _ _).alloc (Nat.le_refl _) _) _⟩

theorem fit_no {x a b : Int} (hx : IsW x a b) (h0 : -170141183460469231731687303715884105728 ≤ x) (h1 : x < 170141183460469231731687303715884105728) (hr : inR x = false) (w : World) :
    Calls Try.prog 59 #[.agg #[.int .u64 a, .int .u64 b]] w fun e w' => e = .returned (.tuple #[.int .i64 (wrap64 a), .bool false]) ∧ Below w.heap.size w w' := by
  obtain ⟨e1, e2⟩ := fit_words hx h0 h1
  rw [hr] at e1
  clear e2 hr
  go_enter Try.func59, Try.ntmps59
  go_wp2
  go_quiet (fail)
  go_wp2
  go_ret2
  exact ⟨by simp, PrintWords.pw_below_drewN ((Below.refl _ _).alloc (Nat.le_refl _) _) _⟩

/-- The nearest int64. -/
def heldI (x : Int) : Int := if x < -9223372036854775808 then -9223372036854775808 else if 9223372036854775807 < x then 9223372036854775807 else x
theorem heldI_in {x : Int} (h : inR x = true) : heldI x = x := by
  rw [inR_iff] at h
  unfold heldI
  rw [if_neg (by omega), if_neg (by omega)]
theorem heldI_range (x : Int) : -9223372036854775808 ≤ heldI x ∧ heldI x ≤ 9223372036854775807 := by
  unfold heldI
  split
  · omega
  · split <;> omega

theorem held_any {x a b : Int} (hx : IsW x a b) (h0 : -170141183460469231731687303715884105728 ≤ x) (h1 : x < 170141183460469231731687303715884105728) (w : World) :
    Calls Try.prog 44 #[.agg #[.int .u64 a, .int .u64 b]] w fun e w' => e = .returned (.int .i64 (heldI x)) ∧ Below w.heap.size w w' := by
  cases hr : inR x with
  | true =>
    have hh := heldI_in hr
    have HH := Lib.hid hh
    have C := fun w => fit_yes hx h0 h1 hr w
    have HC := Lib.hid C
    clear hh C hr
    go_enter Try.func44, Try.ntmps44
    go_wp2_with (go_at_call 59; refine (HC.out _).mono ?_; rintro e w1 ⟨rfl, hb⟩)
    go_ret
    rw [HH.out]
    exact ⟨by simp, ((Below.refl _ _).alloc (Nat.le_refl _) _).trans (hb.mono (by simp))⟩
  | false =>
    have C := fun w => fit_no hx h0 h1 hr w
    have HC := Lib.hid C
    have hn : ¬ (-9223372036854775808 ≤ x ∧ x < 9223372036854775808) := by rw [← inR_iff, hr]; decide
    have D := fun w => below_any hx h0 h1 w
    have HD := Lib.hid D
    clear C D hr
    by_cases hs : x < 0
    · have hh : heldI x = -9223372036854775808 := by unfold heldI; rw [if_pos (by omega)]
      have HH := Lib.hid hh
      have hd : decide (x < 0) = true := decide_eq_true hs
      clear hh hs hn
      go_enter Try.func44, Try.ntmps44
      go_wp2_with (first | (go_at_call 59; refine (HC.out _).mono ?_; rintro e w1 ⟨rfl, hb⟩; obtain ⟨hc, hf⟩ := bcell hb) | (go_at_call 57; refine (HD.out _).mono ?_; rintro e w2 ⟨rfl, hb2⟩))
      go_ret
      rw [HH.out]
      exact ⟨by simp, (((Below.refl _ _).alloc (Nat.le_refl _) _).trans (hb.mono (by simp))).trans (hb2.mono (by have := hb.size; simp at this; omega))⟩
    · have hh : heldI x = 9223372036854775807 := by unfold heldI; rw [if_neg (by omega), if_pos (by omega)]
      have HH := Lib.hid hh
      have hd : decide (x < 0) = false := decide_eq_false hs
      clear hh hs hn
      go_enter Try.func44, Try.ntmps44
      go_wp2_with (first | (go_at_call 59; refine (HC.out _).mono ?_; rintro e w1 ⟨rfl, hb⟩; obtain ⟨hc, hf⟩ := bcell hb) | (go_at_call 57; refine (HD.out _).mono ?_; rintro e w2 ⟨rfl, hb2⟩))
      go_ret
      rw [HH.out]
      exact ⟨by simp, (((Below.refl _ _).alloc (Nat.le_refl _) _).trans (hb.mono (by simp))).trans (hb2.mono (by have := hb.size; simp at this; omega))⟩

theorem size_pos (v : Int) (h : 0 ≤ v) (h1 : v < 9223372036854775808) (w : World) : Calls Try.prog 51 #[.int .i64 v] w fun e w' => e = .returned (.int .u64 v) ∧ w = w' := by
  have hd : decide (v < 0) = false := decide_eq_false (by omega)
  have hw : IntKind.u64.wrap v = v := wu_in h (by omega)
  go_enter Try.func51, Try.ntmps51
  go_wp2
  go_ret
  exact ⟨by simp, rfl⟩
theorem size_neg (v : Int) (h : v < 0) (h1 : -9223372036854775808 ≤ v) (w : World) : Calls Try.prog 51 #[.int .i64 v] w fun e w' => e = .returned (.int .u64 (-v)) ∧ w = w' := by
  have hd : decide (v < 0) = true := decide_eq_true h
  have hw : IntKind.u64.wrap (-IntKind.u64.wrap v) = -v := by simp only [wu]; omega
  have HW := Lib.hid hw
  clear hw
  go_enter Try.func51, Try.ntmps51
  go_wp2
  go_ret
  exact ⟨by simp [HW.out], rfl⟩

theorem prod_words {P : Int} (h0 : 0 ≤ P) (h1 : P ≤ 85070591730234615865843651857942052864) : IsW P (P % 18446744073709551616) (P / 18446744073709551616) := ⟨rfl, by omega⟩
theorem prod_range {x y : Int} (hx0 : 0 ≤ x) (hx1 : x ≤ 9223372036854775808) (hy0 : 0 ≤ y) (hy1 : y ≤ 9223372036854775808) : 0 ≤ x * y ∧ x * y ≤ 85070591730234615865843651857942052864 :=
  ⟨Int.mul_nonneg hx0 hy0, Int.le_trans (Int.mul_le_mul hx1 hy1 hy0 (by decide)) (by decide)⟩
end Go.Proofs.Ytbnmjfeacejngaa
