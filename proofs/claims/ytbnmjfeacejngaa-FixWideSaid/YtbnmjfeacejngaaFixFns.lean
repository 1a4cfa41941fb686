/-
  The exported functions of package fix on numbers: each call comes to the whole number that chapter 1 names, held at the ends of int64.
-/
import Derived.Test.YtbnmjfeacejngaaFixOver
namespace Go.Proofs.Ytbnmjfeacejngaa
open Go.RowKit Go.Shelf Go.Proofs.YtbnmjfeacejngaaW

/-- An int64. -/
def R64 (x : Int) : Prop := -9223372036854775808 ≤ x ∧ x ≤ 9223372036854775807
instance (x : Int) : Decidable (R64 x) := inferInstanceAs (Decidable (_ ∧ _))
theorem heldI_R64 (x : Int) : R64 (heldI x) := heldI_range x

theorem prod_span {a b : Int} (ha : R64 a) (hb : R64 b) : -85070591730234615865843651857942052864 ≤ a * b ∧ a * b ≤ 85070591730234615865843651857942052864 := by
  obtain ⟨a0, a1⟩ := ha
  obtain ⟨b0, b1⟩ := hb
  by_cases h : 0 ≤ a <;> by_cases k : 0 ≤ b
  · have := prod_range (x := a) (y := b) h (by omega) k (by omega); omega
  · have := prod_range (x := a) (y := -b) h (by omega) (by omega) (by omega); rw [Int.mul_neg] at this; omega
  · have := prod_range (x := -a) (y := b) (by omega) (by omega) k (by omega); rw [Int.neg_mul] at this; omega
  · have := prod_range (x := -a) (y := -b) (by omega) (by omega) (by omega) (by omega); rw [Int.neg_mul_neg] at this; omega
theorem div_range {x d : Int} (hd : 0 < d) (h0 : -85070591730234615865843651857942052865 ≤ x) (h1 : x < 85070591730234615865843651857942052866) : -85070591730234615865843651857942052865 ≤ x / d ∧ x / d < 85070591730234615865843651857942052866 := by
  rw [Int.le_ediv_iff_mul_le hd, Int.ediv_lt_iff_lt_mul hd]
  constructor <;> omega

def fix_Add.f (a0 a1 : Int) : Option Int := if R64 a0 ∧ R64 a1 then some (heldI (a0 + a1)) else none
theorem fix_Add.calls (a0 a1 r : Int) (w : World) (h : fix_Add.f a0 a1 = some r) : Calls Try.prog 19 #[.int .i64 a0, .int .i64 a1] w fun e w' => e = .returned (.int .i64 r) ∧ Below w.heap.size w w' := by
  unfold fix_Add.f at h
  split at h
  · rename_i hr
    obtain ⟨⟨p0, p1⟩, q0, q1⟩ := hr
    injection h with h
    have HR := Lib.hid h
    clear h
    go_enter Try.func19, Try.ntmps19
    go_wp2_with fail
    refine (of_any a0 p0 (by omega) _).mono ?_
    rintro e w1 ⟨lo1, hi1, hw1, rfl, hb1⟩
    go_wp2_with fail
    refine (of_any a1 q0 (by omega) _).mono ?_
    rintro e w2 ⟨lo2, hi2, hw2, rfl, hb2⟩
    go_wp2_with fail
    refine (plus_any hw1 hw2 _).mono ?_
    rintro e w3 ⟨lo3, hi3, hw3, rfl, hb3⟩
    go_wp2_with fail
    refine (held_any hw3 (by omega) (by omega) _).mono ?_
    rintro e w4 ⟨rfl, hb4⟩
    rw [HR.out]
    go_wp2
    go_ret
    have c2 := hb1.trans (hb2.mono hb1.size)
    have c3 := c2.trans (hb3.mono c2.size)
    have c4 := c3.trans (hb4.mono c3.size)
    exact ⟨by simp, c4⟩
  · cases h

def fix_Sub.f (a0 a1 : Int) : Option Int := if R64 a0 ∧ R64 a1 then some (heldI (a0 + -a1)) else none
theorem fix_Sub.calls (a0 a1 r : Int) (w : World) (h : fix_Sub.f a0 a1 = some r) : Calls Try.prog 21 #[.int .i64 a0, .int .i64 a1] w fun e w' => e = .returned (.int .i64 r) ∧ Below w.heap.size w w' := by
  unfold fix_Sub.f at h
  split at h
  · rename_i hr
    obtain ⟨⟨p0, p1⟩, q0, q1⟩ := hr
    injection h with h
    have HR := Lib.hid h
    clear h
    go_enter Try.func21, Try.ntmps21
    go_wp2_with fail
    refine (of_any a0 p0 (by omega) _).mono ?_
    rintro e w1 ⟨lo1, hi1, hw1, rfl, hb1⟩
    go_wp2_with fail
    refine (of_any a1 q0 (by omega) _).mono ?_
    rintro e w2 ⟨lo2, hi2, hw2, rfl, hb2⟩
    go_wp2_with fail
    refine (minus_any hw2 _).mono ?_
    rintro e w3 ⟨lo3, hi3, hw3, rfl, hb3⟩
    go_wp2_with fail
    refine (plus_any hw1 hw3 _).mono ?_
    rintro e w4 ⟨lo4, hi4, hw4, rfl, hb4⟩
    go_wp2_with fail
    refine (held_any hw4 (by omega) (by omega) _).mono ?_
    rintro e w5 ⟨rfl, hb5⟩
    rw [HR.out]
    go_wp2
    go_ret
    have c2 := hb1.trans (hb2.mono hb1.size)
    have c3 := c2.trans (hb3.mono c2.size)
    have c4 := c3.trans (hb4.mono c3.size)
    have c5 := c4.trans (hb5.mono c4.size)
    exact ⟨by simp, c5⟩
  · cases h

def fix_Neg.f (a0 : Int) : Option Int := if R64 a0 then some (heldI (-a0)) else none
theorem fix_Neg.calls (a0 r : Int) (w : World) (h : fix_Neg.f a0 = some r) : Calls Try.prog 23 #[.int .i64 a0] w fun e w' => e = .returned (.int .i64 r) ∧ Below w.heap.size w w' := by
  unfold fix_Neg.f at h
  split at h
  · rename_i hr
    obtain ⟨p0, p1⟩ := hr
    injection h with h
    have HR := Lib.hid h
    clear h
    go_enter Try.func23, Try.ntmps23
    go_wp2_with fail
    refine (of_any a0 p0 (by omega) _).mono ?_
    rintro e w1 ⟨lo1, hi1, hw1, rfl, hb1⟩
    go_wp2_with fail
    refine (minus_any hw1 _).mono ?_
    rintro e w2 ⟨lo2, hi2, hw2, rfl, hb2⟩
    go_wp2_with fail
    refine (held_any hw2 (by omega) (by omega) _).mono ?_
    rintro e w3 ⟨rfl, hb3⟩
    rw [HR.out]
    go_wp2
    go_ret
    have c2 := hb1.trans (hb2.mono hb1.size)
    have c3 := c2.trans (hb3.mono c2.size)
    exact ⟨by simp, c3⟩
  · cases h

def fix_Mul.f (a0 a1 : Int) : Option Int := if R64 a0 ∧ R64 a1 then some (heldI (a0 * a1 / 1000000)) else none
theorem fix_Mul.calls (a0 a1 r : Int) (w : World) (h : fix_Mul.f a0 a1 = some r) : Calls Try.prog 27 #[.int .i64 a0, .int .i64 a1] w fun e w' => e = .returned (.int .i64 r) ∧ Below w.heap.size w w' := by
  unfold fix_Mul.f at h
  split at h
  · rename_i hr
    obtain ⟨r0, r1⟩ := hr
    injection h with h
    obtain ⟨s0, s1⟩ := prod_span r0 r1
    have t0 := r0.2
    have t1 := r1.2
    obtain ⟨u0, u1⟩ := div_range (d := 1000000) (by decide) (x := a0 * a1) (by omega) (by omega)
    have HR := Lib.hid h
    clear h
    go_enter Try.func27, Try.ntmps27
    go_wp2_with fail
    refine (times_any a0 a1 r0.1 (by omega) r1.1 (by omega) _).mono ?_
    rintro e w1 ⟨lo1, hi1, hw1, rfl, hb1⟩
    go_wp2_with fail
    refine (over_any hw1 (by omega) (by omega) (d := 1000000) (by decide) (by decide) _).mono ?_
    rintro e w2 ⟨lo2, hi2, hw2, rfl, hb2⟩
    go_wp2_with fail
    refine (held_any hw2 (by omega) (by omega) _).mono ?_
    rintro e w3 ⟨rfl, hb3⟩
    rw [HR.out]
    go_wp2
    go_ret
    have c2 := hb1.trans (hb2.mono hb1.size)
    have c3 := c2.trans (hb3.mono c2.size)
    exact ⟨by simp, c3⟩
  · cases h

def fix_Whole.f (a0 : Int) : Option Int := if R64 a0 then some (heldI (a0 * 1000000)) else none
theorem fix_Whole.calls (a0 r : Int) (w : World) (h : fix_Whole.f a0 = some r) : Calls Try.prog 15 #[.int .i64 a0] w fun e w' => e = .returned (.int .i64 r) ∧ Below w.heap.size w w' := by
  unfold fix_Whole.f at h
  split at h
  · rename_i hr
    obtain ⟨p0, p1⟩ := hr
    injection h with h
    have HR := Lib.hid h
    clear h
    go_enter Try.func15, Try.ntmps15
    go_wp2_with fail
    refine (times_any a0 1000000 p0 (by omega) (by decide) (by decide) _).mono ?_
    rintro e w1 ⟨lo1, hi1, hw1, rfl, hb1⟩
    go_wp2_with fail
    refine (held_any hw1 (by omega) (by omega) _).mono ?_
    rintro e w2 ⟨rfl, hb2⟩
    rw [HR.out]
    go_wp2
    go_ret
    have c2 := hb1.trans (hb2.mono hb1.size)
    exact ⟨by simp, c2⟩
  · cases h

def fix_Floor.f (a0 : Int) : Option Int := if R64 a0 then some (heldI (heldI (a0 / 1000000) * 1000000)) else none
theorem fix_Floor.calls (a0 r : Int) (w : World) (h : fix_Floor.f a0 = some r) : Calls Try.prog 11 #[.int .i64 a0] w fun e w' => e = .returned (.int .i64 r) ∧ Below w.heap.size w w' := by
  unfold fix_Floor.f at h
  split at h
  · rename_i hr
    obtain ⟨p0, p1⟩ := hr
    injection h with h
    have HR := Lib.hid h
    clear h
    go_enter Try.func11, Try.ntmps11
    go_wp2_with fail
    refine (of_any a0 p0 (by omega) _).mono ?_
    rintro e w1 ⟨lo1, hi1, hw1, rfl, hb1⟩
    go_wp2_with fail
    refine (over_any hw1 (by omega) (by omega) (d := 1000000) (by decide) (by decide) _).mono ?_
    rintro e w2 ⟨lo2, hi2, hw2, rfl, hb2⟩
    go_wp2_with fail
    refine (held_any hw2 (by omega) (by omega) _).mono ?_
    rintro e w3 ⟨rfl, hb3⟩
    go_wp2_with fail
    refine ((fun w_ => fix_Whole.calls (heldI (a0 / 1000000)) _ w_ (if_pos (heldI_R64 _))) _).mono ?_
    rintro e w4 ⟨rfl, hb4⟩
    rw [HR.out]
    go_wp2
    go_ret
    have c2 := hb1.trans (hb2.mono hb1.size)
    have c3 := c2.trans (hb3.mono c2.size)
    have c4 := c3.trans (hb4.mono c3.size)
    exact ⟨by simp, c4⟩
  · cases h

def fix_Ceil.f (a0 : Int) : Option Int := if R64 a0 then some (heldI (heldI (-(-a0 / 1000000)) * 1000000)) else none
theorem fix_Ceil.calls (a0 r : Int) (w : World) (h : fix_Ceil.f a0 = some r) : Calls Try.prog 13 #[.int .i64 a0] w fun e w' => e = .returned (.int .i64 r) ∧ Below w.heap.size w w' := by
  unfold fix_Ceil.f at h
  split at h
  · rename_i hr
    obtain ⟨p0, p1⟩ := hr
    injection h with h
    have HR := Lib.hid h
    clear h
    go_enter Try.func13, Try.ntmps13
    go_wp2_with fail
    refine (of_any a0 p0 (by omega) _).mono ?_
    rintro e w1 ⟨lo1, hi1, hw1, rfl, hb1⟩
    go_wp2_with fail
    refine (minus_any hw1 _).mono ?_
    rintro e w2 ⟨lo2, hi2, hw2, rfl, hb2⟩
    go_wp2_with fail
    refine (over_any hw2 (by omega) (by omega) (d := 1000000) (by decide) (by decide) _).mono ?_
    rintro e w3 ⟨lo3, hi3, hw3, rfl, hb3⟩
    go_wp2_with fail
    refine (minus_any hw3 _).mono ?_
    rintro e w4 ⟨lo4, hi4, hw4, rfl, hb4⟩
    go_wp2_with fail
    refine (held_any hw4 (by omega) (by omega) _).mono ?_
    rintro e w5 ⟨rfl, hb5⟩
    go_wp2_with fail
    refine ((fun w_ => fix_Whole.calls (heldI (-(-a0 / 1000000))) _ w_ (if_pos (heldI_R64 _))) _).mono ?_
    rintro e w6 ⟨rfl, hb6⟩
    rw [HR.out]
    go_wp2
    go_ret
    have c2 := hb1.trans (hb2.mono hb1.size)
    have c3 := c2.trans (hb3.mono c2.size)
    have c4 := c3.trans (hb4.mono c3.size)
    have c5 := (c4.alloc c4.size _).trans (hb5.mono (by have := c4.size; simp; omega))
    exact ⟨by simp, c5.trans (hb6.mono c5.size)⟩
  · cases h


def fix_Count.f (a0 : Int) : Option Int := if R64 a0 then some (heldI (heldI (heldI (-(-a0 / 1000000)) * 1000000) / 1000000)) else none
theorem fix_Count.calls (a0 r : Int) (w : World) (h : fix_Count.f a0 = some r) : Calls Try.prog 17 #[.int .i64 a0] w fun e w' => e = .returned (.int .i64 r) ∧ Below w.heap.size w w' := by
  unfold fix_Count.f at h
  split at h
  · rename_i hr
    obtain ⟨p0, p1⟩ := hr
    injection h with h
    have z0 := (heldI_range (heldI (-(-a0 / 1000000)) * 1000000)).1
    have z1 := (heldI_range (heldI (-(-a0 / 1000000)) * 1000000)).2
    have HR := Lib.hid h
    clear h
    go_enter Try.func17, Try.ntmps17
    go_wp2_with fail
    refine ((fun w_ => fix_Ceil.calls a0 _ w_ (if_pos ⟨p0, p1⟩)) _).mono ?_
    rintro e w1 ⟨rfl, hb1⟩
    go_wp2_with fail
    refine (of_any _ (heldI_range _).1 (by have := (heldI_range (heldI (-(-a0 / 1000000)) * 1000000)).2; omega) _).mono ?_
    rintro e w2 ⟨lo2, hi2, hw2, rfl, hb2⟩
    go_wp2_with fail
    refine (over_any hw2 (by omega) (by omega) (d := 1000000) (by decide) (by decide) _).mono ?_
    rintro e w3 ⟨lo3, hi3, hw3, rfl, hb3⟩
    go_wp2_with fail
    refine (held_any hw3 (by omega) (by omega) _).mono ?_
    rintro e w4 ⟨rfl, hb4⟩
    rw [HR.out]
    go_wp2
    go_ret
    have c2 := hb1.trans (hb2.mono hb1.size)
    have c3 := c2.trans (hb3.mono c2.size)
    have c4 := c3.trans (hb4.mono c3.size)
    exact ⟨by simp, c4⟩
  · cases h

def fix_Abs.f (a0 : Int) : Option Int := if R64 a0 then some (heldI (if a0 < 0 then -a0 else a0)) else none
theorem abs_max {a0 : Int} (h : R64 a0) : max a0 (heldI (-a0)) = heldI (if a0 < 0 then -a0 else a0) := by
  obtain ⟨p0, p1⟩ := h
  unfold heldI
  repeat' split
  all_goals omega
theorem fix_Abs.calls (a0 r : Int) (w : World) (h : fix_Abs.f a0 = some r) : Calls Try.prog 25 #[.int .i64 a0] w fun e w' => e = .returned (.int .i64 r) ∧ Below w.heap.size w w' := by
  unfold fix_Abs.f at h
  split at h
  · rename_i hr
    injection h with h
    have HR := Lib.hid h
    have HM := Lib.hid (abs_max hr)
    clear h
    go_enter Try.func25, Try.ntmps25
    go_wp2_with fail
    refine ((fun w_ => fix_Neg.calls a0 _ w_ (if_pos hr)) _).mono ?_
    rintro e w1 ⟨rfl, hb1⟩
    go_wp2
    go_ret
    exact ⟨by rw [← HR.out, ← HM.out]; simp, hb1⟩
  · cases h

def fix_Scale.f (a0 a1 a2 : Int) : Option Int := if R64 a0 ∧ R64 a1 ∧ R64 a2 then some (if a1 < 0 ∨ a2 < 1 then 0 else heldI (a0 * a1 / a2)) else none
theorem fix_Scale.calls (a0 a1 a2 r : Int) (w : World) (h : fix_Scale.f a0 a1 a2 = some r) : Calls Try.prog 31 #[.int .i64 a0, .int .i64 a1, .int .i64 a2] w fun e w' => e = .returned (.int .i64 r) ∧ Below w.heap.size w w' := by
  unfold fix_Scale.f at h
  split at h
  · rename_i hr
    obtain ⟨r0, r1, r2⟩ := hr
    injection h with h
    by_cases g1 : a1 < 0
    · rw [if_pos (.inl g1)] at h
      have HR := Lib.hid h
      have d1 : decide (a1 < 0) = true := decide_eq_true g1
      clear h
      go_enter Try.func31, Try.ntmps31
      go_wp2_with fail
      rw [← HR.out]
      go_ret
      exact ⟨by simp, Below.refl _ _⟩
    by_cases g2 : a2 < 1
    · rw [if_pos (.inr g2)] at h
      have HR := Lib.hid h
      have d1 : decide (a1 < 0) = false := decide_eq_false g1
      have d2 : decide (a2 < 1) = true := decide_eq_true g2
      clear h
      go_enter Try.func31, Try.ntmps31
      go_wp2_with fail
      rw [← HR.out]
      go_ret
      exact ⟨by simp, Below.refl _ _⟩
    · rw [if_neg (by omega)] at h
      have HR := Lib.hid h
      have d1 : decide (a1 < 0) = false := decide_eq_false g1
      have d2 : decide (a2 < 1) = false := decide_eq_false g2
      obtain ⟨s0, s1⟩ := prod_span r0 r1
      have x0 := r2.1
      have x1 := r2.2
      obtain ⟨u0, u1⟩ := div_range (d := a2) (by omega) (x := a0 * a1) (by omega) (by omega)
      have hc : IntKind.u64.wrap a2 = a2 := wu_in (by omega) (by omega)
      clear h
      go_enter Try.func31, Try.ntmps31
      go_wp2_with fail
      refine (times_any a0 a1 r0.1 (by have := r0.2; omega) r1.1 (by have := r1.2; omega) _).mono ?_
      rintro e w1 ⟨lo1, hi1, hw1, rfl, hb1⟩
      go_wp2_with fail
      refine (over_any hw1 (by omega) (by omega) (by omega) (by omega) _).mono ?_
      rintro e w2 ⟨lo2, hi2, hw2, rfl, hb2⟩
      go_wp2_with fail
      refine (held_any hw2 (by omega) (by omega) _).mono ?_
      rintro e w3 ⟨rfl, hb3⟩
      rw [HR.out]
      go_wp2
      go_ret
      have c2 := hb1.trans (hb2.mono hb1.size)
      exact ⟨by simp, c2.trans (hb3.mono c2.size)⟩
  · cases h

/-- The quotient in micro-units, rounded down. -/
def quotI (a b : Int) : Int := if b < 0 then -(a * 1000000) / -b else a * 1000000 / b
def fix_Div.f (a0 a1 : Int) : Option (Int × Bool) := if R64 a0 ∧ R64 a1 then some (if a1 = 0 then (0, false) else (heldI (quotI a0 a1), true)) else none
theorem div_zero (a0 : Int) (w : World) : Calls Try.prog 28 #[.int .i64 a0, .int .i64 0] w fun e w' => e = .returned (.tuple #[.int .i64 0, .bool false]) ∧ Below w.heap.size w w' := by
  go_enter Try.func28, Try.ntmps28
  go_wp2_with fail
  go_ret2
  exact ⟨by simp, Below.refl _ _⟩
theorem div_pos (a0 a1 : Int) (r0 : R64 a0) (r1 : R64 a1) (h : 0 < a1) (w : World) : Calls Try.prog 28 #[.int .i64 a0, .int .i64 a1] w fun e w' => e = .returned (.tuple #[.int .i64 (heldI (a0 * 1000000 / a1)), .bool true]) ∧ Below w.heap.size w w' := by
  obtain ⟨s0, s1⟩ := prod_span r0 (show R64 1000000 by decide)
  obtain ⟨u0, u1⟩ := div_range (d := a1) (by omega) (x := a0 * 1000000) (by omega) (by omega)
  have x0 := r0.1; have x1 := r0.2; have y0 := r1.1; have y1 := r1.2
  have dz : (a1 == 0) = false := by rw [beq_eq_false_iff_ne]; omega
  have dn : decide (a1 < 0) = false := decide_eq_false (by omega)
  go_enter Try.func28, Try.ntmps28
  go_wp2_with fail
  refine (times_any a0 1000000 x0 (by omega) (by decide) (by decide) _).mono ?_
  rintro e w1 ⟨lo1, hi1, hw1, rfl, hb1⟩
  go_wp2_with fail
  have CS := Lib.hid fun w => size_pos a1 (by omega) (by omega) w
  go_region_held3 (fun w' => w'.cell? ⟨w1.heap.size, 0, none⟩ = some (.int .u64 lo1) ∧ w'.cell? ⟨w1.heap.size, 1, none⟩ = some (.int .u64 hi1)) (first | exact ⟨k2, k3⟩ | exact ⟨k0, k1⟩ | (simp [go_sem, World.cell?_alloc_past]; done))
    (first
      | (go_at_call 51; refine (CS.out _).mono ?_; rintro e w' ⟨rfl, rfl⟩)
      | (go_at_call 43; refine (over_any hw1 (by omega) (by omega) (by omega) (by omega) _).mono ?_; rintro e w2 ⟨lo2, hi2, hw2, rfl, hb2⟩; have k0 : w2.cell? ⟨w1.heap.size, 0, none⟩ = some (.int .u64 lo1) := (hb2.cell (p := ⟨w1.heap.size, 0, none⟩) (by simp)).trans (by simp [go_sem]); have k1 : w2.cell? ⟨w1.heap.size, 1, none⟩ = some (.int .u64 hi1) := (hb2.cell (p := ⟨w1.heap.size, 1, none⟩) (by simp)).trans (by simp [go_sem]))
      | (go_at_call 44; refine (held_any hw2 (by omega) (by omega) _).mono ?_; rintro e w3 ⟨rfl, hb3⟩; have k2 := (hb3.cell (p := ⟨w1.heap.size, 0, none⟩) (by have := hb2.size; simp at this; simp; omega)).trans k0; have k3 := (hb3.cell (p := ⟨w1.heap.size, 1, none⟩) (by have := hb2.size; simp at this; simp; omega)).trans k1))
  go_wp2
  go_ret2
  have hB := ((hb1.alloc hb1.size _).drew.trans (hb2.mono (by have := hb1.size; simp; omega)))
  exact ⟨by simp, hB.trans (hb3.mono hB.size)⟩

theorem div_neg (a0 a1 : Int) (r0 : R64 a0) (r1 : R64 a1) (h : a1 < 0) (w : World) : Calls Try.prog 28 #[.int .i64 a0, .int .i64 a1] w fun e w' => e = .returned (.tuple #[.int .i64 (heldI (-(a0 * 1000000) / -a1)), .bool true]) ∧ Below w.heap.size w w' := by
  obtain ⟨s0, s1⟩ := prod_span r0 (show R64 1000000 by decide)
  obtain ⟨u0, u1⟩ := div_range (d := -a1) (by omega) (x := -(a0 * 1000000)) (by omega) (by omega)
  have x0 := r0.1; have x1 := r0.2; have y0 := r1.1; have y1 := r1.2
  have dz : (a1 == 0) = false := by rw [beq_eq_false_iff_ne]; omega
  have dn : decide (a1 < 0) = true := decide_eq_true h
  go_enter Try.func28, Try.ntmps28
  go_wp2_with fail
  refine (times_any a0 1000000 x0 (by omega) (by decide) (by decide) _).mono ?_
  rintro e w1 ⟨lo1, hi1, hw1, rfl, hb1⟩
  go_wp2_with fail
  refine (minus_any hw1 _).mono ?_
  rintro e w2 ⟨lo2, hi2, hw2, rfl, hb2⟩
  obtain ⟨hc, hf⟩ := bcell hb2
  have hz : w1.heap.size < w2.heap.size := by have := hb2.size; simp at this; omega
  go_wp2_with fail
  have b0 := two_set ((hb2.block w1.heap.size (by simp)).trans (PrintWords.blk_new w1 _)) (.int .u64 lo2) (.int .u64 hi2)
  have hB := (hb1.alloc hb1.size (.cells #[.int .u64 lo1, .int .u64 hi1] 35)).trans (hb2.mono (by have := hb1.size; simp; omega))
  have hB3 := (hB.setCell (p := ⟨w1.heap.size, 0, none⟩) hb1.size (.int .u64 lo2)).setCell (p := ⟨w1.heap.size, 1, none⟩) hb1.size (.int .u64 hi2)
  have hz3 : w1.heap.size < ((w2.setCell ⟨w1.heap.size, 0, none⟩ (.int .u64 lo2)).setCell ⟨w1.heap.size, 1, none⟩ (.int .u64 hi2)).heap.size := by simp [World.setCell]; omega
  generalize (w2.setCell ⟨w1.heap.size, 0, none⟩ (.int .u64 lo2)).setCell ⟨w1.heap.size, 1, none⟩ (.int .u64 hi2) = w4 at *
  clear hc hf hb2 hB hz
  obtain ⟨c0, c1, f0, f1⟩ := two_of b0
  have Hb0 := Lib.hid b0
  clear b0
  have CS := Lib.hid fun w => size_neg a1 h y0 w
  go_region_held3 (fun w' => w'.cell? ⟨w1.heap.size, 0, none⟩ = some (.int .u64 lo2) ∧ w'.cell? ⟨w1.heap.size, 1, none⟩ = some (.int .u64 hi2)) (first | exact ⟨k2, k3⟩ | exact ⟨k0, k1⟩ | (simp [go_sem, c0, c1]; done))
    (first
      | (go_at_call 51; refine (CS.out _).mono ?_; rintro e w' ⟨rfl, rfl⟩)
      | (go_at_call 43; refine (over_any hw2 (by omega) (by omega) (by omega) (by omega) _).mono ?_; rintro e w5 ⟨lo5, hi5, hw5, rfl, hb5⟩; have k0 : w5.cell? ⟨w1.heap.size, 0, none⟩ = some (.int .u64 lo2) := (hb5.cell (p := ⟨w1.heap.size, 0, none⟩) (by simp; omega)).trans (by simp [go_sem, c0]); have k1 : w5.cell? ⟨w1.heap.size, 1, none⟩ = some (.int .u64 hi2) := (hb5.cell (p := ⟨w1.heap.size, 1, none⟩) (by simp; omega)).trans (by simp [go_sem, c1]))
      | (go_at_call 44; refine (held_any hw5 (by omega) (by omega) _).mono ?_; rintro e w6 ⟨rfl, hb6⟩; have k2 := (hb6.cell (p := ⟨w1.heap.size, 0, none⟩) (by have := hb5.size; simp at this; simp; omega)).trans k0; have k3 := (hb6.cell (p := ⟨w1.heap.size, 1, none⟩) (by have := hb5.size; simp at this; simp; omega)).trans k1))
  go_wp2
  go_ret2
  have hB5 := hB3.drew.trans (hb5.mono (by have := hB3.size; simpa using this))
  exact ⟨by simp, hB5.trans (hb6.mono hB5.size)⟩

theorem fix_Div.calls (a0 a1 r1 : Int) (r2 : Bool) (w : World) (h : fix_Div.f a0 a1 = some (r1, r2)) : Calls Try.prog 28 #[.int .i64 a0, .int .i64 a1] w fun e w' => e = .returned (.tuple #[.int .i64 r1, .bool r2]) ∧ Below w.heap.size w w' := by
  unfold fix_Div.f at h
  split at h
  · rename_i hr
    injection h with h
    by_cases hz : a1 = 0
    · subst hz
      rw [if_pos rfl] at h
      injection h with h1 h2
      subst h1; subst h2
      exact div_zero a0 w
    · rw [if_neg hz] at h
      injection h with h1 h2
      subst h1; subst h2
      unfold quotI
      by_cases hn : a1 < 0
      · rw [if_pos hn]
        exact div_neg a0 a1 hr.1 hr.2 hn w
      · rw [if_neg hn]
        exact div_pos a0 a1 hr.1 hr.2 (by omega) w
  · cases h
end Go.Proofs.Ytbnmjfeacejngaa
