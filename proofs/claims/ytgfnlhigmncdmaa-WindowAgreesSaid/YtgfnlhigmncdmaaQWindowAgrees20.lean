/-
  Texts of this seat, joined, less what WindowAgrees does not lean on: FixWide.
-/
import Derived.Test.YtgfnlhigmncdmaaQWindowAgrees18
import Derived.Deep.DeepMust
section
namespace Go.Proofs.Ytgfnlhigmncdmaa
set_option linter.unusedVariables false
set_option linter.unusedSimpArgs false
open Go.RowKit Go.Shelf Go.Proofs.YtgfnlhigmncdmaaW

theorem wide_mean_nil (n : Int) (w : World) : Calls Try.prog 35 #[.pointer none, .int .i64 n] w fun e w' => e = .returned (.tuple #[.int .i64 0, .bool (decide (1 ≤ n))]) ∧ w = w' := by
  by_cases h : n < 1
  · have hd : decide (n < 1) = true := decide_eq_true h
    have he : decide (1 ≤ n) = false := decide_eq_false (by omega)
    go_enter Try.func35, Try.ntmps35
    go_wp2
    go_ret2
    exact ⟨by simp [he], rfl⟩
  · have hd : decide (n < 1) = false := decide_eq_false h
    have he : decide (1 ≤ n) = true := decide_eq_true (by omega)
    go_enter Try.func35, Try.ntmps35
    go_wp2
    go_ret2
    exact ⟨by simp [he], rfl⟩

/-- What is told of a whole number: it, if it is an int64; else 0. -/
def toldN (x : Int) : Int := if inR x then x else 0
theorem told_any {x a b : Int} (hx : IsW x a b) (h0 : -170141183460469231731687303715884105728 ≤ x) (h1 : x < 170141183460469231731687303715884105728) (w : World) :
    Calls Try.prog 53 #[.agg #[.int .u64 a, .int .u64 b]] w fun e w' => e = .returned (.tuple #[.int .i64 (toldN x), .bool (inR x)]) ∧ Below w.heap.size w w' := by
  cases hr : inR x with
  | true =>
    have ht : toldN x = x := by unfold toldN; rw [hr]; rfl
    have HT := Lib.hid ht
    have C := Lib.hid fun w => fit_yes hx h0 h1 hr w
    clear ht hr
    go_enter Try.func53, Try.ntmps53
    go_wp2_with fail
    refine (C.out _).mono ?_
    rintro e w1 ⟨rfl, hb1⟩
    go_wp2
    go_ret2
    rw [HT.out]
    exact ⟨by simp, ((Below.refl _ _).alloc (Nat.le_refl _) _).trans (hb1.mono (by simp))⟩
  | false =>
    have ht : toldN x = 0 := by unfold toldN; rw [hr]; rfl
    have HT := Lib.hid ht
    have C := Lib.hid fun w => fit_no hx h0 h1 hr w
    clear ht hr
    go_enter Try.func53, Try.ntmps53
    go_wp2_with fail
    refine (C.out _).mono ?_
    rintro e w1 ⟨rfl, hb1⟩
    go_wp2
    go_ret2
    rw [HT.out]
    exact ⟨by simp, ((Below.refl _ _).alloc (Nat.le_refl _) _).trans (hb1.mono (by simp))⟩

/-- A wide sum lies at an address: its two words. -/
structure WideAt (w : World) (g o : Nat) (x : Int) : Prop where
  ex : ∃ lo hi : Int, IsW x lo hi ∧ w.cell? ⟨g, o, none⟩ = some (.int .u64 lo) ∧ w.cell? ⟨g, o + 1, none⟩ = some (.int .u64 hi) ∧ w.frozen? ⟨g, o, none⟩ = false ∧ w.frozen? ⟨g, o + 1, none⟩ = false

theorem wide_fit {x : Int} {g o : Nat} {w : World} (h : WideAt w g o x) (h0 : -170141183460469231731687303715884105728 ≤ x) (h1 : x < 170141183460469231731687303715884105728) :
    Calls Try.prog 32 #[.pointer (some ⟨g, o, none⟩)] w fun e w' => e = .returned (.tuple #[.int .i64 (toldN x), .bool (inR x)]) ∧ Below w.heap.size w w' := by
  obtain ⟨lo, hi, hw, c0, c1, f0, f1⟩ := h.ex
  have C := Lib.hid fun w => told_any hw h0 h1 w
  go_enter Try.func32, Try.ntmps32
  go_wp2_with fail
  refine (C.out _).mono ?_
  rintro e w1 ⟨rfl, hb1⟩
  go_wp2
  go_ret2
  exact ⟨by simp, hb1⟩
theorem wide_mean {x n : Int} {g o : Nat} {w : World} (h : WideAt w g o x) (hn : R64 n) (h0 : -85070591730234615865843651857942052864 ≤ x) (h1 : x ≤ 85070591730234615865843651857942052864) :
    Calls Try.prog 35 #[.pointer (some ⟨g, o, none⟩), .int .i64 n] w fun e w' => e = .returned (.tuple #[.int .i64 (if n < 1 then 0 else toldN (x / n)), .bool (if n < 1 then false else inR (x / n))]) ∧ Below w.heap.size w w' := by
  by_cases hz : n < 1
  · have hd : decide (n < 1) = true := decide_eq_true hz
    rw [if_pos hz, if_pos hz]
    clear hz
    go_enter Try.func35, Try.ntmps35
    go_wp2
    go_ret2
    exact ⟨by simp, Below.refl _ _⟩
  · have hd : decide (n < 1) = false := decide_eq_false hz
    rw [if_neg hz, if_neg hz]
    obtain ⟨lo, hi, hw, c0, c1, f0, f1⟩ := h.ex
    obtain ⟨n0, n1⟩ := hn
    obtain ⟨u0, u1⟩ := div_range (d := n) (by omega) (x := x) (by omega) (by omega)
    have hc : IntKind.u64.wrap n = n := wu_in (by omega) (by omega)
    go_enter Try.func35, Try.ntmps35
    go_wp2_with fail
    refine (over_any hw (by omega) (by omega) (by omega) (by omega) _).mono ?_
    rintro e w1 ⟨lo1, hi1, hw1, rfl, hb1⟩
    go_wp2_with fail
    refine (told_any hw1 (by omega) (by omega) _).mono ?_
    rintro e w2 ⟨rfl, hb2⟩
    go_wp2
    go_ret2
    exact ⟨by simp, hb1.trans (hb2.mono hb1.size)⟩

/-- What a call that writes a wide sum leaves: new blocks, and the words of the new sum. -/
def Wrote (x : Int) (g o : Nat) (w : World) (e : Ending) (w' : World) : Prop :=
  e = .returned (.tuple #[]) ∧ ∃ (w1 : World) (lo hi : Int), IsW x lo hi ∧ Below w.heap.size w w1 ∧ w' = (w1.setCell ⟨g, o, none⟩ (.int .u64 lo)).setCell ⟨g, o + 1, none⟩ (.int .u64 hi)

theorem keeps {w w' : World} {g o : Nat} {u v : Value} (hb : Below w.heap.size w w') (hg : g < w.heap.size) (h : w.cell? ⟨g, o, none⟩ = some u ∧ w.cell? ⟨g, o + 1, none⟩ = some v ∧ w.frozen? ⟨g, o, none⟩ = false ∧ w.frozen? ⟨g, o + 1, none⟩ = false) :
    w'.cell? ⟨g, o, none⟩ = some u ∧ w'.cell? ⟨g, o + 1, none⟩ = some v ∧ w'.frozen? ⟨g, o, none⟩ = false ∧ w'.frozen? ⟨g, o + 1, none⟩ = false :=
  ⟨(hb.cell (p := ⟨g, o, none⟩) hg).trans h.1, (hb.cell (p := ⟨g, o + 1, none⟩) hg).trans h.2.1, (hb.frozen (p := ⟨g, o, none⟩) hg).trans h.2.2.1, (hb.frozen (p := ⟨g, o + 1, none⟩) hg).trans h.2.2.2⟩

theorem wide_add {x v : Int} {g o : Nat} {w : World} (h : WideAt w g o x) (hg : g < w.heap.size) (hv : R64 v) :
    Calls Try.prog 26 #[.pointer (some ⟨g, o, none⟩), .int .i64 v] w (Wrote (x + v) g o w) := by
  obtain ⟨lo, hi, hw, c0, c1, f0, f1⟩ := h.ex
  obtain ⟨v0, v1⟩ := hv
  go_enter Try.func26, Try.ntmps26
  go_wp2_with fail
  go_region_with (first
      | (go_at_call 50; refine (of_any v v0 (by omega) _).mono ?_; rintro e w1 ⟨lo1, hi1, hw1, rfl, hb1⟩; obtain ⟨x0, x1, x2, x3⟩ := keeps (g := g) (o := o) (u := .int .u64 lo) (v := .int .u64 hi) hb1 (by simpa using hg) (by simp [go_sem, c0, c1, f0, f1]))
      | (go_at_call 49; refine (plus_any hw hw1 _).mono ?_; rintro e w2 ⟨lo2, hi2, hw2, rfl, hb2⟩; obtain ⟨y0, y1, y2, y3⟩ := keeps (g := g) (o := o) (u := .int .u64 lo) (v := .int .u64 hi) hb2 (by have := hb1.size; simp at this; omega) (by simp [go_sem, x0, x1, x2, x3])))
  all_goals
    go_end0
    have hB := (Below.refl w.heap.size w).drew.trans hb1
    exact ⟨by simp, w2, lo2, hi2, hw2, hB.trans (hb2.mono hB.size), rfl⟩

set_option maxHeartbeats 1000000 in
theorem wide_take {x v : Int} {g o : Nat} {w : World} (h : WideAt w g o x) (hg : g < w.heap.size) (hv : R64 v) :
    Calls Try.prog 46 #[.pointer (some ⟨g, o, none⟩), .int .i64 v] w (Wrote (x + -v) g o w) := by
  obtain ⟨lo, hi, hw, c0, c1, f0, f1⟩ := h.ex
  obtain ⟨v0, v1⟩ := hv
  go_enter Try.func46, Try.ntmps46
  go_wp2_with fail
  go_region_with (first
      | (go_at_call 50; refine (of_any v v0 (by omega) _).mono ?_; rintro e w1 ⟨lo1, hi1, hw1, rfl, hb1⟩; obtain ⟨x0, x1, x2, x3⟩ := keeps (g := g) (o := o) (u := .int .u64 lo) (v := .int .u64 hi) hb1 (by simpa using hg) (by simp [go_sem, c0, c1, f0, f1]))
      | (go_at_call 69; refine (minus_any hw1 _).mono ?_; rintro e w2 ⟨lo2, hi2, hw2, rfl, hb2⟩; obtain ⟨z0, z1, z2, z3⟩ := keeps (g := g) (o := o) (u := .int .u64 lo) (v := .int .u64 hi) hb2 (by have := hb1.size; simp at this; omega) (by simp [go_sem, x0, x1, x2, x3]))
      | (go_at_call 49; refine (plus_any hw hw2 _).mono ?_; rintro e w3 ⟨lo3, hi3, hw3, rfl, hb3⟩; obtain ⟨y0, y1, y2, y3⟩ := keeps (g := g) (o := o) (u := .int .u64 lo) (v := .int .u64 hi) hb3 (by have := hb1.size; have := hb2.size; simp at *; omega) (by simp [go_sem, z0, z1, z2, z3])))
  all_goals
    go_end0
    have hB := (Below.refl w.heap.size w).drew.trans hb1
    have hB2 := hB.trans (hb2.mono hB.size)
    exact ⟨by simp, w3, lo3, hi3, hw3, hB2.trans (hb3.mono hB2.size), rfl⟩
end Go.Proofs.Ytgfnlhigmncdmaa

end
