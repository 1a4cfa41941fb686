/-
  The reference's products, quotients and roundings of numbers of 64 bits.
-/
import Derived.Test.YtbnmjfeacejngaaBigRef4
namespace Go.Proofs.Ytbnmjfeacejngaa.Big
open Go.RowKit Go.Proofs.Ytbnmjfeacejngaa Go.Proofs.Ytbnmjfeacejngaa.XRef01 Go.Proofs.YtbnmjfeacejngaaW.PrintWords Go.Proofs.YtbnmjfeacejngaaW.PrintLast Go.Proofs.YtbnmjfeacejngaaW.PrintMore

theorem bind_of {α β : Type} {o : Option α} {f : α → Option β} {x : α} {y : Option β} (h : o = some x) (h2 : f x = y) : o.bind f = y := by subst h; exact h2
/-- The product of two numbers of 64 bits, in digits. -/
theorem prod_of (k : Nat) (hk : 1000 ≤ k) {a b : Int} (ha : R64 a) (hb : R64 b) : ∃ s d t e u r, capstanref01_Of.f k a = some (s, d) ∧ capstanref01_Of.f k b = some (t, e) ∧ capstanref01_Times.f k s d t e = some (u, r) ∧ sval u r = a * b ∧ Dig r ∧ Nrm r ∧ r.length ≤ 8 := by
  obtain ⟨s, d, d1, _, d2, d3, d4, d5, _⟩ := of_f ha k (by omega)
  obtain ⟨t, e, e1, _, e2, e3, e4, e5, _⟩ := of_f hb k (by omega)
  obtain ⟨r, f1, f2, f3, f4, f5⟩ := times_f (s := s) (t := t) d3 e3 (by omega) (by omega) k (by omega)
  exact ⟨s, d, t, e, _, r, d1, e1, f1, by rw [sval_times f2, d2, e2], f3, f4, by omega⟩
theorem one_r : R64 1000000 := by decide
theorem mul_ref (k : Nat) (hk : 1000 ≤ k) {a b : Int} (ha : R64 a) (hb : R64 b) : capstanref01_Mul.f k a b = some (heldI (a * b / 1000000)) := by
  obtain ⟨s, d, t, e, u, r, h1, h2, h3, h4, h5, h6, h7⟩ := prod_of k (by omega) ha hb
  obtain ⟨q, q1, q2, q3, q4, q5⟩ := over_f (s := u) (den := 1000000) (by decide) (by decide) h5 (by omega) k (by omega)
  unfold capstanref01_Mul.f
  refine bind_of h1 ?_
  refine bind_of h2 ?_
  refine bind_of h3 ?_
  refine bind_of q1 ?_
  refine bind_of (held_f q3 q4 (by omega) k (by omega)) ?_
  rw [q2, h4]
theorem scale_ref (k : Nat) (hk : 1001 ≤ k) {a b c : Int} (ha : R64 a) (hb : R64 b) (hc : R64 c) : capstanref01_Scale.f k a b c = some (if b < 0 ∨ c < 1 then 0 else heldI (a * b / c)) := by
  obtain ⟨k, rfl⟩ : ∃ m, k = m + 1 := ⟨k - 1, by omega⟩
  unfold capstanref01_Scale.f
  by_cases hb0 : b < 0
  · rw [if_pos hb0, if_pos (.inl hb0)]
    simp only [capstanref01_Scale.j0, if_true]
  · rw [if_neg hb0]
    by_cases hc0 : c < 1
    · rw [if_pos (.inr hc0), decide_eq_true hc0]
      simp only [capstanref01_Scale.j0, if_true]
    · rw [if_neg (by omega), decide_eq_false hc0]
      obtain ⟨s, d, t, e, u, r, h1, h2, h3, h4, h5, h6, h7⟩ := prod_of k (by omega) ha hb
      obtain ⟨q, q1, q2, q3, q4, q5⟩ := over_f (s := u) (den := c) (by omega) hc.2 h5 (by omega) k (by omega)
      simp only [capstanref01_Scale.j0, Bool.false_eq_true, if_false]
      refine bind_of h1 ?_
      refine bind_of h2 ?_
      refine bind_of h3 ?_
      refine bind_of q1 ?_
      refine bind_of (held_f q3 q4 (by omega) k (by omega)) ?_
      rw [q2, h4]
theorem half_f (k : Nat) (hk : 1000 ≤ k) {s : Bool} {a : List Int} (ha : Dig a) (hla : a.length ≤ 8) {x : Int} (hx : sval s a = 2 * x) : ∃ d, capstanref01_half.f k s a = some (s, d) ∧ sval s d = x ∧ Dig d ∧ Nrm d ∧ d.length ≤ a.length + 2 := by
  obtain ⟨q, q1, q2, q3, q4, q5⟩ := over_f (s := false) (den := 2) (by decide) (by decide) ha (by omega) k (by omega)
  unfold capstanref01_half.f
  refine ⟨q, bind_of q1 rfl, ?_, q3, q4, q5⟩
  have e1 : sval false q = val q := rfl
  have e2 : sval false a = val a := rfl
  rw [e1, e2] at q2
  cases s with
  | true =>
    have e3 : sval true a = -val a := rfl
    have e4 : sval true q = -val q := rfl
    rw [e3] at hx
    rw [e4]
    omega
  | false =>
    rw [e2] at hx
    rw [e1]
    omega
theorem div_ref (k : Nat) (hk : 1000 ≤ k) {a b : Int} (ha : R64 a) (hb : R64 b) : capstanref01_Div.f k a b = some (if b = 0 then (0, false) else (heldI (quotI a b), true)) := by
  unfold capstanref01_Div.f
  by_cases h0 : b = 0
  · rw [if_pos h0, if_pos h0]
  · rw [if_neg h0, if_neg h0]
    obtain ⟨s, d, t, e, u, r, h1, h2, h3, h4, h5, h6, h7⟩ := prod_of k (by omega) ha one_r
    refine bind_of h1 ?_
    refine bind_of h2 ?_
    refine bind_of h3 ?_
    by_cases hm : b = -9223372036854775808
    · rw [if_pos hm]
      obtain ⟨g, g1, g2, g3, g4, g5⟩ := half_f k hk (s := u) h5 h7 (x := a * 500000) (by omega)
      refine bind_of g1 ?_
      refine bind_of (minus_f _ _) ?_
      obtain ⟨q, q1, q2, q3, q4, q5⟩ := over_f (s := !u) (den := 4611686018427387904) (by decide) (by decide) g3 (by omega) k (by omega)
      refine bind_of q1 ?_
      refine bind_of (held_f q3 q4 (by omega) k (by omega)) ?_
      rw [q2, sval_not, g2]
      have e : -(a * 500000) / 4611686018427387904 = quotI a b := by
        subst hm
        unfold quotI
        rw [if_pos (by decide), Int.neg_neg]
        omega
      rw [e]
    · rw [if_neg hm]
      by_cases hn : b < 0
      · rw [if_pos hn, minus_f]; simp only [Option.bind_some]
        obtain ⟨q, q1, q2, q3, q4, q5⟩ := over_f (s := !u) (den := -b) (by omega) (by have := hb.1; omega) h5 (by omega) k (by omega)
        rw [w64s (by have := hb.1; omega) (by have := hb.1; omega)]
        refine bind_of q1 ?_
        refine bind_of (held_f q3 q4 (by omega) k (by omega)) ?_
        rw [q2, sval_not, h4]
        have e : -(a * 1000000) / -b = quotI a b := by unfold quotI; rw [if_pos hn]
        rw [e]
      · rw [if_neg hn]
        obtain ⟨q, q1, q2, q3, q4, q5⟩ := over_f (s := u) (den := b) (by omega) hb.2 h5 (by omega) k (by omega)
        refine bind_of q1 ?_
        refine bind_of (held_f q3 q4 (by omega) k (by omega)) ?_
        rw [q2, h4]
        have e : a * 1000000 / b = quotI a b := by unfold quotI; rw [if_neg hn]
        rw [e]
theorem floor_ref (k : Nat) (hk : 1000 ≤ k) {a : Int} (ha : R64 a) : capstanref01_Floor.f k a = some (heldI (a / 1000000 * 1000000)) := by
  obtain ⟨s, d, d1, _, d2, d3, d4, d5, _⟩ := of_f ha k (by omega)
  obtain ⟨t, e, e1, _, e2, e3, e4, e5, _⟩ := of_f one_r k (by omega)
  obtain ⟨q, q1, q2, q3, q4, q5⟩ := over_f (s := s) (den := 1000000) (by decide) (by decide) d3 (by omega) k (by omega)
  obtain ⟨r, f1, f2, f3, f4, f5⟩ := times_f (s := s) (t := t) q3 e3 (by omega) (by omega) k (by omega)
  unfold capstanref01_Floor.f
  refine bind_of d1 ?_
  refine bind_of q1 ?_
  refine bind_of e1 ?_
  refine bind_of f1 ?_
  refine bind_of (held_f f3 f4 (by omega) k (by omega)) ?_
  rw [sval_times f2, q2, d2, e2]
theorem ceil_ref (k : Nat) (hk : 1000 ≤ k) {a : Int} (ha : R64 a) : capstanref01_Ceil.f k a = some (heldI (-(-a / 1000000) * 1000000)) := by
  obtain ⟨s, d, d1, _, d2, d3, d4, d5, _⟩ := of_f ha k (by omega)
  obtain ⟨t, e, e1, _, e2, e3, e4, e5, _⟩ := of_f one_r k (by omega)
  obtain ⟨q, q1, q2, q3, q4, q5⟩ := over_f (s := !s) (den := 1000000) (by decide) (by decide) d3 (by omega) k (by omega)
  obtain ⟨r, f1, f2, f3, f4, f5⟩ := times_f (s := !!s) (t := t) q3 e3 (by omega) (by omega) k (by omega)
  unfold capstanref01_Ceil.f
  refine bind_of d1 ?_
  refine bind_of (minus_f _ _) ?_
  refine bind_of q1 ?_
  refine bind_of (minus_f _ _) ?_
  refine bind_of e1 ?_
  refine bind_of f1 ?_
  refine bind_of (held_f f3 f4 (by omega) k (by omega)) ?_
  rw [sval_times f2, sval_not, q2, sval_not, d2, e2]
theorem whole_ref (k : Nat) (hk : 1000 ≤ k) {a : Int} (ha : R64 a) : capstanref01_Whole.f k a = some (heldI (a * 1000000)) := by
  obtain ⟨s, d, t, e, u, r, h1, h2, h3, h4, h5, h6, h7⟩ := prod_of k (by omega) ha one_r
  unfold capstanref01_Whole.f
  refine bind_of h1 ?_
  refine bind_of h2 ?_
  refine bind_of h3 ?_
  refine bind_of (held_f h5 h6 (by omega) k (by omega)) ?_
  rw [h4]
theorem count_ref (k : Nat) (hk : 1000 ≤ k) {a : Int} (ha : R64 a) : capstanref01_Count.f k a = some (heldI (heldI (-(-a / 1000000) * 1000000) / 1000000)) := by
  obtain ⟨s, d, d1, _, d2, d3, d4, d5, _⟩ := of_f (heldI_R64 (-(-a / 1000000) * 1000000)) k (by omega)
  obtain ⟨q, q1, q2, q3, q4, q5⟩ := over_f (s := s) (den := 1000000) (by decide) (by decide) d3 (by omega) k (by omega)
  unfold capstanref01_Count.f
  refine bind_of (ceil_ref k hk ha) ?_
  refine bind_of d1 ?_
  refine bind_of q1 ?_
  refine bind_of (held_f q3 q4 (by omega) k (by omega)) ?_
  rw [q2, d2]
end Go.Proofs.Ytbnmjfeacejngaa.Big
