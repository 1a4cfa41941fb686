/-
  Texts of this seat, joined, less what CoreEvals does not lean on: FixNum, BigRef, BigRef2, BigRef3, BigRef4, BigRef5.
-/
import Derived.Test.YtpljkcakijkklaaGreatDoorQCoreEvals18
import Derived.ProofKit
import Derived.Test.YtpljkcakijkklaaGreatDoorQCoreEvals14
import Derived.Test.YtpljkcakijkklaaGreatDoorQCoreEvals2
set_option linter.unusedVariables false
set_option linter.unusedSimpArgs false
section
namespace Go.Proofs.YtpljkcakijkklaaGreatDoor
set_option linter.unusedVariables false
set_option linter.unusedSimpArgs false
open Go.RowKit

theorem w64_in {x : Int} (h : R64 x) : wrap64 x = x := by obtain ⟨h0, h1⟩ := h; unfold wrap64; omega
end Go.Proofs.YtpljkcakijkklaaGreatDoor

end
section
namespace Go.Proofs.YtpljkcakijkklaaGreatDoor.Big
set_option linter.unusedVariables false
set_option linter.unusedSimpArgs false
open Go.RowKit Go.Proofs.YtpljkcakijkklaaGreatDoor Go.Proofs.YtpljkcakijkklaaGreatDoor.XRef01 Go.Proofs.YtpljkcakijkklaaGreatDoorW.PrintWords Go.Proofs.YtpljkcakijkklaaGreatDoorW.PrintLast Go.Proofs.YtpljkcakijkklaaGreatDoorW.PrintMore

theorem w64s {x : Int} (h0 : -9223372036854775808 ≤ x) (h1 : x ≤ 9223372036854775807) : wrap64 x = x := w64_in ⟨h0, h1⟩
theorem rd_dg (l : List Int) (i : Nat) : rd l (i : Int) = dg l i := by unfold rd dg; rw [Int.toNat_natCast]

theorem trim_l0 {l : List Int} (hl : l.length < 4611686018427387904) : ∀ (n k : Nat), n ≤ l.length → n < k →
  ∃ m, m ≤ n ∧ capstanref01_trim.l0 k l (n : Int) = some (l.take m) ∧ val (l.take m) = val (l.take n) ∧ (m = 0 ∨ dg l (m - 1) ≠ 0) := by
 intro n
 induction n with
 | zero =>
  intro k hn hk
  obtain ⟨k, rfl⟩ : ∃ m, k = m + 1 := ⟨k - 1, by omega⟩
  refine ⟨0, Nat.le_refl _, ?_, rfl, .inl rfl⟩
  simp only [capstanref01_trim.l0]
  rw [if_neg (by omega), if_pos (by omega), if_pos (by omega), Int.toNat_natCast]
 | succ n ih =>
  intro k hn hk
  obtain ⟨k, rfl⟩ : ∃ m, k = m + 1 := ⟨k - 1, by omega⟩
  have e : wrap64 (((n + 1 : Nat) : Int) - 1) = (n : Int) := by rw [w64s (by omega) (by omega)]; omega
  by_cases hz : dg l n = 0
  ·obtain ⟨m, h1, h2, h3, h4⟩ := ih k (by omega) (by omega)
   refine ⟨m, by omega, ?_, ?_, h4⟩
   ·simp only [capstanref01_trim.l0]
    rw [if_pos (by omega), e, if_pos (by omega), if_pos (by omega), rd_dg, if_pos hz]
    exact h2
   ·rw [h3, val_take_succ, hz, Int.mul_zero, Int.add_zero]
  ·refine ⟨n + 1, Nat.le_refl _, ?_, rfl, .inr hz⟩
   simp only [capstanref01_trim.l0]
   rw [if_pos (by omega), e, if_pos (by omega), if_pos (by omega), rd_dg, if_neg hz, if_pos (by omega), if_pos (by omega), Int.toNat_natCast]
theorem trim_f {l : List Int} (hd : Dig l) (hl : l.length < 4611686018427387904) (k : Nat) (hk : l.length < k) :
  ∃ r, capstanref01_trim.f k l = some r ∧ val r = val l ∧ Dig r ∧ Nrm r ∧ r.length ≤ l.length := by
 obtain ⟨m, h1, h2, h3, h4⟩ := trim_l0 hl l.length k (Nat.le_refl _) hk
 refine ⟨l.take m, h2, by rw [h3, List.take_length], hd.take m, ?_, by rw [List.length_take]; omega⟩
 rcases h4 with rfl | h4
 ·exact .inl rfl
 ·by_cases hm : m = 0
  ·subst hm; exact .inl rfl
  ·refine .inr ?_
   rw [List.length_take_of_le h1]
   have e : dg (l.take m) (m - 1) = dg l (m - 1) := by
    unfold dg
    rw [List.getD_eq_getElem?_getD, List.getD_eq_getElem?_getD, List.getElem?_take, if_pos (by omega)]
   rwa [e]

theorem at_f (l : List Int) (i : Nat) : capstanref01_at.f l (i : Int) = some (dg l i) := by
 unfold capstanref01_at.f
 by_cases h : i < l.length
 ·rw [if_pos (by omega), if_pos (by omega), rd_dg]
 ·rw [if_neg (by omega), dg_beyond (by omega)]

theorem mx_len (a b : List Int) : mx (a.length : Int) (b.length : Int) = ((max a.length b.length : Nat) : Int) := by unfold mx; split <;> omega
theorem sum_l0 {a b : List Int} (ha : Dig a) (hb : Dig b) (hla : a.length < 17592186044415) (hlb : b.length < 17592186044415) (n : Nat) :
  ∀ (k i : Nat) (r : List Int) (c : Int), max a.length b.length + 1 = i + n → r.length = i → Dig r → (c = 0 ∨ c = 1) → (n = 0 → c = 0) → val r + P i * c = val (a.take i) + val (b.take i) → 2 * n + max a.length b.length + 20 ≤ k →
   ∃ s, capstanref01_sum.l0 k a b r c (i : Int) = some s ∧ val s = val a + val b ∧ Dig s ∧ Nrm s ∧ s.length ≤ max a.length b.length + 1 := by
 induction n with
 | zero =>
  intro k i r c hi hr hd hc hc0 hv hk
  obtain ⟨k, rfl⟩ : ∃ m, k = m + 2 := ⟨k - 2, by omega⟩
  have hc' := hc0 rfl
  subst hc'
  obtain ⟨s, s1, s2, s3, s4, s5⟩ := trim_f hd (by omega) k (by omega)
  rw [Int.mul_zero, Int.add_zero, val_take_all (by omega), val_take_all (by omega)] at hv
  refine ⟨s, ?_, by omega, s3, s4, by omega⟩
  simp only [capstanref01_sum.l0]
  rw [mx_len, if_neg (by omega)]
  simp only [capstanref01_sum.j1]
  rw [if_neg (by decide), s1]
  rfl
 | succ n ih =>
  intro k i r c hi hr hd hc hc0 hv hk
  obtain ⟨k, rfl⟩ : ∃ m, k = m + 2 := ⟨k - 2, by omega⟩
  have go : capstanref01_sum.j1 (k + 1) a b r c (i : Int) true = capstanref01_sum.l0 k a b (r ++ [Int.tmod (wrap64 (wrap64 (dg a i + dg b i) + c)) 65536]) (wrap64 (Int.tdiv (wrap64 (wrap64 (dg a i + dg b i) + c)) 65536)) ((i + 1 : Nat) : Int) := by
   simp only [capstanref01_sum.j1]
   rw [if_true, at_f, at_f]
   simp only [Option.bind_some]
   rw [if_pos (by omega), show wrap64 ((i : Int) + 1) = ((i + 1 : Nat) : Int) by rw [w64s (by omega) (by omega)]; omega]
  have step : ∃ s, capstanref01_sum.j1 (k + 1) a b r c (i : Int) true = some s ∧ val s = val a + val b ∧ Dig s ∧ Nrm s ∧ s.length ≤ max a.length b.length + 1 := by
   obtain ⟨x0, x1⟩ := ha.dg i
   obtain ⟨y0, y1⟩ := hb.dg i
   have e1 : wrap64 (dg a i + dg b i) = dg a i + dg b i := w64s (by omega) (by omega)
   have e2 : wrap64 (dg a i + dg b i + c) = dg a i + dg b i + c := w64s (by omega) (by omega)
   have e3 : wrap64 ((dg a i + dg b i + c) / 65536) = (dg a i + dg b i + c) / 65536 := w64s (by omega) (by omega)
   rw [go, e1, e2, Int.tdiv_eq_ediv_of_nonneg (by omega), Int.tmod_eq_emod_of_nonneg (by omega), e3]
   have c0 : 0 ≤ (dg a i + dg b i + c) / 65536 := by omega
   have c1 : (dg a i + dg b i + c) / 65536 ≤ 1 := by omega
   refine ih k (i + 1) _ _ (by omega) (by simp [hr]) (hd.snoc (by omega) (by omega)) (by clear e1 e2 e3 go; omega) ?_ ?_ (by omega)
   ·intro hn
    subst hn
    have q1 : dg a i = 0 := dg_beyond (by omega)
    have q2 : dg b i = 0 := dg_beyond (by omega)
    omega
   ·rw [val_snoc, hr, val_take_succ, val_take_succ, P_succ]
    have hs : dg a i + dg b i + c = (dg a i + dg b i + c) % 65536 + 65536 * ((dg a i + dg b i + c) / 65536) := by omega
    generalize (dg a i + dg b i + c) % 65536 = s0 at *
    generalize (dg a i + dg b i + c) / 65536 = s1 at *
    have hs2 : P i * (dg a i + dg b i + c) = P i * (s0 + 65536 * s1) := by rw [hs]
    rw [Int.mul_add, Int.mul_add, Int.mul_add, ← Int.mul_assoc] at hs2
    omega
  simp only [capstanref01_sum.l0]
  rw [mx_len]
  by_cases hlt : (i : Int) < ((max a.length b.length : Nat) : Int)
  ·rw [if_pos hlt]
   exact step
  ·rw [if_neg hlt]
   by_cases hc1 : c > 0
   ·rw [decide_eq_true hc1]
    exact step
   ·have hc' : c = 0 := by omega
    subst hc'
    have hi' : a.length ≤ i ∧ b.length ≤ i := by omega
    obtain ⟨s, s1, s2, s3, s4, s5⟩ := trim_f hd (by omega) k (by omega)
    rw [Int.mul_zero, Int.add_zero, val_take_all hi'.1, val_take_all hi'.2] at hv
    refine ⟨s, ?_, by omega, s3, s4, by omega⟩
    rw [decide_eq_false (by decide)]
    simp only [capstanref01_sum.j1]
    rw [if_neg (by decide), s1]
    rfl
theorem sum_f {a b : List Int} (ha : Dig a) (hb : Dig b) (hla : a.length < 17592186044415) (hlb : b.length < 17592186044415) (k : Nat) (hk : 3 * max a.length b.length + 22 ≤ k) :
  ∃ s, capstanref01_sum.f k a b = some s ∧ val s = val a + val b ∧ Dig s ∧ Nrm s ∧ s.length ≤ max a.length b.length + 1 :=
 sum_l0 ha hb hla hlb (max a.length b.length + 1) k 0 [] 0 (by omega) rfl Dig.nil (.inl rfl) (by omega) (by simp [val]) (by omega)

theorem order_l0 {a b : List Int} (ha : Dig a) (hb : Dig b) (hl : a.length = b.length) (hla : a.length < 17592186044415) : ∀ (n k : Nat), n ≤ a.length → n < k → val a - val b = val (a.take n) - val (b.take n) →
  ∃ r, capstanref01_order.l0 k a b ((n : Int) - 1) = some r ∧ (0 ≤ r ↔ val b ≤ val a) := by
 intro n
 induction n with
 | zero =>
  intro k hn hk hv
  obtain ⟨k, rfl⟩ : ∃ m, k = m + 1 := ⟨k - 1, by omega⟩
  refine ⟨0, ?_, ?_⟩
  ·simp only [capstanref01_order.l0]
   rw [if_neg (by omega)]
  ·simp [val] at hv
   omega
 | succ n ih =>
  intro k hn hk hv
  obtain ⟨k, rfl⟩ : ∃ m, k = m + 1 := ⟨k - 1, by omega⟩
  have e : ((n + 1 : Nat) : Int) - 1 = (n : Int) := by omega
  have e2 : wrap64 ((n : Int) - 1) = (n : Int) - 1 := w64s (by omega) (by omega)
  rw [val_take_succ, val_take_succ] at hv
  obtain ⟨x0, x1⟩ := val_range (ha.take n)
  obtain ⟨y0, y1⟩ := val_range (hb.take n)
  rw [List.length_take_of_le (by omega)] at x1 y1
  simp only [capstanref01_order.l0]
  rw [e, if_pos (by omega), if_pos (by omega), if_pos (by omega), if_pos (by omega), rd_dg, rd_dg]
  by_cases h1 : dg a n < dg b n
  ·rw [if_pos h1]
   refine ⟨-1, rfl, ?_⟩
   have : P n * (dg a n + 1) ≤ P n * dg b n := Int.mul_le_mul_of_nonneg_left (by omega) (Int.le_of_lt (P_pos n))
   rw [Int.mul_add, Int.mul_one] at this
   omega
  ·rw [if_neg h1]
   by_cases h2 : dg a n > dg b n
   ·rw [if_pos h2]
    refine ⟨1, rfl, ?_⟩
    have : P n * (dg b n + 1) ≤ P n * dg a n := Int.mul_le_mul_of_nonneg_left (by omega) (Int.le_of_lt (P_pos n))
    rw [Int.mul_add, Int.mul_one] at this
    omega
   ·rw [if_neg h2, e2]
    have h3 : dg a n = dg b n := by omega
    rw [h3] at hv
    exact ih k (by omega) (by omega) (by omega)
theorem order_f {a b : List Int} (ha : Dig a) (hb : Dig b) (na : Nrm a) (nb : Nrm b) (hla : a.length < 17592186044415) (hlb : b.length < 17592186044415) (k : Nat) (hk : a.length < k) :
  ∃ r, capstanref01_order.f k a b = some r ∧ (0 ≤ r ↔ val b ≤ val a) := by
 unfold capstanref01_order.f
 by_cases h : a.length = b.length
 ·rw [if_pos (by omega), w64s (by omega) (by omega)]
  exact order_l0 ha hb h hla a.length k (Nat.le_refl _) hk (by rw [List.take_length, h, List.take_length])
 ·rw [if_neg (by omega)]
  by_cases h2 : a.length < b.length
  ·rw [if_pos (by omega)]
   have := nrm_len ha hb nb h2
   exact ⟨-1, rfl, by omega⟩
  ·rw [if_neg (by omega)]
   have := nrm_len hb ha na (by omega)
   exact ⟨1, rfl, by omega⟩

theorem less_step {p u v x y r c s : Int} (hv : r - p * c = u - v) (hs : s = x - y - c + 65536) : r + p * s - p * 65536 * 1 = u + p * x - (v + p * y) := by
 subst hs
 rw [Int.mul_add, Int.mul_sub, Int.mul_sub]
 omega
theorem less_step0 {p u v x y r c s : Int} (hv : r - p * c = u - v) (hs : s = x - y - c) : r + p * s - p * 65536 * 0 = u + p * x - (v + p * y) := by
 subst hs
 rw [Int.mul_sub, Int.mul_sub]
 omega
theorem less_bnd {x y c : Int} (x0 : 0 ≤ x) (x1 : x < 65536) (y0 : 0 ≤ y) (y1 : y < 65536) (hc : c = 0 ∨ c = 1) : -65535 ≤ x - y ∧ x - y ≤ 65535 ∧ 0 ≤ x - y - c + 65536 ∧ x - y - c ≤ 65535 := by omega
theorem less_l0 {a b : List Int} (ha : Dig a) (hb : Dig b) (hla : a.length < 17592186044415) (hlb : b.length ≤ a.length) (hge : val b ≤ val a) (n : Nat) :
  ∀ (k i : Nat) (r : List Int) (c : Int), a.length = i + n → r.length = i → Dig r → (c = 0 ∨ c = 1) → val r - P i * c = val (a.take i) - val (b.take i) → n + a.length + 2 ≤ k →
   ∃ s, capstanref01_less.l0 k a b r c (i : Int) = some s ∧ val s = val a - val b ∧ Dig s ∧ Nrm s ∧ s.length ≤ a.length := by
 induction n with
 | zero =>
  intro k i r c hi hr hd hc hv hk
  obtain ⟨k, rfl⟩ : ∃ m, k = m + 1 := ⟨k - 1, by omega⟩
  obtain ⟨s, s1, s2, s3, s4, s5⟩ := trim_f hd (by omega) k (by omega)
  rw [val_take_all (by omega), val_take_all (by omega)] at hv
  have hR := (val_range hd).2
  rw [hr] at hR
  have hc0 : c = 0 := by
   rcases hc with h | h
   ·exact h
   ·subst h; omega
  subst hc0
  refine ⟨s, ?_, by omega, s3, s4, by omega⟩
  simp only [capstanref01_less.l0]
  rw [if_neg (by omega), s1]
  rfl
 | succ n ih =>
  intro k i r c hi hr hd hc hv hk
  obtain ⟨k, rfl⟩ : ∃ m, k = m + 1 := ⟨k - 1, by clear hv; omega⟩
  have g0 : (i : Int) < (a.length : Int) := by clear hv hge; omega
  have g1 : 0 ≤ (i : Int) := Int.natCast_nonneg i
  have g2 : r.length < 17592186044416 := by clear hv hge; omega
  have g3 : a.length = i + 1 + n := by clear hv hge; omega
  have g4 : n + a.length + 2 ≤ k := by clear hv hge; omega
  have e3 : wrap64 ((i : Int) + 1) = ((i + 1 : Nat) : Int) := by rw [w64s (by clear hv hge; omega) (by clear hv hge; omega)]; rfl
  obtain ⟨x0, x1⟩ := ha.dg i
  obtain ⟨y0, y1⟩ := hb.dg i
  obtain ⟨b0, b1, b2, b3⟩ := less_bnd x0 x1 y0 y1 hc
  have v1 := val_take_succ a i
  have v2 := val_take_succ b i
  simp only [capstanref01_less.l0]
  rw [if_pos g0, if_pos g1, at_f]
  simp only [Option.bind_some]
  rw [rd_dg, w64s (x := dg a i - dg b i) (by clear hv hge v1 v2; omega) (by clear hv hge v1 v2; omega), w64s (x := dg a i - dg b i - c) (by clear hv hge v1 v2; omega) (by clear hv hge v1 v2; omega), w64s (x := dg a i - dg b i - c + 65536) (by clear hv hge v1 v2; omega) (by clear hv hge v1 v2; omega), e3]
  by_cases hneg : dg a i - dg b i - c < 0
  ·rw [if_pos hneg, if_pos g2]
   refine ih k (i + 1) _ _ g3 (by simp [hr]) (hd.snoc b2 (by clear hv hge v1 v2 ih; omega)) (.inr rfl) ?_ g4
   rw [val_snoc, hr, v1, v2, P_succ]
   exact less_step hv rfl
  ·rw [if_neg hneg, if_pos g2]
   refine ih k (i + 1) _ _ g3 (by simp [hr]) (hd.snoc (by clear hv hge v1 v2 ih; omega) (by clear hv hge v1 v2 ih; omega)) (.inl rfl) ?_ g4
   rw [val_snoc, hr, v1, v2, P_succ]
   exact less_step0 hv rfl
theorem less_f {a b : List Int} (ha : Dig a) (hb : Dig b) (hla : a.length < 17592186044415) (hlb : b.length ≤ a.length) (hge : val b ≤ val a) (k : Nat) (hk : 2 * a.length + 2 ≤ k) :
  ∃ s, capstanref01_less.f k a b = some s ∧ val s = val a - val b ∧ Dig s ∧ Nrm s ∧ s.length ≤ a.length :=
 less_l0 ha hb hla hlb hge a.length k 0 [] 0 (by omega) rfl Dig.nil (.inl rfl) (by simp [val]) (by omega)
theorem nrm_le {a b : List Int} (ha : Dig a) (hb : Dig b) (na : Nrm a) (h : val a ≤ val b) : a.length ≤ b.length := by
 by_cases hl : a.length ≤ b.length
 ·exact hl
 ·have := nrm_len hb ha na (by omega); omega

theorem plus_f {a b : List Int} {s t : Bool} (ha : Dig a) (hb : Dig b) (na : Nrm a) (nb : Nrm b) (hla : a.length < 17592186044415) (hlb : b.length < 17592186044415) (k : Nat) (hk : 3 * max a.length b.length + 22 ≤ k) :
  ∃ u d, capstanref01_Plus.f k s a t b = some (u, d) ∧ sval u d = sval s a + sval t b ∧ Dig d ∧ Nrm d ∧ d.length ≤ max a.length b.length + 1 := by
 unfold capstanref01_Plus.f
 by_cases hst : s = t
 ·subst hst
  obtain ⟨d, d1, d2, d3, d4, d5⟩ := sum_f ha hb hla hlb k hk
  refine ⟨s, d, ?_, ?_, d3, d4, d5⟩
  ·rw [if_pos (by simp), d1]; rfl
  ·unfold sval; rw [d2]; split <;> omega
 ·rw [if_neg (by simpa using hst)]
  obtain ⟨r, r1, r2⟩ := order_f ha hb na nb hla hlb k (by omega)
  rw [r1]
  simp only [Option.bind_some]
  have hts : t = !s := by cases s <;> cases t <;> simp_all
  by_cases hr : r ≥ 0
  ·rw [if_pos hr]
   have hle := r2.1 hr
   obtain ⟨d, d1, d2, d3, d4, d5⟩ := less_f ha hb hla (nrm_le hb ha nb hle) hle k (by omega)
   refine ⟨s, d, ?_, ?_, d3, d4, by omega⟩
   ·rw [d1]; rfl
   ·unfold sval; rw [d2, hts]; cases s <;> simp <;> omega
  ·rw [if_neg hr]
   have hle : val a ≤ val b := by
    by_cases h : val b ≤ val a
    ·exact absurd (r2.2 h) (by omega)
    ·omega
   obtain ⟨d, d1, d2, d3, d4, d5⟩ := less_f hb ha hlb (nrm_le ha hb na hle) hle k (by omega)
   refine ⟨t, d, ?_, ?_, d3, d4, by omega⟩
   ·rw [d1]; rfl
   ·unfold sval; rw [d2, hts]; cases s <;> simp <;> omega
end Go.Proofs.YtpljkcakijkklaaGreatDoor.Big

end
section
namespace Go.Proofs.YtpljkcakijkklaaGreatDoor.Big
set_option linter.unusedVariables false
set_option linter.unusedSimpArgs false
open Go.RowKit Go.Proofs.YtpljkcakijkklaaGreatDoor Go.Proofs.YtpljkcakijkklaaGreatDoor.XRef01 Go.Proofs.YtpljkcakijkklaaGreatDoorW.PrintWords Go.Proofs.YtpljkcakijkklaaGreatDoorW.PrintLast Go.Proofs.YtpljkcakijkklaaGreatDoorW.PrintMore

theorem P4 : P 4 = 18446744073709551616 := by decide

theorem of_l0 (s : Bool) (U : Int) (n : Nat) : ∀ (k : Nat) (u : Int) (r : List Int), 0 ≤ u → u < P n → U < 18446744073709551616 → u ≤ U → r.length + n = 4 → Dig r → val r + P r.length * u = U → (u = 0 → Nrm r) → n + 1 ≤ k →
  ∃ d, capstanref01_Of.l0 k s u r = some (s, d) ∧ val d = U ∧ Dig d ∧ Nrm d ∧ d.length ≤ 4 := by
 induction n with
 | zero =>
  intro k u r h0 h1 hU hu hr hd hv hn hk
  obtain ⟨k, rfl⟩ : ∃ m, k = m + 1 := ⟨k - 1, by omega⟩
  have hz : u = 0 := by rw [P_zero] at h1; omega
  subst hz
  refine ⟨r, ?_, by rw [← hv]; simp, hd, hn rfl, by omega⟩
  simp only [capstanref01_Of.l0]
  rw [if_neg (by omega)]
 | succ n ih =>
  intro k u r h0 h1 hU hu hr hd hv hn hk
  obtain ⟨k, rfl⟩ : ∃ m, k = m + 1 := ⟨k - 1, by omega⟩
  by_cases hz : u > 0
  ·simp only [capstanref01_Of.l0]
   rw [if_pos hz, if_pos (by omega), Int.tdiv_eq_ediv_of_nonneg h0, Int.tmod_eq_emod_of_nonneg h0, wu_in (x := u / 65536) (by omega) (by omega), w64s (x := u % 65536) (by omega) (by omega)]
   refine ih k (u / 65536) (r ++ [u % 65536]) (by omega) ?_ hU (by omega) (by simp; omega) (hd.snoc (by omega) (by omega)) ?_ ?_ (by omega)
   ·rw [P_succ] at h1; omega
   ·rw [val_snoc, List.length_append, List.length_singleton, P_succ, ← hv]
    have e : u = u % 65536 + 65536 * (u / 65536) := by omega
    have e2 : P r.length * u = P r.length * (u % 65536 + 65536 * (u / 65536)) := by rw [← e]
    rw [e2, Int.mul_add, Int.mul_assoc]
    omega
   ·intro hq
    refine .inr ?_
    have : dg (r ++ [u % 65536]) ((r ++ [u % 65536]).length - 1) = u % 65536 := by
     unfold dg
     rw [List.length_append, List.length_singleton, Nat.add_sub_cancel, List.getD_eq_getElem?_getD, List.getElem?_append_right (Nat.le_refl _), Nat.sub_self]
     rfl
    rw [this]
    omega
  ·have hz' : u = 0 := by omega
   subst hz'
   refine ⟨r, ?_, by rw [← hv]; simp, hd, hn rfl, by omega⟩
   simp only [capstanref01_Of.l0]
   rw [if_neg (by omega)]
theorem of_f {v : Int} (h : R64 v) (k : Nat) (hk : 7 ≤ k) : ∃ s d, capstanref01_Of.f k v = some (s, d) ∧ s = decide (v < 0) ∧ sval s d = v ∧ Dig d ∧ Nrm d ∧ d.length ≤ 4 ∧ val d ≤ 9223372036854775808 := by
 obtain ⟨h0, h1⟩ := h
 obtain ⟨k, rfl⟩ : ∃ m, k = m + 1 := ⟨k - 1, by omega⟩
 unfold capstanref01_Of.f
 by_cases hn : v < 0
 ·have e : IntKind.u64.wrap (-(IntKind.u64.wrap v)) = -v := by simp only [wu]; omega
  obtain ⟨d, d1, d2, d3, d4, d5⟩ := of_l0 (decide (v < 0)) (-v) 4 k (-v) [] (by omega) (by rw [P4]; omega) (by omega) (Int.le_refl _) rfl Dig.nil (by simp [val, P_zero]) (fun _ => .inl rfl) (by omega)
  refine ⟨decide (v < 0), d, ?_, rfl, ?_, d3, d4, d5, by omega⟩
  ·rw [if_pos hn, e]
   simp only [capstanref01_Of.j0]
   exact d1
  ·unfold sval
   rw [decide_eq_true hn, if_pos rfl, d2]
   omega
 ·have e : IntKind.u64.wrap v = v := by simp only [wu]; omega
  obtain ⟨d, d1, d2, d3, d4, d5⟩ := of_l0 (decide (v < 0)) v 4 k v [] (by omega) (by rw [P4]; omega) (by omega) (Int.le_refl _) rfl Dig.nil (by simp [val, P_zero]) (fun _ => .inl rfl) (by omega)
  refine ⟨decide (v < 0), d, ?_, rfl, ?_, d3, d4, d5, by omega⟩
  ·rw [if_neg hn, e]
   simp only [capstanref01_Of.j0]
   exact d1
  ·unfold sval
   rw [decide_eq_false hn, if_neg (by decide), d2]

theorem and_most {u : Int} (h0 : 0 ≤ u) (h1 : u < 18446744073709551616) : Go.bits .and .u64 u 9223372036854775807 = u % 9223372036854775808 := by
 obtain ⟨u, rfl⟩ := Int.eq_ofNat_of_zero_le h0
 have h := bits_and_u64_nat u 9223372036854775807 (by omega) (by decide)
 have e : u &&& 9223372036854775807 = u % 9223372036854775808 := Nat.and_two_pow_sub_one_eq_mod u 63
 rw [e] at h
 refine h.trans ?_
 omega

theorem fit_l0 {s : Bool} {d : List Int} (hd : Dig d) (hl : d.length ≤ 4) (hpos : 0 < val d) : ∀ (n k : Nat), n ≤ d.length → n < k →
  ∃ v, capstanref01_Fit.l0 k (val (d.drop n)) ((n : Int) - 1) s d = some (v, inR (sval s d)) ∧ (inR (sval s d) = true → v = sval s d) ∧ R64 v := by
 have hV : val d < 18446744073709551616 := by
  have h1 := (val_range hd).2
  have h2 := P_mono hl
  rw [P4] at h2
  omega
 intro n
 induction n with
 | zero =>
  intro k hn hk
  obtain ⟨k, rfl⟩ : ∃ m, k = m + 1 := ⟨k - 1, by omega⟩
  simp only [capstanref01_Fit.l0]
  rw [if_neg (by omega), List.drop_zero]
  cases s with
  | true =>
   rw [if_pos rfl]
   have es : sval true d = -val d := rfl
   rw [es]
   by_cases hb : val d > 9223372036854775808
   ·rw [if_pos hb]
    have hin : inR (-val d) = false := by unfold inR; rw [decide_eq_false_iff_not]; omega
    rw [hin]
    exact ⟨0, rfl, (fun h => by cases h), by decide⟩
   ·rw [if_neg hb]
    have hin : inR (-val d) = true := by rw [inR_iff]; omega
    rw [hin, wu_in (x := val d - 1) (by omega) (by omega), w64s (x := val d - 1) (by omega) (by omega), w64s (x := -(val d - 1)) (by omega) (by omega), w64s (by omega) (by omega)]
    exact ⟨_, rfl, fun _ => by omega, by omega, by omega⟩
  | false =>
   rw [if_neg (by decide), and_most (by omega) hV]
   have es : sval false d = val d := rfl
   rw [es]
   have hin : inR (val d) = decide (val d ≤ 9223372036854775807) := by unfold inR; rw [decide_eq_decide]; omega
   rw [hin, w64s (by omega) (by omega)]
   refine ⟨_, rfl, fun h => ?_, by omega, by omega⟩
   rw [decide_eq_true_eq] at h
   omega
 | succ n ih =>
  intro k hn hk
  obtain ⟨k, rfl⟩ : ∃ m, k = m + 1 := ⟨k - 1, by omega⟩
  have e : ((n + 1 : Nat) : Int) - 1 = (n : Int) := by omega
  have hdr : val (d.drop n) = dg d n + 65536 * val (d.drop (n + 1)) := val_drop d n
  have hdd : Dig (d.drop n) := fun x hx => hd x (List.mem_of_mem_drop hx)
  have hdd1 : Dig (d.drop (n + 1)) := fun x hx => hd x (List.mem_of_mem_drop hx)
  obtain ⟨r0, r1⟩ := val_range hdd
  obtain ⟨q0, q1⟩ := val_range hdd1
  have hb : val (d.drop n) < 18446744073709551616 := by
   have h2 := P_mono (show (d.drop n).length ≤ 4 by rw [List.length_drop]; omega)
   rw [P4] at h2
   omega
  obtain ⟨x0, x1⟩ := hd.dg n
  simp only [capstanref01_Fit.l0]
  rw [e, if_pos (by omega), if_pos (by omega), if_pos (by omega), rd_dg, wu_in (x := val (d.drop (n + 1)) * 65536) (by omega) (by omega), wu_in (x := dg d n) (by omega) (by omega), wu_in (by omega) (by omega), w64s (x := (n : Int) - 1) (by omega) (by omega)]
  have e2 : val (d.drop (n + 1)) * 65536 + dg d n = val (d.drop n) := by omega
  rw [e2]
  exact ih k (by omega) (by omega)
theorem fit_f {s : Bool} {d : List Int} (hd : Dig d) (hn : Nrm d) (hl : d.length < 17592186044416) (k : Nat) (hk : 6 ≤ k) :
  ∃ v, capstanref01_Fit.f k s d = some (v, inR (sval s d)) ∧ (inR (sval s d) = true → v = sval s d) ∧ R64 v := by
 unfold capstanref01_Fit.f
 by_cases h0 : d.length = 0
 ·have : d = [] := List.length_eq_zero_iff.1 h0
  subst this
  have e : sval s [] = 0 := by cases s <;> rfl
  rw [if_pos (show (([] : List Int).length : Int) = 0 from rfl), e]
  exact ⟨0, rfl, fun _ => rfl, by decide⟩
 ·rw [if_neg (by omega)]
  have hge := nrm_ge hd hn (by omega)
  have hp := P_pos (d.length - 1)
  by_cases h4 : d.length > 4
  ·rw [if_pos (by omega)]
   have h2 := P_mono (show 4 ≤ d.length - 1 by omega)
   rw [P4] at h2
   have hin : inR (sval s d) = false := by
    unfold inR sval
    rw [decide_eq_false_iff_not]
    split <;> omega
   rw [hin]
   exact ⟨0, rfl, (fun h => by cases h), by decide⟩
  ·rw [if_neg (by omega), w64s (by omega) (by omega)]
   have := fit_l0 (s := s) hd (by omega) (by omega) d.length k (Nat.le_refl _) (by omega)
   rw [List.drop_length] at this
   exact this
theorem held_f {s : Bool} {d : List Int} (hd : Dig d) (hn : Nrm d) (hl : d.length < 17592186044416) (k : Nat) (hk : 6 ≤ k) : capstanref01_Held.f k s d = some (heldI (sval s d)) := by
 obtain ⟨v, h1, h2, _⟩ := fit_f (s := s) hd hn hl k hk
 unfold capstanref01_Held.f
 rw [h1]
 simp only [Option.bind_some]
 cases hr : inR (sval s d) with
 | true => rw [if_pos rfl, heldI_in hr, h2 hr]
 | false =>
  have hno : ¬ (-9223372036854775808 ≤ sval s d ∧ sval s d < 9223372036854775808) := by rw [← inR_iff, hr]; decide
  have hv := (val_range hd).1
  rw [if_neg (by decide)]
  unfold heldI
  cases s with
  | true =>
   have es : sval true d = -val d := rfl
   rw [es] at hno ⊢
   rw [if_pos rfl, if_pos (by omega)]
  | false =>
   have es : sval false d = val d := rfl
   rw [es] at hno ⊢
   rw [if_neg (by decide), if_neg (by omega), if_pos (by omega)]

theorem minus_f (s : Bool) (d : List Int) : capstanref01_Minus.f s d = some (!s, d) := rfl
theorem sval_not (s : Bool) (d : List Int) : sval (!s) d = -sval s d := by cases s <;> simp [sval]

theorem add_ref {a b : Int} (ha : R64 a) (hb : R64 b) : capstanref01_Add.f 40 a b = some (heldI (a + b)) := by
 obtain ⟨s, d, d1, _, d2, d3, d4, d5, _⟩ := of_f ha 40 (by decide)
 obtain ⟨t, e, e1, _, e2, e3, e4, e5, _⟩ := of_f hb 40 (by decide)
 obtain ⟨u, f, f1, f2, f3, f4, f5⟩ := plus_f (s := s) (t := t) d3 e3 d4 e4 (by omega) (by omega) 40 (by omega)
 unfold capstanref01_Add.f
 rw [d1]; simp only [Option.bind_some]
 rw [e1]; simp only [Option.bind_some]
 rw [f1]; simp only [Option.bind_some]
 rw [held_f f3 f4 (by omega) 40 (by decide), f2, d2, e2]; rfl
theorem sub_ref {a b : Int} (ha : R64 a) (hb : R64 b) : capstanref01_Sub.f 40 a b = some (heldI (a + -b)) := by
 obtain ⟨s, d, d1, _, d2, d3, d4, d5, _⟩ := of_f ha 40 (by decide)
 obtain ⟨t, e, e1, _, e2, e3, e4, e5, _⟩ := of_f hb 40 (by decide)
 obtain ⟨u, f, f1, f2, f3, f4, f5⟩ := plus_f (s := s) (t := !t) d3 e3 d4 e4 (by omega) (by omega) 40 (by omega)
 unfold capstanref01_Sub.f
 rw [d1]; simp only [Option.bind_some]
 rw [e1]; simp only [Option.bind_some]
 rw [minus_f]; simp only [Option.bind_some]
 rw [f1]; simp only [Option.bind_some]
 rw [held_f f3 f4 (by omega) 40 (by decide), f2, d2, sval_not, e2]; rfl
theorem neg_ref {a : Int} (ha : R64 a) : capstanref01_Neg.f 40 a = some (heldI (-a)) := by
 obtain ⟨s, d, d1, _, d2, d3, d4, d5, _⟩ := of_f ha 40 (by decide)
 unfold capstanref01_Neg.f
 rw [d1]; simp only [Option.bind_some]
 rw [minus_f]; simp only [Option.bind_some]
 rw [held_f d3 d4 (by omega) 40 (by decide), sval_not, d2]; rfl
theorem abs_ref {a : Int} (ha : R64 a) : capstanref01_Abs.f 40 a = some (heldI (if a < 0 then -a else a)) := by
 obtain ⟨s, d, d1, ds, d2, d3, d4, d5, _⟩ := of_f ha 40 (by decide)
 unfold capstanref01_Abs.f
 rw [d1]; simp only [Option.bind_some]
 rw [held_f d3 d4 (by omega) 40 (by decide)]
 have e : sval false d = if a < 0 then -a else a := by
  have e1 : sval false d = val d := rfl
  rw [e1]
  subst ds
  unfold sval at d2
  by_cases h : a < 0
  ·rw [decide_eq_true h, if_pos rfl] at d2
   rw [if_pos h]; omega
  ·rw [decide_eq_false h, if_neg (by decide)] at d2
   rw [if_neg h]; omega
 rw [e]; rfl
end Go.Proofs.YtpljkcakijkklaaGreatDoor.Big

end
section
namespace Go.Proofs.YtpljkcakijkklaaGreatDoor.Big
set_option linter.unusedVariables false
set_option linter.unusedSimpArgs false
open Go.RowKit Go.Proofs.YtpljkcakijkklaaGreatDoor Go.Proofs.YtpljkcakijkklaaGreatDoor.XRef01 Go.Proofs.YtpljkcakijkklaaGreatDoorW.PrintWords Go.Proofs.YtpljkcakijkklaaGreatDoorW.PrintLast Go.Proofs.YtpljkcakijkklaaGreatDoorW.PrintMore

theorem prod_le {x y : Int} (x0 : 0 ≤ x) (x1 : x < 65536) (y0 : 0 ≤ y) (y1 : y < 65536) : 0 ≤ x * y ∧ x * y ≤ 4294836225 :=
 ⟨Int.mul_nonneg x0 y0, Int.le_trans (Int.mul_le_mul (show x ≤ 65535 by omega) (show y ≤ 65535 by omega) y0 (by decide)) (by decide)⟩

theorem mid_step {V p q c s0 s1 u t z x y : Int} (hv : V + p * q * c = u + p * (x * t)) (hs : z + x * y + c = s0 + 65536 * s1) : V + p * q * (s0 - z) + p * (q * 65536) * s1 = u + p * (x * (t + q * y)) := by
 have e : p * q * (z + x * y + c) = p * q * (s0 + 65536 * s1) := by rw [hs]
 have a1 : p * q * (z + x * y + c) = p * q * z + p * q * (x * y) + p * q * c := by rw [Int.mul_add, Int.mul_add]
 have a2 : p * q * (s0 + 65536 * s1) = p * q * s0 + p * (q * 65536) * s1 := by rw [Int.mul_add]; congr 1; rw [← Int.mul_assoc, Int.mul_assoc p q 65536]
 have a3 : p * q * (s0 - z) = p * q * s0 - p * q * z := Int.mul_sub ..
 have a4 : p * (x * (t + q * y)) = p * (x * t) + p * q * (x * y) := by
  rw [Int.mul_add, Int.mul_add]; congr 1
  rw [← Int.mul_assoc x q y, Int.mul_comm x q, Int.mul_assoc q x y, ← Int.mul_assoc p q]
 rw [a3, a4]
 rw [a1, a2] at e
 generalize p * q * z = m1 at *
 generalize p * q * (x * y) = m2 at *
 generalize p * q * c = m3 at *
 generalize p * q * s0 = m4 at *
 generalize p * (q * 65536) * s1 = m5 at *
 generalize p * (x * t) = m6 at *
 omega
theorem end_step {V p q c u x t w : Int} (hv : V + p * q * c = u + p * (x * t)) (hu : u = w * t) : V + p * q * (c - 0) = (w + p * x) * t := by
 rw [Int.sub_zero, hv, hu, Int.add_mul, Int.mul_assoc]

theorem digit_facts {z m c : Int} (z0 : 0 ≤ z) (z1 : z < 65536) (p0 : 0 ≤ m) (p1 : m ≤ 4294836225) (c0 : 0 ≤ c) (c1 : c < 65536) :
  wrap64 m = m ∧ wrap64 (z + m) = z + m ∧ wrap64 (z + m + c) = z + m + c ∧ wrap64 ((z + m + c) / 65536) = (z + m + c) / 65536 ∧ z + m + c = (z + m + c) % 65536 + 65536 * ((z + m + c) / 65536) ∧ 0 ≤ z + m + c ∧
   0 ≤ (z + m + c) % 65536 ∧ (z + m + c) % 65536 < 65536 ∧ 0 ≤ (z + m + c) / 65536 ∧ (z + m + c) / 65536 < 65536 := by
 have e0 : 0 ≤ z + m + c := by omega
 have e1 : z + m + c ≤ 4294967295 := by omega
 have q0 : 0 ≤ (z + m + c) / 65536 := by omega
 have q1 : (z + m + c) / 65536 < 65536 := by omega
 exact ⟨w64s (by omega) (by omega), w64s (by omega) (by omega), w64s (by omega) (by omega), w64s (by omega) (by omega), by omega, e0, by omega, by omega, q0, q1⟩

theorem times_l1 {a b : List Int} {s t : Bool} (ha : Dig a) (hb : Dig b) (hla : a.length < 1000) (hlb : b.length < 1000) (i : Nat) (hi : i < a.length) (n : Nat) :
  ∀ (k j : Nat) (d : List Int) (c : Int), b.length = j + n → d.length = a.length + b.length → Dig d → 0 ≤ c → c < 65536 → (∀ q, i + b.length ≤ q → dg d q = 0) → val d + P i * P j * c = val (a.take i) * val b + P i * (dg a i * val (b.take j)) → n + 1 ≤ k →
   ∃ d', capstanref01_Times.l1 k d i c j s a t b = capstanref01_Times.l0 (k - n - 1) d' ((i + 1 : Nat) : Int) s a t b ∧ d'.length = a.length + b.length ∧ Dig d' ∧ (∀ q, i + 1 + b.length ≤ q → dg d' q = 0) ∧ val d' = val (a.take (i + 1)) * val b := by
 induction n with
 | zero =>
  intro k j d c hj hl hd c0 c1 hz hv hk
  obtain ⟨k, rfl⟩ : ∃ m, k = m + 1 := ⟨k - 1, by omega⟩
  have hj' : j = b.length := by clear hv hz; omega
  subst hj'
  have e : wrap64 ((i : Int) + (b.length : Int)) = ((i + b.length : Nat) : Int) := by clear hv hz; rw [w64s (by omega) (by omega)]; omega
  have e2 : wrap64 ((i : Int) + 1) = ((i + 1 : Nat) : Int) := by clear hv hz; rw [w64s (by omega) (by omega)]; omega
  have g1 : ¬ ((b.length : Int) < (b.length : Int)) := Int.lt_irrefl _
  have g2 : 0 ≤ ((i + b.length : Nat) : Int) := Int.natCast_nonneg _
  have g3 : ((i + b.length : Nat) : Int) < (d.length : Int) := by clear hv hz; omega
  have g4 : i + b.length < d.length := by clear hv hz; omega
  refine ⟨d.set (i + b.length) c, ?_, by rw [List.length_set, hl], hd.set c0 c1, ?_, ?_⟩
  ·simp only [capstanref01_Times.l1]
   rw [if_neg g1, e, if_pos g2, if_pos g3, e2, Int.toNat_natCast]
   rfl
  ·intro q hq
   have g5 : ¬ (i + b.length = q) := by clear hv hz; omega
   rw [dg_set g4, if_neg g5]
   exact hz q (by clear hv hz; omega)
  ·rw [val_set c g4, hz _ (Nat.le_refl _), val_take_succ]
   rw [List.take_length] at hv
   rw [P_add]
   exact end_step hv rfl
 | succ n ih =>
  intro k j d c hj hl hd c0 c1 hz hv hk
  obtain ⟨k, rfl⟩ : ∃ m, k = m + 1 := ⟨k - 1, by omega⟩
  have e : wrap64 ((i : Int) + (j : Int)) = ((i + j : Nat) : Int) := by rw [w64s (by omega) (by omega)]; omega
  have e2 : wrap64 ((j : Int) + 1) = ((j + 1 : Nat) : Int) := by rw [w64s (by omega) (by omega)]; omega
  obtain ⟨x0, x1⟩ := ha.dg i
  obtain ⟨y0, y1⟩ := hb.dg j
  obtain ⟨z0, z1⟩ := hd.dg (i + j)
  obtain ⟨p0, p1⟩ := prod_le x0 x1 y0 y1
  have g1 : (j : Int) < (b.length : Int) := by clear hv; omega
  have g2 : 0 ≤ ((i + j : Nat) : Int) := by clear hv; omega
  have g3 : ((i + j : Nat) : Int) < (d.length : Int) := by clear hv; omega
  have g4 : (i : Int) < (a.length : Int) := by clear hv; omega
  have g5 : i + j < d.length := by clear hv; omega
  have g6 : ∀ q, i + b.length ≤ q → ¬ (i + j = q) := fun q hq => by clear hv; omega
  have g7 : n + 1 ≤ k := by clear hv; omega
  have g8 : b.length = j + 1 + n := by clear hv; omega
  have g9 : k + 1 - (n + 1) - 1 = k - n - 1 := by clear hv; omega
  obtain ⟨w1, w2, w3, w4, hs, h0, s0, s1, s2, s3⟩ := digit_facts z0 z1 p0 p1 c0 c1
  have hn : val (d.set (i + j) ((dg d (i + j) + dg a i * dg b j + c) % 65536)) + P i * P (j + 1) * ((dg d (i + j) + dg a i * dg b j + c) / 65536) = val (a.take i) * val b + P i * (dg a i * val (b.take (j + 1))) := by
   rw [val_set _ g5, P_add, P_succ, val_take_succ]
   exact mid_step hv hs
  obtain ⟨d', f1, f2⟩ := ih k (j + 1) (d.set (i + j) ((dg d (i + j) + dg a i * dg b j + c) % 65536)) ((dg d (i + j) + dg a i * dg b j + c) / 65536) g8 (by rw [List.length_set, hl]) (hd.set s0 s1) s2 s3
   (fun q hq => by rw [dg_set g5, if_neg (g6 q hq)]; exact hz q hq) hn g7
  refine ⟨d', ?_, f2⟩
  rw [g9, ← f1]
  simp only [capstanref01_Times.l1]
  rw [if_pos g1, e, if_pos g2, if_pos g3, if_pos (Int.natCast_nonneg i), if_pos g4, if_pos (Int.natCast_nonneg j), rd_dg, rd_dg, rd_dg, w1, w2, w3, Int.tmod_eq_emod_of_nonneg h0, Int.tdiv_eq_ediv_of_nonneg h0, w4, e2, Int.toNat_natCast]

theorem times_l0 {a b : List Int} {s t : Bool} (ha : Dig a) (hb : Dig b) (hla : a.length < 1000) (hlb : b.length < 1000) (n : Nat) :
  ∀ (k i : Nat) (d : List Int), a.length = i + n → d.length = a.length + b.length → Dig d → (∀ q, i + b.length ≤ q → dg d q = 0) → val d = val (a.take i) * val b → n * (b.length + 2) + a.length + b.length + 2 ≤ k →
   ∃ r, capstanref01_Times.l0 k d i s a t b = some (s != t, r) ∧ val r = val a * val b ∧ Dig r ∧ Nrm r ∧ r.length ≤ a.length + b.length := by
 induction n with
 | zero =>
  intro k i d hi hl hd hz hv hk
  obtain ⟨k, rfl⟩ : ∃ m, k = m + 1 := ⟨k - 1, by omega⟩
  obtain ⟨r, r1, r2, r3, r4, r5⟩ := trim_f hd (by omega) k (by omega)
  refine ⟨r, ?_, ?_, r3, r4, by omega⟩
  ·simp only [capstanref01_Times.l0]
   rw [if_neg (by omega), r1]
   rfl
  ·rw [r2, hv, val_take_all (by omega)]
 | succ n ih =>
  intro k i d hi hl hd hz hv hk
  obtain ⟨k, rfl⟩ : ∃ m, k = m + 1 := ⟨k - 1, by omega⟩
  have hm : (n + 1) * (b.length + 2) = n * (b.length + 2) + (b.length + 2) := Nat.succ_mul ..
  have g4 : (i : Int) < (a.length : Int) := by clear hv; omega
  obtain ⟨d', e1, e2, e3, e4, e5⟩ := times_l1 (s := s) (t := t) ha hb hla hlb i (by clear hv; omega) b.length k 0 d 0 (by omega) hl hd (by decide) (by decide) hz (by rw [hv]; simp [val, P_zero]) (by clear hv; omega)
  obtain ⟨r, r1, r2⟩ := ih (k - b.length - 1) (i + 1) d' (by clear hv; omega) e2 e3 e4 e5 (by clear hv; omega)
  refine ⟨r, ?_, r2⟩
  simp only [capstanref01_Times.l0]
  rw [if_pos g4]
  exact e1.trans r1
theorem times_f {a b : List Int} {s t : Bool} (ha : Dig a) (hb : Dig b) (hla : a.length ≤ 8) (hlb : b.length ≤ 8) (k : Nat) (hk : 200 ≤ k) :
  ∃ r, capstanref01_Times.f k s a t b = some (s != t, r) ∧ val r = val a * val b ∧ Dig r ∧ Nrm r ∧ r.length ≤ a.length + b.length := by
 have e : wrap64 ((a.length : Int) + (b.length : Int)) = ((a.length + b.length : Nat) : Int) := by rw [w64s (by omega) (by omega)]; omega
 have hm : a.length * (b.length + 2) ≤ 8 * 10 := Nat.mul_le_mul hla (by omega)
 unfold capstanref01_Times.f
 rw [e, if_pos (by omega), Int.toNat_natCast, if_pos (by omega)]
 exact times_l0 ha hb (by omega) (by omega) a.length k 0 _ (by omega) (by simp) (Dig.zeros _) (fun q _ => dg_zeros _ _) (by rw [val_zeros]; simp [val]) (by omega)
theorem sval_times {s t : Bool} {a b r : List Int} (h : val r = val a * val b) : sval (s != t) r = sval s a * sval t b := by
 cases s <;> cases t <;> simp [sval, h, Int.neg_mul, Int.mul_neg]
end Go.Proofs.YtpljkcakijkklaaGreatDoor.Big

end
section
namespace Go.Proofs.YtpljkcakijkklaaGreatDoor.Big
set_option linter.unusedVariables false
set_option linter.unusedSimpArgs false
open Go.RowKit Go.Proofs.YtpljkcakijkklaaGreatDoor Go.Proofs.YtpljkcakijkklaaGreatDoor.XRef01 Go.Proofs.YtpljkcakijkklaaGreatDoorW.PrintWords Go.Proofs.YtpljkcakijkklaaGreatDoorW.PrintLast Go.Proofs.YtpljkcakijkklaaGreatDoorW.PrintMore

theorem quot_lt {r0 p c den y rest : Int} (h : r0 * p + c = den * y + rest) (hr : r0 < den) (hc : c < p) (h0 : 0 ≤ rest) (hp : 0 < p) (hd : 0 < den) : y < p := by
 by_cases hy : y < p
 ·exact hy
 ·have h1 : den * p ≤ den * y := Int.mul_le_mul_of_nonneg_left (by omega) (by omega)
  have h2 : (r0 + 1) * p ≤ den * p := Int.mul_le_mul_of_nonneg_right (by omega) (by omega)
  rw [Int.add_mul] at h2
  generalize r0 * p = m1 at *
  generalize den * p = m2 at *
  generalize den * y = m3 at *
  omega
theorem bit_step0 {r0 p c den y rest b : Int} (h : r0 * p + c = den * y + rest) : r0 * (2 * p) + (2 * c + b) = den * (2 * y) + (2 * rest + b) := by
 rw [show r0 * (2 * p) = 2 * (r0 * p) from Int.mul_left_comm .., show den * (2 * y) = 2 * (den * y) from Int.mul_left_comm ..]
 generalize r0 * p = m1 at *
 generalize den * y = m3 at *
 omega
theorem bit_step1 {r0 p c den y rest b : Int} (h : r0 * p + c = den * y + rest) : r0 * (2 * p) + (2 * c + b) = den * (2 * y + 1) + (2 * rest + b - den) := by
 rw [bit_step0 (b := b) h, Int.mul_add]
 omega
theorem half_div {d q : Int} (h : 0 ≤ d) (hq : 0 < q) : d / q = 2 * (d / (q * 2)) + d / q % 2 := by
 have : d / (q * 2) = d / q / 2 := (Int.ediv_ediv_of_nonneg (Int.le_of_lt hq)).symm
 rw [this]
 have := Int.mul_ediv_add_emod (d / q) 2
 omega
theorem u64w {x : Int} (h0 : 0 ≤ x) (h1 : x < 18446744073709551616) : IntKind.u64.wrap x = x := wu_in h0 h1
theorem shr_of {x : Int} {m : Nat} (hm : m ≤ 16) : shr .i64 x (IntKind.u64.wrap (m : Int)) = x / 2 ^ m := by
 rw [u64w (by omega) (by omega)]
 unfold shr
 have : min (m : Int).toNat IntKind.i64.bits = m := by
  have : IntKind.i64.bits = 64 := rfl
  omega
 rw [this]
theorem two_pow_pos (m : Nat) : (0 : Int) < 2 ^ m := Int.pow_pos (by decide)
theorem two_pow_ge (m : Nat) : (1 : Int) ≤ 2 ^ m := by have := two_pow_pos m; omega
theorem p_half {p : Int} {m : Nat} (h : p * 2 ^ (m + 1) = 65536) (hp : 0 < p) : p ≤ 32768 := by
 rw [Int.pow_succ, ← Int.mul_assoc] at h
 have h2 : p * 1 ≤ p * 2 ^ m := Int.mul_le_mul_of_nonneg_left (two_pow_ge m) (by omega)
 generalize p * 2 ^ m = z at *
 omega
theorem div_lt_p {d p : Int} {m : Nat} (h : p * 2 ^ m = 65536) (hd : d < 65536) : d / 2 ^ m < p := by
 apply Int.ediv_lt_of_lt_mul (two_pow_pos m)
 omega
theorem over_l1 {a : List Int} {s : Bool} {den : Int} (hd0 : 0 < den) (hd1 : den ≤ 9223372036854775807) (ha : Dig a) (hla : a.length < 1000) (i : Nat) (hi : i < a.length) (r0 : Int) (h1 : r0 < den) (m : Nat) :
  ∀ (k : Nat) (q : List Int) (rest p : Int), m ≤ 16 → q.length = a.length → Dig q → 0 ≤ rest → rest < den → 0 < p → p * 2 ^ m = 65536 → r0 * p + dg a i / 2 ^ m = den * dg q i + rest → m + 1 ≤ k →
   ∃ q' rest', capstanref01_Over.l1 k den q rest (i : Int) ((m : Int) - 1) s a = capstanref01_Over.l0 (k - m - 1) den q' rest' ((i : Int) - 1) s a ∧ q'.length = a.length ∧ Dig q' ∧ 0 ≤ rest' ∧ rest' < den ∧ (∀ j, j ≠ i → dg q' j = dg q j) ∧ q'.drop (i + 1) = q.drop (i + 1) ∧ r0 * 65536 + dg a i = den * dg q' i + rest' := by
 induction m with
 | zero =>
  intro k q rest p hm hl hq g0 g1 hp hpm hv hk
  obtain ⟨k, rfl⟩ : ∃ m, k = m + 1 := ⟨k - 1, by omega⟩
  rw [Int.pow_zero, Int.mul_one] at hpm
  subst hpm
  rw [Int.pow_zero, Int.ediv_one] at hv
  have e : wrap64 ((i : Int) - 1) = (i : Int) - 1 := w64s (by omega) (by omega)
  refine ⟨q, rest, ?_, hl, hq, g0, g1, fun _ _ => rfl, rfl, hv⟩
  simp only [capstanref01_Over.l1]
  rw [if_neg (by decide), e]
  rfl
 | succ m ih =>
  intro k q rest p hm hl hq g0 g1 hp hpm hv hk
  obtain ⟨k, rfl⟩ : ∃ m, k = m + 1 := ⟨k - 1, by omega⟩
  obtain ⟨x0, x1⟩ := ha.dg i
  obtain ⟨y0, y1⟩ := hq.dg i
  have hp2 := p_half hpm hp
  have hc := div_lt_p hpm x1
  have hy : dg q i < p := quot_lt hv h1 hc g0 hp hd0
  have hb : dg a i / 2 ^ m = 2 * (dg a i / 2 ^ (m + 1)) + dg a i / 2 ^ m % 2 := by
   have := half_div x0 (two_pow_pos m)
   rw [← Int.pow_succ] at this
   exact this
  have hpm' : 2 * p * 2 ^ m = 65536 := by
   rw [Int.pow_succ] at hpm
   rw [← hpm, Int.mul_comm 2 p, Int.mul_assoc, Int.mul_comm (2 : Int)]
  have b0 : 0 ≤ dg a i / 2 ^ m % 2 := Int.emod_nonneg _ (by decide)
  have b1 : dg a i / 2 ^ m % 2 < 2 := Int.emod_lt_of_pos _ (by decide)
  have c0 : 0 ≤ dg a i / 2 ^ m := Int.ediv_nonneg x0 (Int.le_of_lt (two_pow_pos m))
  have e8 : ((m + 1 : Nat) : Int) - 1 = (m : Int) := by omega
  have n1 : 0 ≤ IntKind.u64.wrap (m : Int) := by rw [u64w (by omega) (by omega)]; omega
  have n2 : (i : Int) < (q.length : Int) := by clear hv; omega
  have n3 : (i : Int) < (a.length : Int) := by clear hv; omega
  have n4 : i < q.length := by clear hv; omega
  have ed : wrap64 ((m : Int) - 1) = (m : Int) - 1 := w64s (by omega) (by omega)
  have hr0 := bit_step0 (b := dg a i / 2 ^ m % 2) hv
  have hr1 := bit_step1 (b := dg a i / 2 ^ m % 2) hv
  rw [← hb] at hr0 hr1
  clear hb hc hv hpm
  generalize hB : dg a i / 2 ^ m % 2 = B at *
  have w1 : IntKind.u64.wrap (2 * rest) = 2 * rest := u64w (by omega) (by omega)
  have w2 : IntKind.u64.wrap B = B := u64w (by omega) (by omega)
  have w3 : IntKind.u64.wrap (2 * rest + B) = 2 * rest + B := u64w (by omega) (by omega)
  have w4 : IntKind.u64.wrap den = den := u64w (by omega) (by omega)
  have w5 : wrap64 (2 * dg q i) = 2 * dg q i := w64s (by omega) (by omega)
  have w6 : wrap64 (2 * dg q i + 1) = 2 * dg q i + 1 := w64s (by omega) (by omega)
  have dd : dg (q.set i (2 * dg q i)) i = 2 * dg q i := by rw [dg_set n4, if_pos rfl]
  simp only [capstanref01_Over.l1]
  rw [e8, if_pos (Int.natCast_nonneg m), if_pos (Int.natCast_nonneg i), if_pos n3, if_pos n1, if_pos n2, rd_dg, rd_dg, shr_of (by omega), Int.tmod_eq_emod_of_nonneg c0, hB, w1, w2, w3, w4, w5, ed, Int.toNat_natCast]
  simp only [Option.bind_some]
  rw [rd_dg, dd, w6, List.set_set]
  by_cases hge : 2 * rest + B ≥ den
  ·rw [if_pos hge, u64w (x := 2 * rest + B - den) (by omega) (by omega)]
   have dd1 : dg (q.set i (2 * dg q i + 1)) i = 2 * dg q i + 1 := by rw [dg_set n4, if_pos rfl]
   obtain ⟨q', rest', f1, f2, f3, f4, f5, f6, f7, f8⟩ := ih k (q.set i (2 * dg q i + 1)) (2 * rest + B - den) (2 * p) (by omega) (by rw [List.length_set, hl]) (hq.set (by omega) (by omega)) (by omega) (by omega) (by omega) hpm' (by rw [dd1]; exact hr1) (by omega)
   refine ⟨q', rest', ?_, f2, f3, f4, f5, ?_, ?_, f8⟩
   ·rw [f1, show k + 1 - (m + 1) - 1 = k - m - 1 by omega]
   ·intro j hj; rw [f6 j hj, dg_set n4, if_neg (fun h => hj h.symm)]
   ·rw [f7, set_drop (by omega)]
  ·rw [if_neg hge]
   obtain ⟨q', rest', f1, f2, f3, f4, f5, f6, f7, f8⟩ := ih k (q.set i (2 * dg q i)) (2 * rest + B) (2 * p) (by omega) (by rw [List.length_set, hl]) (hq.set (by omega) (by omega)) (by omega) (by omega) (by omega) hpm' (by rw [dd]; exact hr0) (by omega)
   refine ⟨q', rest', ?_, f2, f3, f4, f5, ?_, ?_, f8⟩
   ·rw [f1, show k + 1 - (m + 1) - 1 = k - m - 1 by omega]
   ·intro j hj; rw [f6 j hj, dg_set n4, if_neg (fun h => hj h.symm)]
   ·rw [f7, set_drop (by omega)]

theorem floor_pos {A den Q r : Int} (h : A = den * Q + r) (r0 : 0 ≤ r) (r1 : r < den) : A / den = Q := by
 have hd : den ≠ 0 := by omega
 rw [h, Int.add_comm, Int.add_mul_ediv_left _ _ hd, Int.ediv_eq_zero_of_lt r0 r1]
 omega
theorem floor_neg {A den Q r : Int} (h : A = den * Q + r) (r0 : 0 < r) (r1 : r < den) : -A / den = -(Q + 1) := by
 refine floor_pos (r := den - r) ?_ (by omega) (by omega)
 rw [h, Int.mul_neg, Int.mul_add]
 omega
theorem floor_neg0 {A den Q : Int} (h : A = den * Q) (hd : 0 < den) : -A / den = -Q := by
 refine floor_pos (r := 0) ?_ (by omega) (by omega)
 rw [h, Int.mul_neg]
 omega
theorem over_cut {k : Nat} {a : List Int} {s : Bool} {den : Int} (hd0 : 0 < den) (hla : a.length < 1000) {q : List Int} {rest : Int} (hl : q.length = a.length) (hq : Dig q) (g0 : 0 ≤ rest) (g1 : rest < den) (hv : val a = den * val q + rest) (hk : 4 * a.length + 30 ≤ k) :
  ∃ d, ((capstanref01_trim.f k q).bind fun t224 => (if s = true then (if rest > 0 then ((capstanref01_sum.f k t224 (([1] : List Int))).bind fun t230 => (some (s, t230))) else (some (s, t224))) else (some (s, t224)))) = some (s, d) ∧ sval s d = sval s a / den ∧ Dig d ∧ Nrm d ∧ d.length ≤ a.length + 2 := by
 obtain ⟨t, t1, t2, t3, t4, t5⟩ := trim_f hq (by omega) k (by omega)
 rw [t1]
 simp only [Option.bind_some]
 rw [← t2] at hv
 cases s with
 | false =>
  rw [if_neg (by decide)]
  exact ⟨t, rfl, (floor_pos hv g0 g1).symm, t3, t4, by omega⟩
 | true =>
  rw [if_pos rfl]
  by_cases hr : rest > 0
  ·rw [if_pos hr]
   obtain ⟨u, u1, u2, u3, u4, u5⟩ := sum_f (b := [1]) t3 (by intro x hx; rw [List.mem_singleton.1 hx]; decide) (by omega) (by decide) k (by simp; omega)
   rw [u1]
   refine ⟨u, rfl, ?_, u3, u4, by simp at u5; omega⟩
   have e : val ([1] : List Int) = 1 := by decide
   rw [e] at u2
   show -val u = -val a / den
   rw [u2]
   exact (floor_neg hv hr g1).symm
  ·rw [if_neg hr]
   have : rest = 0 := by clear hv; omega
   subst this
   exact ⟨t, rfl, (floor_neg0 (by rw [hv, Int.add_zero]) hd0).symm, t3, t4, by omega⟩
theorem drop_step {A den Q rest x y R : Int} (h : A = den * Q + rest) (h2 : rest * 65536 + x = den * y + R) : x + 65536 * A = den * (y + 65536 * Q) + R := by
 rw [h, Int.mul_add, Int.mul_add, Int.mul_left_comm den 65536 Q]
 generalize den * Q = m1 at *
 generalize den * y = m2 at *
 omega
theorem over_l0 {a : List Int} {s : Bool} {den : Int} (hd0 : 0 < den) (hd1 : den ≤ 9223372036854775807) (ha : Dig a) (hla : a.length < 1000) (n : Nat) :
  ∀ (k : Nat) (q : List Int) (rest : Int), n ≤ a.length → q.length = a.length → Dig q → 0 ≤ rest → rest < den → (∀ j, j < n → dg q j = 0) → val (a.drop n) = den * val (q.drop n) + rest → 18 * n + 4 * a.length + 32 ≤ k →
   ∃ d, capstanref01_Over.l0 k den q rest ((n : Int) - 1) s a = some (s, d) ∧ sval s d = sval s a / den ∧ Dig d ∧ Nrm d ∧ d.length ≤ a.length + 2 := by
 induction n with
 | zero =>
  intro k q rest hn hl hq g0 g1 hz hv hk
  obtain ⟨k, rfl⟩ : ∃ m, k = m + 1 := ⟨k - 1, by omega⟩
  simp only [capstanref01_Over.l0]
  rw [if_neg (by decide)]
  rw [List.drop_zero, List.drop_zero] at hv
  exact over_cut hd0 hla hl hq g0 g1 hv (by clear hv; omega)
 | succ n ih =>
  intro k q rest hn hl hq g0 g1 hz hv hk
  obtain ⟨k, rfl⟩ : ∃ m, k = m + 1 := ⟨k - 1, by omega⟩
  have e : ((n + 1 : Nat) : Int) - 1 = (n : Int) := by omega
  simp only [capstanref01_Over.l0]
  rw [e, if_pos (Int.natCast_nonneg n)]
  obtain ⟨x0, x1⟩ := ha.dg n
  obtain ⟨q', rest', f1, f2, f3, f4, f5, f6, f7, f8⟩ := over_l1 (s := s) hd0 hd1 ha hla n (by omega) rest g1 16 k q rest 1 (by decide) hl hq g0 g1 (by decide) (by decide) (by
   rw [hz n (by omega), Int.mul_one, Int.mul_zero]
   have : dg a n / 2 ^ 16 = 0 := Int.ediv_eq_zero_of_lt x0 x1
   omega) (by clear hv; omega)
  have e2 : ((16 : Nat) : Int) - 1 = 15 := by decide
  rw [e2] at f1
  rw [f1]
  refine ih (k - 16 - 1) q' rest' (by clear hv; omega) f2 f3 f4 f5 (fun j hj => by rw [f6 j (by clear hv; omega)]; exact hz j (by clear hv; omega)) ?_ (by clear hv; omega)
  rw [val_drop a n, val_drop q' n, f7]
  exact drop_step hv f8
theorem over_f {a : List Int} {s : Bool} {den : Int} (hd0 : 0 < den) (hd1 : den ≤ 9223372036854775807) (ha : Dig a) (hla : a.length < 1000) (k : Nat) (hk : 22 * a.length + 32 ≤ k) :
  ∃ d, capstanref01_Over.f k s a den = some (s, d) ∧ sval s d = sval s a / den ∧ Dig d ∧ Nrm d ∧ d.length ≤ a.length + 2 := by
 unfold capstanref01_Over.f
 rw [if_pos (Int.natCast_nonneg _), Int.toNat_natCast, if_pos (by omega), w64s (by omega) (by omega)]
 refine over_l0 hd0 hd1 ha hla a.length k _ 0 (Nat.le_refl _) (by simp) (Dig.zeros _) (by decide) hd0 (fun j _ => dg_zeros _ _) ?_ (by omega)
 rw [List.drop_of_length_le (Nat.le_refl _), List.drop_of_length_le (by simp)]
 simp [val]
end Go.Proofs.YtpljkcakijkklaaGreatDoor.Big

end
section
namespace Go.Proofs.YtpljkcakijkklaaGreatDoor.Big
set_option linter.unusedVariables false
set_option linter.unusedSimpArgs false
open Go.RowKit Go.Proofs.YtpljkcakijkklaaGreatDoor Go.Proofs.YtpljkcakijkklaaGreatDoor.XRef01 Go.Proofs.YtpljkcakijkklaaGreatDoorW.PrintWords Go.Proofs.YtpljkcakijkklaaGreatDoorW.PrintLast Go.Proofs.YtpljkcakijkklaaGreatDoorW.PrintMore

theorem bind_of {α β : Type} {o : Option α} {f : α → Option β} {x : α} {y : Option β} (h : o = some x) (h2 : f x = y) : o.bind f = y := by subst h; exact h2
theorem prod_of (k : Nat) (hk : 1000 ≤ k) {a b : Int} (ha : R64 a) (hb : R64 b) : ∃ s d t e u r, capstanref01_Of.f k a = some (s, d) ∧ capstanref01_Of.f k b = some (t, e) ∧ capstanref01_Times.f k s d t e = some (u, r) ∧ sval u r = a * b ∧ Dig r ∧ Nrm r ∧ r.length ≤ 8 := by
 obtain ⟨s, d, d1, _, d2, d3, d4, d5, _⟩ := of_f ha k (by omega)
 obtain ⟨t, e, e1, _, e2, e3, e4, e5, _⟩ := of_f hb k (by omega)
 obtain ⟨r, f1, f2, f3, f4, f5⟩ := times_f (s := s) (t := t) d3 e3 (by omega) (by omega) k (by omega)
 exact ⟨s, d, t, e, _, r, d1, e1, f1, by rw [sval_times f2, d2, e2], f3, f4, by omega⟩
theorem one_r : R64 1000000 := by decide
theorem mul_ref (k : Nat) (hk : 1000 ≤ k) {a b : Int} (ha : R64 a) (hb : R64 b) : capstanref01_Mul.f k a b = some (heldI (a * b / 1000000)) := by
 obtain ⟨s, d, t, e, u, r, h1, h2, h3, h4, h5, h6, h7⟩ := prod_of k (by omega) ha hb
 obtain ⟨q, q1, q2, q3, q4, q5⟩ := over_f (s := u) (den := 1000000) (by decide) (by decide) h5 (by omega) k (by omega)
 unfold capstanref01_Mul.f
 refine bind_of h1 ?_
 refine bind_of h2 ?_
 refine bind_of h3 ?_
 refine bind_of q1 ?_
 refine bind_of (held_f q3 q4 (by omega) k (by omega)) ?_
 rw [q2, h4]
theorem scale_ref (k : Nat) (hk : 1001 ≤ k) {a b c : Int} (ha : R64 a) (hb : R64 b) (hc : R64 c) : capstanref01_Scale.f k a b c = some (if b < 0 ∨ c < 1 then 0 else heldI (a * b / c)) := by
 obtain ⟨k, rfl⟩ : ∃ m, k = m + 1 := ⟨k - 1, by omega⟩
 unfold capstanref01_Scale.f
 by_cases hb0 : b < 0
 ·rw [if_pos hb0, if_pos (.inl hb0)]
  simp only [capstanref01_Scale.j0, if_true]
 ·rw [if_neg hb0]
  by_cases hc0 : c < 1
  ·rw [if_pos (.inr hc0), decide_eq_true hc0]
   simp only [capstanref01_Scale.j0, if_true]
  ·rw [if_neg (by omega), decide_eq_false hc0]
   obtain ⟨s, d, t, e, u, r, h1, h2, h3, h4, h5, h6, h7⟩ := prod_of k (by omega) ha hb
   obtain ⟨q, q1, q2, q3, q4, q5⟩ := over_f (s := u) (den := c) (by omega) hc.2 h5 (by omega) k (by omega)
   simp only [capstanref01_Scale.j0, Bool.false_eq_true, if_false]
   refine bind_of h1 ?_
   refine bind_of h2 ?_
   refine bind_of h3 ?_
   refine bind_of q1 ?_
   refine bind_of (held_f q3 q4 (by omega) k (by omega)) ?_
   rw [q2, h4]
theorem half_f (k : Nat) (hk : 1000 ≤ k) {s : Bool} {a : List Int} (ha : Dig a) (hla : a.length ≤ 8) {x : Int} (hx : sval s a = 2 * x) : ∃ d, capstanref01_half.f k s a = some (s, d) ∧ sval s d = x ∧ Dig d ∧ Nrm d ∧ d.length ≤ a.length + 2 := by
 obtain ⟨q, q1, q2, q3, q4, q5⟩ := over_f (s := false) (den := 2) (by decide) (by decide) ha (by omega) k (by omega)
 unfold capstanref01_half.f
 refine ⟨q, bind_of q1 rfl, ?_, q3, q4, q5⟩
 have e1 : sval false q = val q := rfl
 have e2 : sval false a = val a := rfl
 rw [e1, e2] at q2
 cases s with
 | true =>
  have e3 : sval true a = -val a := rfl
  have e4 : sval true q = -val q := rfl
  rw [e3] at hx
  rw [e4]
  omega
 | false =>
  rw [e2] at hx
  rw [e1]
  omega
theorem div_ref (k : Nat) (hk : 1000 ≤ k) {a b : Int} (ha : R64 a) (hb : R64 b) : capstanref01_Div.f k a b = some (if b = 0 then (0, false) else (heldI (quotI a b), true)) := by
 unfold capstanref01_Div.f
 by_cases h0 : b = 0
 ·rw [if_pos h0, if_pos h0]
 ·rw [if_neg h0, if_neg h0]
  obtain ⟨s, d, t, e, u, r, h1, h2, h3, h4, h5, h6, h7⟩ := prod_of k (by omega) ha one_r
  refine bind_of h1 ?_
  refine bind_of h2 ?_
  refine bind_of h3 ?_
  by_cases hm : b = -9223372036854775808
  ·rw [if_pos hm]
   obtain ⟨g, g1, g2, g3, g4, g5⟩ := half_f k hk (s := u) h5 h7 (x := a * 500000) (by omega)
   refine bind_of g1 ?_
   refine bind_of (minus_f _ _) ?_
   obtain ⟨q, q1, q2, q3, q4, q5⟩ := over_f (s := !u) (den := 4611686018427387904) (by decide) (by decide) g3 (by omega) k (by omega)
   refine bind_of q1 ?_
   refine bind_of (held_f q3 q4 (by omega) k (by omega)) ?_
   rw [q2, sval_not, g2]
   have e : -(a * 500000) / 4611686018427387904 = quotI a b := by
    subst hm
    unfold quotI
    rw [if_pos (by decide), Int.neg_neg]
    omega
   rw [e]
  ·rw [if_neg hm]
   by_cases hn : b < 0
   ·rw [if_pos hn, minus_f]; simp only [Option.bind_some]
    obtain ⟨q, q1, q2, q3, q4, q5⟩ := over_f (s := !u) (den := -b) (by omega) (by have := hb.1; omega) h5 (by omega) k (by omega)
    rw [w64s (by have := hb.1; omega) (by have := hb.1; omega)]
    refine bind_of q1 ?_
    refine bind_of (held_f q3 q4 (by omega) k (by omega)) ?_
    rw [q2, sval_not, h4]
    have e : -(a * 1000000) / -b = quotI a b := by unfold quotI; rw [if_pos hn]
    rw [e]
   ·rw [if_neg hn]
    obtain ⟨q, q1, q2, q3, q4, q5⟩ := over_f (s := u) (den := b) (by omega) hb.2 h5 (by omega) k (by omega)
    refine bind_of q1 ?_
    refine bind_of (held_f q3 q4 (by omega) k (by omega)) ?_
    rw [q2, h4]
    have e : a * 1000000 / b = quotI a b := by unfold quotI; rw [if_neg hn]
    rw [e]
theorem floor_ref (k : Nat) (hk : 1000 ≤ k) {a : Int} (ha : R64 a) : capstanref01_Floor.f k a = some (heldI (a / 1000000 * 1000000)) := by
 obtain ⟨s, d, d1, _, d2, d3, d4, d5, _⟩ := of_f ha k (by omega)
 obtain ⟨t, e, e1, _, e2, e3, e4, e5, _⟩ := of_f one_r k (by omega)
 obtain ⟨q, q1, q2, q3, q4, q5⟩ := over_f (s := s) (den := 1000000) (by decide) (by decide) d3 (by omega) k (by omega)
 obtain ⟨r, f1, f2, f3, f4, f5⟩ := times_f (s := s) (t := t) q3 e3 (by omega) (by omega) k (by omega)
 unfold capstanref01_Floor.f
 refine bind_of d1 ?_
 refine bind_of q1 ?_
 refine bind_of e1 ?_
 refine bind_of f1 ?_
 refine bind_of (held_f f3 f4 (by omega) k (by omega)) ?_
 rw [sval_times f2, q2, d2, e2]
theorem ceil_ref (k : Nat) (hk : 1000 ≤ k) {a : Int} (ha : R64 a) : capstanref01_Ceil.f k a = some (heldI (-(-a / 1000000) * 1000000)) := by
 obtain ⟨s, d, d1, _, d2, d3, d4, d5, _⟩ := of_f ha k (by omega)
 obtain ⟨t, e, e1, _, e2, e3, e4, e5, _⟩ := of_f one_r k (by omega)
 obtain ⟨q, q1, q2, q3, q4, q5⟩ := over_f (s := !s) (den := 1000000) (by decide) (by decide) d3 (by omega) k (by omega)
 obtain ⟨r, f1, f2, f3, f4, f5⟩ := times_f (s := !!s) (t := t) q3 e3 (by omega) (by omega) k (by omega)
 unfold capstanref01_Ceil.f
 refine bind_of d1 ?_
 refine bind_of (minus_f _ _) ?_
 refine bind_of q1 ?_
 refine bind_of (minus_f _ _) ?_
 refine bind_of e1 ?_
 refine bind_of f1 ?_
 refine bind_of (held_f f3 f4 (by omega) k (by omega)) ?_
 rw [sval_times f2, sval_not, q2, sval_not, d2, e2]
theorem whole_ref (k : Nat) (hk : 1000 ≤ k) {a : Int} (ha : R64 a) : capstanref01_Whole.f k a = some (heldI (a * 1000000)) := by
 obtain ⟨s, d, t, e, u, r, h1, h2, h3, h4, h5, h6, h7⟩ := prod_of k (by omega) ha one_r
 unfold capstanref01_Whole.f
 refine bind_of h1 ?_
 refine bind_of h2 ?_
 refine bind_of h3 ?_
 refine bind_of (held_f h5 h6 (by omega) k (by omega)) ?_
 rw [h4]
end Go.Proofs.YtpljkcakijkklaaGreatDoor.Big

end
