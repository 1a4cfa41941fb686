/-
  Texts of this seat, joined, less what WindowFloods does not lean on: FixNum, BigRef, BigRef2, BigRef3, BigRef4.
-/
import Derived.Test.YtgfnlhigmncdmaaQWindowFloods18
import Derived.ProofKit
import Derived.Test.YtgfnlhigmncdmaaQWindowFloods8
import Derived.Test.YtgfnlhigmncdmaaQWindowFloods2
section
namespace Go.Proofs.Ytgfnlhigmncdmaa
set_option linter.unusedVariables false
set_option linter.unusedSimpArgs false
open Go.RowKit

theorem w64_in {x : Int} (h : R64 x) : wrap64 x = x := by obtain ⟨h0, h1⟩ := h; unfold wrap64; omega
end Go.Proofs.Ytgfnlhigmncdmaa

end
section
namespace Go.Proofs.Ytgfnlhigmncdmaa.Big
set_option linter.unusedVariables false
set_option linter.unusedSimpArgs false
open Go.RowKit Go.Proofs.Ytgfnlhigmncdmaa Go.Proofs.Ytgfnlhigmncdmaa.XRef01 Go.Proofs.YtgfnlhigmncdmaaW.PrintWords Go.Proofs.YtgfnlhigmncdmaaW.PrintLast Go.Proofs.YtgfnlhigmncdmaaW.PrintMore

theorem w64s {x : Int} (h0 : -9223372036854775808 ≤ x) (h1 : x ≤ 9223372036854775807) : wrap64 x = x := w64_in ⟨h0, h1⟩
theorem rd_dg (l : List Int) (i : Nat) : rd l (i : Int) = dg l i := by unfold rd dg; rw [Int.toNat_natCast]

theorem trim_l0 {l : List Int} (hl : l.length < 4611686018427387904) : ∀ (n k : Nat), n ≤ l.length → n < k →
    ∃ m, m ≤ n ∧ capstanref01_trim.l0 k l (n : Int) = some (l.take m) ∧ val (l.take m) = val (l.take n) ∧ (m = 0 ∨ dg l (m - 1) ≠ 0) := by
  intro n
  induction n with
  | zero =>
    intro k hn hk
    obtain ⟨k, rfl⟩ : ∃ m, k = m + 1 := ⟨k - 1, by omega⟩
    refine ⟨0, Nat.le_refl _, ?_, rfl, .inl rfl⟩
    simp only [capstanref01_trim.l0]
    rw [if_neg (by omega), if_pos (by omega), if_pos (by omega), Int.toNat_natCast]
  | succ n ih =>
    intro k hn hk
    obtain ⟨k, rfl⟩ : ∃ m, k = m + 1 := ⟨k - 1, by omega⟩
    have e : wrap64 (((n + 1 : Nat) : Int) - 1) = (n : Int) := by rw [w64s (by omega) (by omega)]; omega
    by_cases hz : dg l n = 0
    · obtain ⟨m, h1, h2, h3, h4⟩ := ih k (by omega) (by omega)
      refine ⟨m, by omega, ?_, ?_, h4⟩
      · simp only [capstanref01_trim.l0]
        rw [if_pos (by omega), e, if_pos (by omega), if_pos (by omega), rd_dg, if_pos hz]
        exact h2
      · rw [h3, val_take_succ, hz, Int.mul_zero, Int.add_zero]
    · refine ⟨n + 1, Nat.le_refl _, ?_, rfl, .inr hz⟩
      simp only [capstanref01_trim.l0]
      rw [if_pos (by omega), e, if_pos (by omega), if_pos (by omega), rd_dg, if_neg hz, if_pos (by omega), if_pos (by omega), Int.toNat_natCast]
/-- trim. -/
theorem trim_f {l : List Int} (hd : Dig l) (hl : l.length < 4611686018427387904) (k : Nat) (hk : l.length < k) :
    ∃ r, capstanref01_trim.f k l = some r ∧ val r = val l ∧ Dig r ∧ Nrm r ∧ r.length ≤ l.length := by
  obtain ⟨m, h1, h2, h3, h4⟩ := trim_l0 hl l.length k (Nat.le_refl _) hk
  refine ⟨l.take m, h2, by rw [h3, List.take_length], hd.take m, ?_, by rw [List.length_take]; omega⟩
  rcases h4 with rfl | h4
  · exact .inl rfl
  · by_cases hm : m = 0
    · subst hm; exact .inl rfl
    · refine .inr ?_
      rw [List.length_take_of_le h1]
      have e : dg (l.take m) (m - 1) = dg l (m - 1) := by
        unfold dg
        rw [List.getD_eq_getElem?_getD, List.getD_eq_getElem?_getD, List.getElem?_take, if_pos (by omega)]
      rwa [e]

theorem at_f (l : List Int) (i : Nat) : capstanref01_at.f l (i : Int) = some (dg l i) := by
  unfold capstanref01_at.f
  by_cases h : i < l.length
  · rw [if_pos (by omega), if_pos (by omega), rd_dg]
  · rw [if_neg (by omega), dg_beyond (by omega)]

theorem mx_len (a b : List Int) : mx (a.length : Int) (b.length : Int) = ((max a.length b.length : Nat) : Int) := by unfold mx; split <;> omega
/-- sum. -/
theorem sum_l0 {a b : List Int} (ha : Dig a) (hb : Dig b) (hla : a.length < 17592186044415) (hlb : b.length < 17592186044415) (n : Nat) :
    ∀ (k i : Nat) (r : List Int) (c : Int), max a.length b.length + 1 = i + n → r.length = i → Dig r → (c = 0 ∨ c = 1) → (n = 0 → c = 0) → val r + P i * c = val (a.take i) + val (b.take i) → 2 * n + max a.length b.length + 20 ≤ k →
      ∃ s, capstanref01_sum.l0 k a b r c (i : Int) = some s ∧ val s = val a + val b ∧ Dig s ∧ Nrm s ∧ s.length ≤ max a.length b.length + 1 := by
  induction n with
  | zero =>
    intro k i r c hi hr hd hc hc0 hv hk
    obtain ⟨k, rfl⟩ : ∃ m, k = m + 2 := ⟨k - 2, by omega⟩
    have hc' := hc0 rfl
    subst hc'
    obtain ⟨s, s1, s2, s3, s4, s5⟩ := trim_f hd (by omega) k (by omega)
    rw [Int.mul_zero, Int.add_zero, val_take_all (by omega), val_take_all (by omega)] at hv
    refine ⟨s, ?_, by omega, s3, s4, by omega⟩
    simp only [capstanref01_sum.l0]
    rw [mx_len, if_neg (by omega)]
    simp only [capstanref01_sum.j1]
    rw [if_neg (by decide), s1]
    rfl
  | succ n ih =>
    intro k i r c hi hr hd hc hc0 hv hk
    obtain ⟨k, rfl⟩ : ∃ m, k = m + 2 := ⟨k - 2, by omega⟩
    have go : capstanref01_sum.j1 (k + 1) a b r c (i : Int) true = capstanref01_sum.l0 k a b (r ++ [Int.tmod (wrap64 (wrap64 (dg a i + dg b i) + c)) 65536]) (wrap64 (Int.tdiv (wrap64 (wrap64 (dg a i + dg b i) + c)) 65536)) ((i + 1 : Nat) : Int) := by
      simp only [capstanref01_sum.j1]
      rw [if_true, at_f, at_f]
      simp only [Option.bind_some]
      rw [if_pos (by omega), show wrap64 ((i : Int) + 1) = ((i + 1 : Nat) : Int) by rw [w64s (by omega) (by omega)]; omega]
    have step : ∃ s, capstanref01_sum.j1 (k + 1) a b r c (i : Int) true = some s ∧ val s = val a + val b ∧ Dig s ∧ Nrm s ∧ s.length ≤ max a.length b.length + 1 := by
      obtain ⟨x0, x1⟩ := ha.dg i
      obtain ⟨y0, y1⟩ := hb.dg i
      have e1 : wrap64 (dg a i + dg b i) = dg a i + dg b i := w64s (by omega) (by omega)
      have e2 : wrap64 (dg a i + dg b i + c) = dg a i + dg b i + c := w64s (by omega) (by omega)
      have e3 : wrap64 ((dg a i + dg b i + c) / 65536) = (dg a i + dg b i + c) / 65536 := w64s (by omega) (by omega)
      rw [go, e1, e2, Int.tdiv_eq_ediv_of_nonneg (by omega), Int.tmod_eq_emod_of_nonneg (by omega), e3]
      have c0 : 0 ≤ (dg a i + dg b i + c) / 65536 := by omega
      have c1 : (dg a i + dg b i + c) / 65536 ≤ 1 := by omega
      refine ih k (i + 1) _ _ (by omega) (by simp [hr]) (hd.snoc (by omega) (by omega)) (by clear e1 e2 e3 go; omega) ?_ ?_ (by omega)
      · intro hn
        subst hn
        have q1 : dg a i = 0 := dg_beyond (by omega)
        have q2 : dg b i = 0 := dg_beyond (by omega)
        omega
      · rw [val_snoc, hr, val_take_succ, val_take_succ, P_succ]
        have hs : dg a i + dg b i + c = (dg a i + dg b i + c) % 65536 + 65536 * ((dg a i + dg b i + c) / 65536) := by omega
        generalize (dg a i + dg b i + c) % 65536 = s0 at *
        generalize (dg a i + dg b i + c) / 65536 = s1 at *
        have hs2 : P i * (dg a i + dg b i + c) = P i * (s0 + 65536 * s1) := by rw [hs]
        rw [Int.mul_add, Int.mul_add, Int.mul_add, ← Int.mul_assoc] at hs2
        omega
    simp only [capstanref01_sum.l0]
    rw [mx_len]
    by_cases hlt : (i : Int) < ((max a.length b.length : Nat) : Int)
    · rw [if_pos hlt]
      exact step
    · rw [if_neg hlt]
      by_cases hc1 : c > 0
      · rw [decide_eq_true hc1]
        exact step
      · have hc' : c = 0 := by omega
        subst hc'
        have hi' : a.length ≤ i ∧ b.length ≤ i := by omega
        obtain ⟨s, s1, s2, s3, s4, s5⟩ := trim_f hd (by omega) k (by omega)
        rw [Int.mul_zero, Int.add_zero, val_take_all hi'.1, val_take_all hi'.2] at hv
        refine ⟨s, ?_, by omega, s3, s4, by omega⟩
        rw [decide_eq_false (by decide)]
        simp only [capstanref01_sum.j1]
        rw [if_neg (by decide), s1]
        rfl
theorem sum_f {a b : List Int} (ha : Dig a) (hb : Dig b) (hla : a.length < 17592186044415) (hlb : b.length < 17592186044415) (k : Nat) (hk : 3 * max a.length b.length + 22 ≤ k) :
    ∃ s, capstanref01_sum.f k a b = some s ∧ val s = val a + val b ∧ Dig s ∧ Nrm s ∧ s.length ≤ max a.length b.length + 1 :=
  sum_l0 ha hb hla hlb (max a.length b.length + 1) k 0 [] 0 (by omega) rfl Dig.nil (.inl rfl) (by omega) (by simp [val]) (by omega)

/-- order. -/
theorem order_l0 {a b : List Int} (ha : Dig a) (hb : Dig b) (hl : a.length = b.length) (hla : a.length < 17592186044415) : ∀ (n k : Nat), n ≤ a.length → n < k → val a - val b = val (a.take n) - val (b.take n) →
    ∃ r, capstanref01_order.l0 k a b ((n : Int) - 1) = some r ∧ (0 ≤ r ↔ val b ≤ val a) := by
  intro n
  induction n with
  | zero =>
    intro k hn hk hv
    obtain ⟨k, rfl⟩ : ∃ m, k = m + 1 := ⟨k - 1, by omega⟩
    refine ⟨0, ?_, ?_⟩
    · simp only [capstanref01_order.l0]
      rw [if_neg (by omega)]
    · simp [val] at hv
      omega
  | succ n ih =>
    intro k hn hk hv
    obtain ⟨k, rfl⟩ : ∃ m, k = m + 1 := ⟨k - 1, by omega⟩
    have e : ((n + 1 : Nat) : Int) - 1 = (n : Int) := by omega
    have e2 : wrap64 ((n : Int) - 1) = (n : Int) - 1 := w64s (by omega) (by omega)
    rw [val_take_succ, val_take_succ] at hv
    obtain ⟨x0, x1⟩ := val_range (ha.take n)
    obtain ⟨y0, y1⟩ := val_range (hb.take n)
    rw [List.length_take_of_le (by omega)] at x1 y1
    simp only [capstanref01_order.l0]
    rw [e, if_pos (by omega), if_pos (by omega), if_pos (by omega), if_pos (by omega), rd_dg, rd_dg]
    by_cases h1 : dg a n < dg b n
    · rw [if_pos h1]
      refine ⟨-1, rfl, ?_⟩
      have : P n * (dg a n + 1) ≤ P n * dg b n := Int.mul_le_mul_of_nonneg_left (by omega) (Int.le_of_lt (P_pos n))
      rw [Int.mul_add, Int.mul_one] at this
      omega
    · rw [if_neg h1]
      by_cases h2 : dg a n > dg b n
      · rw [if_pos h2]
        refine ⟨1, rfl, ?_⟩
        have : P n * (dg b n + 1) ≤ P n * dg a n := Int.mul_le_mul_of_nonneg_left (by omega) (Int.le_of_lt (P_pos n))
        rw [Int.mul_add, Int.mul_one] at this
        omega
      · rw [if_neg h2, e2]
        have h3 : dg a n = dg b n := by omega
        rw [h3] at hv
        exact ih k (by omega) (by omega) (by omega)
theorem order_f {a b : List Int} (ha : Dig a) (hb : Dig b) (na : Nrm a) (nb : Nrm b) (hla : a.length < 17592186044415) (hlb : b.length < 17592186044415) (k : Nat) (hk : a.length < k) :
    ∃ r, capstanref01_order.f k a b = some r ∧ (0 ≤ r ↔ val b ≤ val a) := by
  unfold capstanref01_order.f
  by_cases h : a.length = b.length
  · rw [if_pos (by omega), w64s (by omega) (by omega)]
    exact order_l0 ha hb h hla a.length k (Nat.le_refl _) hk (by rw [List.take_length, h, List.take_length])
  · rw [if_neg (by omega)]
    by_cases h2 : a.length < b.length
    · rw [if_pos (by omega)]
      have := nrm_len ha hb nb h2
      exact ⟨-1, rfl, by omega⟩
    · rw [if_neg (by omega)]
      have := nrm_len hb ha na (by omega)
      exact ⟨1, rfl, by omega⟩

/-- less. -/
theorem less_step {p u v x y r c s : Int} (hv : r - p * c = u - v) (hs : s = x - y - c + 65536) : r + p * s - p * 65536 * 1 = u + p * x - (v + p * y) := by
  subst hs
  rw [Int.mul_add, Int.mul_sub, Int.mul_sub]
  omega
theorem less_step0 {p u v x y r c s : Int} (hv : r - p * c = u - v) (hs : s = x - y - c) : r + p * s - p * 65536 * 0 = u + p * x - (v + p * y) := by
  subst hs
  rw [Int.mul_sub, Int.mul_sub]
  omega
theorem less_bnd {x y c : Int} (x0 : 0 ≤ x) (x1 : x < 65536) (y0 : 0 ≤ y) (y1 : y < 65536) (hc : c = 0 ∨ c = 1) : -65535 ≤ x - y ∧ x - y ≤ 65535 ∧ 0 ≤ x - y - c + 65536 ∧ x - y - c ≤ 65535 := by omega
theorem less_l0 {a b : List Int} (ha : Dig a) (hb : Dig b) (hla : a.length < 17592186044415) (hlb : b.length ≤ a.length) (hge : val b ≤ val a) (n : Nat) :
    ∀ (k i : Nat) (r : List Int) (c : Int), a.length = i + n → r.length = i → Dig r → (c = 0 ∨ c = 1) → val r - P i * c = val (a.take i) - val (b.take i) → n + a.length + 2 ≤ k →
      ∃ s, capstanref01_less.l0 k a b r c (i : Int) = some s ∧ val s = val a - val b ∧ Dig s ∧ Nrm s ∧ s.length ≤ a.length := by
  induction n with
  | zero =>
    intro k i r c hi hr hd hc hv hk
    obtain ⟨k, rfl⟩ : ∃ m, k = m + 1 := ⟨k - 1, by omega⟩
    obtain ⟨s, s1, s2, s3, s4, s5⟩ := trim_f hd (by omega) k (by omega)
    rw [val_take_all (by omega), val_take_all (by omega)] at hv
    have hR := (val_range hd).2
    rw [hr] at hR
    have hc0 : c = 0 := by
      rcases hc with h | h
      · exact h
      · subst h; omega
    subst hc0
    refine ⟨s, ?_, by omega, s3, s4, by omega⟩
    simp only [capstanref01_less.l0]
    rw [if_neg (by omega), s1]
    rfl
  | succ n ih =>
    intro k i r c hi hr hd hc hv hk
    obtain ⟨k, rfl⟩ : ∃ m, k = m + 1 := ⟨k - 1, by clear hv; omega⟩
    have g0 : (i : Int) < (a.length : Int) := by clear hv hge; omega
    have g1 : 0 ≤ (i : Int) := Int.natCast_nonneg i
    have g2 : r.length < 17592186044416 := by clear hv hge; omega
    have g3 : a.length = i + 1 + n := by clear hv hge; omega
    have g4 : n + a.length + 2 ≤ k := by clear hv hge; omega
    have e3 : wrap64 ((i : Int) + 1) = ((i + 1 : Nat) : Int) := by rw [w64s (by clear hv hge; omega) (by clear hv hge; omega)]; rfl
    obtain ⟨x0, x1⟩ := ha.dg i
    obtain ⟨y0, y1⟩ := hb.dg i
    obtain ⟨b0, b1, b2, b3⟩ := less_bnd x0 x1 y0 y1 hc
    have v1 := val_take_succ a i
    have v2 := val_take_succ b i
    simp only [capstanref01_less.l0]
    rw [if_pos g0, if_pos g1, at_f]
    simp only [Option.bind_some]
    rw [rd_dg, w64s (x := dg a i - dg b i) (by clear hv hge v1 v2; omega) (by clear hv hge v1 v2; omega), w64s (x := dg a i - dg b i - c) (by clear hv hge v1 v2; omega) (by clear hv hge v1 v2; omega), w64s (x := dg a i - dg b i - c + 65536) (by clear hv hge v1 v2; omega) (by clear hv hge v1 v2; omega), e3]
    by_cases hneg : dg a i - dg b i - c < 0
    · rw [if_pos hneg, if_pos g2]
      refine ih k (i + 1) _ _ g3 (by simp [hr]) (hd.snoc b2 (by clear hv hge v1 v2 ih; omega)) (.inr rfl) ?_ g4
      rw [val_snoc, hr, v1, v2, P_succ]
      exact less_step hv rfl
    · rw [if_neg hneg, if_pos g2]
      refine ih k (i + 1) _ _ g3 (by simp [hr]) (hd.snoc (by clear hv hge v1 v2 ih; omega) (by clear hv hge v1 v2 ih; omega)) (.inl rfl) ?_ g4
      rw [val_snoc, hr, v1, v2, P_succ]
      exact less_step0 hv rfl
theorem less_f {a b : List Int} (ha : Dig a) (hb : Dig b) (hla : a.length < 17592186044415) (hlb : b.length ≤ a.length) (hge : val b ≤ val a) (k : Nat) (hk : 2 * a.length + 2 ≤ k) :
    ∃ s, capstanref01_less.f k a b = some s ∧ val s = val a - val b ∧ Dig s ∧ Nrm s ∧ s.length ≤ a.length :=
  less_l0 ha hb hla hlb hge a.length k 0 [] 0 (by omega) rfl Dig.nil (.inl rfl) (by simp [val]) (by omega)
theorem nrm_le {a b : List Int} (ha : Dig a) (hb : Dig b) (na : Nrm a) (h : val a ≤ val b) : a.length ≤ b.length := by
  by_cases hl : a.length ≤ b.length
  · exact hl
  · have := nrm_len hb ha na (by omega); omega

/-- Plus. -/
theorem plus_f {a b : List Int} {s t : Bool} (ha : Dig a) (hb : Dig b) (na : Nrm a) (nb : Nrm b) (hla : a.length < 17592186044415) (hlb : b.length < 17592186044415) (k : Nat) (hk : 3 * max a.length b.length + 22 ≤ k) :
    ∃ u d, capstanref01_Plus.f k s a t b = some (u, d) ∧ sval u d = sval s a + sval t b ∧ Dig d ∧ Nrm d ∧ d.length ≤ max a.length b.length + 1 := by
  unfold capstanref01_Plus.f
  by_cases hst : s = t
  · subst hst
    obtain ⟨d, d1, d2, d3, d4, d5⟩ := sum_f ha hb hla hlb k hk
    refine ⟨s, d, ?_, ?_, d3, d4, d5⟩
    · rw [if_pos (by simp), d1]; rfl
    · unfold sval; rw [d2]; split <;> omega
  · rw [if_neg (by simpa using hst)]
    obtain ⟨r, r1, r2⟩ := order_f ha hb na nb hla hlb k (by omega)
    rw [r1]
    simp only [Option.bind_some]
    have hts : t = !s := by cases s <;> cases t <;> simp_all
    by_cases hr : r ≥ 0
    · rw [if_pos hr]
      have hle := r2.1 hr
      obtain ⟨d, d1, d2, d3, d4, d5⟩ := less_f ha hb hla (nrm_le hb ha nb hle) hle k (by omega)
      refine ⟨s, d, ?_, ?_, d3, d4, by omega⟩
      · rw [d1]; rfl
      · unfold sval; rw [d2, hts]; cases s <;> simp <;> omega
    · rw [if_neg hr]
      have hle : val a ≤ val b := by
        by_cases h : val b ≤ val a
        · exact absurd (r2.2 h) (by omega)
        · omega
      obtain ⟨d, d1, d2, d3, d4, d5⟩ := less_f hb ha hlb (nrm_le ha hb na hle) hle k (by omega)
      refine ⟨t, d, ?_, ?_, d3, d4, by omega⟩
      · rw [d1]; rfl
      · unfold sval; rw [d2, hts]; cases s <;> simp <;> omega
end Go.Proofs.Ytgfnlhigmncdmaa.Big

end
section
namespace Go.Proofs.Ytgfnlhigmncdmaa.Big
set_option linter.unusedVariables false
set_option linter.unusedSimpArgs false
open Go.RowKit Go.Proofs.Ytgfnlhigmncdmaa Go.Proofs.Ytgfnlhigmncdmaa.XRef01 Go.Proofs.YtgfnlhigmncdmaaW.PrintWords Go.Proofs.YtgfnlhigmncdmaaW.PrintLast Go.Proofs.YtgfnlhigmncdmaaW.PrintMore

theorem P4 : P 4 = 18446744073709551616 := by decide

theorem of_l0 (s : Bool) (U : Int) (n : Nat) : ∀ (k : Nat) (u : Int) (r : List Int), 0 ≤ u → u < P n → U < 18446744073709551616 → u ≤ U → r.length + n = 4 → Dig r → val r + P r.length * u = U → (u = 0 → Nrm r) → n + 1 ≤ k →
    ∃ d, capstanref01_Of.l0 k s u r = some (s, d) ∧ val d = U ∧ Dig d ∧ Nrm d ∧ d.length ≤ 4 := by
  induction n with
  | zero =>
    intro k u r h0 h1 hU hu hr hd hv hn hk
    obtain ⟨k, rfl⟩ : ∃ m, k = m + 1 := ⟨k - 1, by omega⟩
    have hz : u = 0 := by rw [P_zero] at h1; omega
    subst hz
    refine ⟨r, ?_, by rw [← hv]; simp, hd, hn rfl, by omega⟩
    simp only [capstanref01_Of.l0]
    rw [if_neg (by omega)]
  | succ n ih =>
    intro k u r h0 h1 hU hu hr hd hv hn hk
    obtain ⟨k, rfl⟩ : ∃ m, k = m + 1 := ⟨k - 1, by omega⟩
    by_cases hz : u > 0
    · simp only [capstanref01_Of.l0]
      rw [if_pos hz, if_pos (by omega), Int.tdiv_eq_ediv_of_nonneg h0, Int.tmod_eq_emod_of_nonneg h0, wu_in (x := u / 65536) (by omega) (by omega), w64s (x := u % 65536) (by omega) (by omega)]
      refine ih k (u / 65536) (r ++ [u % 65536]) (by omega) ?_ hU (by omega) (by simp; omega) (hd.snoc (by omega) (by omega)) ?_ ?_ (by omega)
      · rw [P_succ] at h1; omega
      · rw [val_snoc, List.length_append, List.length_singleton, P_succ, ← hv]
        have e : u = u % 65536 + 65536 * (u / 65536) := by omega
        have e2 : P r.length * u = P r.length * (u % 65536 + 65536 * (u / 65536)) := by rw [← e]
        rw [e2, Int.mul_add, Int.mul_assoc]
        omega
      · intro hq
        refine .inr ?_
        have : dg (r ++ [u % 65536]) ((r ++ [u % 65536]).length - 1) = u % 65536 := by
          unfold dg
          rw [List.length_append, List.length_singleton, Nat.add_sub_cancel, List.getD_eq_getElem?_getD, List.getElem?_append_right (Nat.le_refl _), Nat.sub_self]
          rfl
        rw [this]
        omega
    · have hz' : u = 0 := by omega
      subst hz'
      refine ⟨r, ?_, by rw [← hv]; simp, hd, hn rfl, by omega⟩
      simp only [capstanref01_Of.l0]
      rw [if_neg (by omega)]
/-- Of. -/
theorem of_f {v : Int} (h : R64 v) (k : Nat) (hk : 7 ≤ k) : ∃ s d, capstanref01_Of.f k v = some (s, d) ∧ s = decide (v < 0) ∧ sval s d = v ∧ Dig d ∧ Nrm d ∧ d.length ≤ 4 ∧ val d ≤ 9223372036854775808 := by
  obtain ⟨h0, h1⟩ := h
  obtain ⟨k, rfl⟩ : ∃ m, k = m + 1 := ⟨k - 1, by omega⟩
  unfold capstanref01_Of.f
  by_cases hn : v < 0
  · have e : IntKind.u64.wrap (-(IntKind.u64.wrap v)) = -v := by simp only [wu]; omega
    obtain ⟨d, d1, d2, d3, d4, d5⟩ := of_l0 (decide (v < 0)) (-v) 4 k (-v) [] (by omega) (by rw [P4]; omega) (by omega) (Int.le_refl _) rfl Dig.nil (by simp [val, P_zero]) (fun _ => .inl rfl) (by omega)
    refine ⟨decide (v < 0), d, ?_, rfl, ?_, d3, d4, d5, by omega⟩
    · rw [if_pos hn, e]
      simp only [capstanref01_Of.j0]
      exact d1
    · unfold sval
      rw [decide_eq_true hn, if_pos rfl, d2]
      omega
  · have e : IntKind.u64.wrap v = v := by simp only [wu]; omega
    obtain ⟨d, d1, d2, d3, d4, d5⟩ := of_l0 (decide (v < 0)) v 4 k v [] (by omega) (by rw [P4]; omega) (by omega) (Int.le_refl _) rfl Dig.nil (by simp [val, P_zero]) (fun _ => .inl rfl) (by omega)
    refine ⟨decide (v < 0), d, ?_, rfl, ?_, d3, d4, d5, by omega⟩
    · rw [if_neg hn, e]
      simp only [capstanref01_Of.j0]
      exact d1
    · unfold sval
      rw [decide_eq_false hn, if_neg (by decide), d2]

theorem and_most {u : Int} (h0 : 0 ≤ u) (h1 : u < 18446744073709551616) : Go.bits .and .u64 u 9223372036854775807 = u % 9223372036854775808 := by
  obtain ⟨u, rfl⟩ := Int.eq_ofNat_of_zero_le h0
  have h := bits_and_u64_nat u 9223372036854775807 (by omega) (by decide)
  have e : u &&& 9223372036854775807 = u % 9223372036854775808 := Nat.and_two_pow_sub_one_eq_mod u 63
  rw [e] at h
  refine h.trans ?_
  omega

theorem fit_l0 {s : Bool} {d : List Int} (hd : Dig d) (hl : d.length ≤ 4) (hpos : 0 < val d) : ∀ (n k : Nat), n ≤ d.length → n < k →
    ∃ v, capstanref01_Fit.l0 k (val (d.drop n)) ((n : Int) - 1) s d = some (v, inR (sval s d)) ∧ (inR (sval s d) = true → v = sval s d) ∧ R64 v := by
  have hV : val d < 18446744073709551616 := by
    have h1 := (val_range hd).2
    have h2 := P_mono hl
    rw [P4] at h2
    omega
  intro n
  induction n with
  | zero =>
    intro k hn hk
    obtain ⟨k, rfl⟩ : ∃ m, k = m + 1 := ⟨k - 1, by omega⟩
    simp only [capstanref01_Fit.l0]
    rw [if_neg (by omega), List.drop_zero]
    cases s with
    | true =>
      rw [if_pos rfl]
      have es : sval true d = -val d := rfl
      rw [es]
      by_cases hb : val d > 9223372036854775808
      · rw [if_pos hb]
        have hin : inR (-val d) = false := by unfold inR; rw [decide_eq_false_iff_not]; omega
        rw [hin]
        exact ⟨0, rfl, (fun h => by cases h), by decide⟩
      · rw [if_neg hb]
        have hin : inR (-val d) = true := by rw [inR_iff]; omega
        rw [hin, wu_in (x := val d - 1) (by omega) (by omega), w64s (x := val d - 1) (by omega) (by omega), w64s (x := -(val d - 1)) (by omega) (by omega), w64s (by omega) (by omega)]
        exact ⟨_, rfl, fun _ => by omega, by omega, by omega⟩
    | false =>
      rw [if_neg (by decide), and_most (by omega) hV]
      have es : sval false d = val d := rfl
      rw [es]
      have hin : inR (val d) = decide (val d ≤ 9223372036854775807) := by unfold inR; rw [decide_eq_decide]; omega
      rw [hin, w64s (by omega) (by omega)]
      refine ⟨_, rfl, fun h => ?_, by omega, by omega⟩
      rw [decide_eq_true_eq] at h
      omega
  | succ n ih =>
    intro k hn hk
    obtain ⟨k, rfl⟩ : ∃ m, k = m + 1 := ⟨k - 1, by omega⟩
    have e : ((n + 1 : Nat) : Int) - 1 = (n : Int) := by omega
    have hdr : val (d.drop n) = dg d n + 65536 * val (d.drop (n + 1)) := val_drop d n
    have hdd : Dig (d.drop n) := fun x hx => hd x (List.mem_of_mem_drop hx)
    have hdd1 : Dig (d.drop (n + 1)) := fun x hx => hd x (List.mem_of_mem_drop hx)
    obtain ⟨r0, r1⟩ := val_range hdd
    obtain ⟨q0, q1⟩ := val_range hdd1
    have hb : val (d.drop n) < 18446744073709551616 := by
      have h2 := P_mono (show (d.drop n).length ≤ 4 by rw [List.length_drop]; omega)
      rw [P4] at h2
      omega
    obtain ⟨x0, x1⟩ := hd.dg n
    simp only [capstanref01_Fit.l0]
    rw [e, if_pos (by omega), if_pos (by omega), if_pos (by omega), rd_dg, wu_in (x := val (d.drop (n + 1)) * 65536) (by omega) (by omega), wu_in (x := dg d n) (by omega) (by omega), wu_in (by omega) (by omega), w64s (x := (n : Int) - 1) (by omega) (by omega)]
    have e2 : val (d.drop (n + 1)) * 65536 + dg d n = val (d.drop n) := by omega
    rw [e2]
    exact ih k (by omega) (by omega)
/-- Fit. -/
theorem fit_f {s : Bool} {d : List Int} (hd : Dig d) (hn : Nrm d) (hl : d.length < 17592186044416) (k : Nat) (hk : 6 ≤ k) :
    ∃ v, capstanref01_Fit.f k s d = some (v, inR (sval s d)) ∧ (inR (sval s d) = true → v = sval s d) ∧ R64 v := by
  unfold capstanref01_Fit.f
  by_cases h0 : d.length = 0
  · have : d = [] := List.length_eq_zero_iff.1 h0
    subst this
    have e : sval s [] = 0 := by cases s <;> rfl
    rw [if_pos (show (([] : List Int).length : Int) = 0 from rfl), e]
    exact ⟨0, rfl, fun _ => rfl, by decide⟩
  · rw [if_neg (by omega)]
    have hge := nrm_ge hd hn (by omega)
    have hp := P_pos (d.length - 1)
    by_cases h4 : d.length > 4
    · rw [if_pos (by omega)]
      have h2 := P_mono (show 4 ≤ d.length - 1 by omega)
      rw [P4] at h2
      have hin : inR (sval s d) = false := by
        unfold inR sval
        rw [decide_eq_false_iff_not]
        split <;> omega
      rw [hin]
      exact ⟨0, rfl, (fun h => by cases h), by decide⟩
    · rw [if_neg (by omega), w64s (by omega) (by omega)]
      have := fit_l0 (s := s) hd (by omega) (by omega) d.length k (Nat.le_refl _) (by omega)
      rw [List.drop_length] at this
      exact this
end Go.Proofs.Ytgfnlhigmncdmaa.Big

end
section
namespace Go.Proofs.Ytgfnlhigmncdmaa.Big
set_option linter.unusedVariables false
set_option linter.unusedSimpArgs false
open Go.RowKit Go.Proofs.Ytgfnlhigmncdmaa Go.Proofs.Ytgfnlhigmncdmaa.XRef01 Go.Proofs.YtgfnlhigmncdmaaW.PrintWords Go.Proofs.YtgfnlhigmncdmaaW.PrintLast Go.Proofs.YtgfnlhigmncdmaaW.PrintMore

end Go.Proofs.Ytgfnlhigmncdmaa.Big

end
section
namespace Go.Proofs.Ytgfnlhigmncdmaa.Big
set_option linter.unusedVariables false
set_option linter.unusedSimpArgs false
open Go.RowKit Go.Proofs.Ytgfnlhigmncdmaa Go.Proofs.Ytgfnlhigmncdmaa.XRef01 Go.Proofs.YtgfnlhigmncdmaaW.PrintWords Go.Proofs.YtgfnlhigmncdmaaW.PrintLast Go.Proofs.YtgfnlhigmncdmaaW.PrintMore

theorem quot_lt {r0 p c den y rest : Int} (h : r0 * p + c = den * y + rest) (hr : r0 < den) (hc : c < p) (h0 : 0 ≤ rest) (hp : 0 < p) (hd : 0 < den) : y < p := by
  by_cases hy : y < p
  · exact hy
  · have h1 : den * p ≤ den * y := Int.mul_le_mul_of_nonneg_left (by omega) (by omega)
    have h2 : (r0 + 1) * p ≤ den * p := Int.mul_le_mul_of_nonneg_right (by omega) (by omega)
    rw [Int.add_mul] at h2
    generalize r0 * p = m1 at *
    generalize den * p = m2 at *
    generalize den * y = m3 at *
    omega
theorem bit_step0 {r0 p c den y rest b : Int} (h : r0 * p + c = den * y + rest) : r0 * (2 * p) + (2 * c + b) = den * (2 * y) + (2 * rest + b) := by
  rw [show r0 * (2 * p) = 2 * (r0 * p) from Int.mul_left_comm .., show den * (2 * y) = 2 * (den * y) from Int.mul_left_comm ..]
  generalize r0 * p = m1 at *
  generalize den * y = m3 at *
  omega
theorem bit_step1 {r0 p c den y rest b : Int} (h : r0 * p + c = den * y + rest) : r0 * (2 * p) + (2 * c + b) = den * (2 * y + 1) + (2 * rest + b - den) := by
  rw [bit_step0 (b := b) h, Int.mul_add]
  omega
theorem half_div {d q : Int} (h : 0 ≤ d) (hq : 0 < q) : d / q = 2 * (d / (q * 2)) + d / q % 2 := by
  have : d / (q * 2) = d / q / 2 := (Int.ediv_ediv_of_nonneg (Int.le_of_lt hq)).symm
  rw [this]
  have := Int.mul_ediv_add_emod (d / q) 2
  omega
theorem u64w {x : Int} (h0 : 0 ≤ x) (h1 : x < 18446744073709551616) : IntKind.u64.wrap x = x := wu_in h0 h1
theorem shr_of {x : Int} {m : Nat} (hm : m ≤ 16) : shr .i64 x (IntKind.u64.wrap (m : Int)) = x / 2 ^ m := by
  rw [u64w (by omega) (by omega)]
  unfold shr
  have : min (m : Int).toNat IntKind.i64.bits = m := by
    have : IntKind.i64.bits = 64 := rfl
    omega
  rw [this]
theorem two_pow_pos (m : Nat) : (0 : Int) < 2 ^ m := Int.pow_pos (by decide)
theorem two_pow_ge (m : Nat) : (1 : Int) ≤ 2 ^ m := by have := two_pow_pos m; omega
theorem p_half {p : Int} {m : Nat} (h : p * 2 ^ (m + 1) = 65536) (hp : 0 < p) : p ≤ 32768 := by
  rw [Int.pow_succ, ← Int.mul_assoc] at h
  have h2 : p * 1 ≤ p * 2 ^ m := Int.mul_le_mul_of_nonneg_left (two_pow_ge m) (by omega)
  generalize p * 2 ^ m = z at *
  omega
theorem div_lt_p {d p : Int} {m : Nat} (h : p * 2 ^ m = 65536) (hd : d < 65536) : d / 2 ^ m < p := by
  apply Int.ediv_lt_of_lt_mul (two_pow_pos m)
  omega
theorem over_l1 {a : List Int} {s : Bool} {den : Int} (hd0 : 0 < den) (hd1 : den ≤ 9223372036854775807) (ha : Dig a) (hla : a.length < 1000) (i : Nat) (hi : i < a.length) (r0 : Int) (h1 : r0 < den) (m : Nat) :
    ∀ (k : Nat) (q : List Int) (rest p : Int), m ≤ 16 → q.length = a.length → Dig q → 0 ≤ rest → rest < den → 0 < p → p * 2 ^ m = 65536 → r0 * p + dg a i / 2 ^ m = den * dg q i + rest → m + 1 ≤ k →
      ∃ q' rest', capstanref01_Over.l1 k den q rest (i : Int) ((m : Int) - 1) s a = capstanref01_Over.l0 (k - m - 1) den q' rest' ((i : Int) - 1) s a ∧ q'.length = a.length ∧ Dig q' ∧ 0 ≤ rest' ∧ rest' < den ∧ (∀ j, j ≠ i → dg q' j = dg q j) ∧ q'.drop (i + 1) = q.drop (i + 1) ∧ r0 * 65536 + dg a i = den * dg q' i + rest' := by
  induction m with
  | zero =>
    intro k q rest p hm hl hq g0 g1 hp hpm hv hk
    obtain ⟨k, rfl⟩ : ∃ m, k = m + 1 := ⟨k - 1, by omega⟩
    rw [Int.pow_zero, Int.mul_one] at hpm
    subst hpm
    rw [Int.pow_zero, Int.ediv_one] at hv
    have e : wrap64 ((i : Int) - 1) = (i : Int) - 1 := w64s (by omega) (by omega)
    refine ⟨q, rest, ?_, hl, hq, g0, g1, fun _ _ => rfl, rfl, hv⟩
    simp only [capstanref01_Over.l1]
    rw [if_neg (by decide), e]
    rfl
  | succ m ih =>
    intro k q rest p hm hl hq g0 g1 hp hpm hv hk
    obtain ⟨k, rfl⟩ : ∃ m, k = m + 1 := ⟨k - 1, by omega⟩
    obtain ⟨x0, x1⟩ := ha.dg i
    obtain ⟨y0, y1⟩ := hq.dg i
    have hp2 := p_half hpm hp
    have hc := div_lt_p hpm x1
    have hy : dg q i < p := quot_lt hv h1 hc g0 hp hd0
    have hb : dg a i / 2 ^ m = 2 * (dg a i / 2 ^ (m + 1)) + dg a i / 2 ^ m % 2 := by
      have := half_div x0 (two_pow_pos m)
      rw [← Int.pow_succ] at this
      exact this
    have hpm' : 2 * p * 2 ^ m = 65536 := by
      rw [Int.pow_succ] at hpm
      rw [← hpm, Int.mul_comm 2 p, Int.mul_assoc, Int.mul_comm (2 : Int)]
    have b0 : 0 ≤ dg a i / 2 ^ m % 2 := Int.emod_nonneg _ (by decide)
    have b1 : dg a i / 2 ^ m % 2 < 2 := Int.emod_lt_of_pos _ (by decide)
    have c0 : 0 ≤ dg a i / 2 ^ m := Int.ediv_nonneg x0 (Int.le_of_lt (two_pow_pos m))
    have e8 : ((m + 1 : Nat) : Int) - 1 = (m : Int) := by omega
    have n1 : 0 ≤ IntKind.u64.wrap (m : Int) := by rw [u64w (by omega) (by omega)]; omega
    have n2 : (i : Int) < (q.length : Int) := by clear hv; omega
    have n3 : (i : Int) < (a.length : Int) := by clear hv; omega
    have n4 : i < q.length := by clear hv; omega
    have ed : wrap64 ((m : Int) - 1) = (m : Int) - 1 := w64s (by omega) (by omega)
    have hr0 := bit_step0 (b := dg a i / 2 ^ m % 2) hv
    have hr1 := bit_step1 (b := dg a i / 2 ^ m % 2) hv
    rw [← hb] at hr0 hr1
    clear hb hc hv hpm
    generalize hB : dg a i / 2 ^ m % 2 = B at *
    have w1 : IntKind.u64.wrap (2 * rest) = 2 * rest := u64w (by omega) (by omega)
    have w2 : IntKind.u64.wrap B = B := u64w (by omega) (by omega)
    have w3 : IntKind.u64.wrap (2 * rest + B) = 2 * rest + B := u64w (by omega) (by omega)
    have w4 : IntKind.u64.wrap den = den := u64w (by omega) (by omega)
    have w5 : wrap64 (2 * dg q i) = 2 * dg q i := w64s (by omega) (by omega)
    have w6 : wrap64 (2 * dg q i + 1) = 2 * dg q i + 1 := w64s (by omega) (by omega)
    have dd : dg (q.set i (2 * dg q i)) i = 2 * dg q i := by rw [dg_set n4, if_pos rfl]
    simp only [capstanref01_Over.l1]
    rw [e8, if_pos (Int.natCast_nonneg m), if_pos (Int.natCast_nonneg i), if_pos n3, if_pos n1, if_pos n2, rd_dg, rd_dg, shr_of (by omega), Int.tmod_eq_emod_of_nonneg c0, hB, w1, w2, w3, w4, w5, ed, Int.toNat_natCast]
    simp only [Option.bind_some]
    rw [rd_dg, dd, w6, List.set_set]
    by_cases hge : 2 * rest + B ≥ den
    · rw [if_pos hge, u64w (x := 2 * rest + B - den) (by omega) (by omega)]
      have dd1 : dg (q.set i (2 * dg q i + 1)) i = 2 * dg q i + 1 := by rw [dg_set n4, if_pos rfl]
      obtain ⟨q', rest', f1, f2, f3, f4, f5, f6, f7, f8⟩ := ih k (q.set i (2 * dg q i + 1)) (2 * rest + B - den) (2 * p) (by omega) (by rw [List.length_set, hl]) (hq.set (by omega) (by omega)) (by omega) (by omega) (by omega) hpm' (by rw [dd1]; exact hr1) (by omega)
      refine ⟨q', rest', ?_, f2, f3, f4, f5, ?_, ?_, f8⟩
      · rw [f1, show k + 1 - (m + 1) - 1 = k - m - 1 by omega]
      · intro j hj; rw [f6 j hj, dg_set n4, if_neg (fun h => hj h.symm)]
      · rw [f7, set_drop (by omega)]
    · rw [if_neg hge]
      obtain ⟨q', rest', f1, f2, f3, f4, f5, f6, f7, f8⟩ := ih k (q.set i (2 * dg q i)) (2 * rest + B) (2 * p) (by omega) (by rw [List.length_set, hl]) (hq.set (by omega) (by omega)) (by omega) (by omega) (by omega) hpm' (by rw [dd]; exact hr0) (by omega)
      refine ⟨q', rest', ?_, f2, f3, f4, f5, ?_, ?_, f8⟩
      · rw [f1, show k + 1 - (m + 1) - 1 = k - m - 1 by omega]
      · intro j hj; rw [f6 j hj, dg_set n4, if_neg (fun h => hj h.symm)]
      · rw [f7, set_drop (by omega)]

theorem floor_pos {A den Q r : Int} (h : A = den * Q + r) (r0 : 0 ≤ r) (r1 : r < den) : A / den = Q := by
  have hd : den ≠ 0 := by omega
  rw [h, Int.add_comm, Int.add_mul_ediv_left _ _ hd, Int.ediv_eq_zero_of_lt r0 r1]
  omega
theorem floor_neg {A den Q r : Int} (h : A = den * Q + r) (r0 : 0 < r) (r1 : r < den) : -A / den = -(Q + 1) := by
  refine floor_pos (r := den - r) ?_ (by omega) (by omega)
  rw [h, Int.mul_neg, Int.mul_add]
  omega
theorem floor_neg0 {A den Q : Int} (h : A = den * Q) (hd : 0 < den) : -A / den = -Q := by
  refine floor_pos (r := 0) ?_ (by omega) (by omega)
  rw [h, Int.mul_neg]
  omega
theorem over_cut {k : Nat} {a : List Int} {s : Bool} {den : Int} (hd0 : 0 < den) (hla : a.length < 1000) {q : List Int} {rest : Int} (hl : q.length = a.length) (hq : Dig q) (g0 : 0 ≤ rest) (g1 : rest < den) (hv : val a = den * val q + rest) (hk : 4 * a.length + 30 ≤ k) :
    ∃ d, ((capstanref01_trim.f k q).bind fun t224 => (if s = true then (if rest > 0 then ((capstanref01_sum.f k t224 (([1] : List Int))).bind fun t230 => (some (s, t230))) else (some (s, t224))) else (some (s, t224)))) = some (s, d) ∧ sval s d = sval s a / den ∧ Dig d ∧ Nrm d ∧ d.length ≤ a.length + 2 := by
  obtain ⟨t, t1, t2, t3, t4, t5⟩ := trim_f hq (by omega) k (by omega)
  rw [t1]
  simp only [Option.bind_some]
  rw [← t2] at hv
  cases s with
  | false =>
    rw [if_neg (by decide)]
    exact ⟨t, rfl, (floor_pos hv g0 g1).symm, t3, t4, by omega⟩
  | true =>
    rw [if_pos rfl]
    by_cases hr : rest > 0
    · rw [if_pos hr]
      obtain ⟨u, u1, u2, u3, u4, u5⟩ := sum_f (b := [1]) t3 (by intro x hx; rw [List.mem_singleton.1 hx]; decide) (by omega) (by decide) k (by simp; omega)
      rw [u1]
      refine ⟨u, rfl, ?_, u3, u4, by simp at u5; omega⟩
      have e : val ([1] : List Int) = 1 := by decide
      rw [e] at u2
      show -val u = -val a / den
      rw [u2]
      exact (floor_neg hv hr g1).symm
    · rw [if_neg hr]
      have : rest = 0 := by clear hv; omega
      subst this
      exact ⟨t, rfl, (floor_neg0 (by rw [hv, Int.add_zero]) hd0).symm, t3, t4, by omega⟩
theorem drop_step {A den Q rest x y R : Int} (h : A = den * Q + rest) (h2 : rest * 65536 + x = den * y + R) : x + 65536 * A = den * (y + 65536 * Q) + R := by
  rw [h, Int.mul_add, Int.mul_add, Int.mul_left_comm den 65536 Q]
  generalize den * Q = m1 at *
  generalize den * y = m2 at *
  omega
theorem over_l0 {a : List Int} {s : Bool} {den : Int} (hd0 : 0 < den) (hd1 : den ≤ 9223372036854775807) (ha : Dig a) (hla : a.length < 1000) (n : Nat) :
    ∀ (k : Nat) (q : List Int) (rest : Int), n ≤ a.length → q.length = a.length → Dig q → 0 ≤ rest → rest < den → (∀ j, j < n → dg q j = 0) → val (a.drop n) = den * val (q.drop n) + rest → 18 * n + 4 * a.length + 32 ≤ k →
      ∃ d, capstanref01_Over.l0 k den q rest ((n : Int) - 1) s a = some (s, d) ∧ sval s d = sval s a / den ∧ Dig d ∧ Nrm d ∧ d.length ≤ a.length + 2 := by
  induction n with
  | zero =>
    intro k q rest hn hl hq g0 g1 hz hv hk
    obtain ⟨k, rfl⟩ : ∃ m, k = m + 1 := ⟨k - 1, by omega⟩
    simp only [capstanref01_Over.l0]
    rw [if_neg (by decide)]
    rw [List.drop_zero, List.drop_zero] at hv
    exact over_cut hd0 hla hl hq g0 g1 hv (by clear hv; omega)
  | succ n ih =>
    intro k q rest hn hl hq g0 g1 hz hv hk
    obtain ⟨k, rfl⟩ : ∃ m, k = m + 1 := ⟨k - 1, by omega⟩
    have e : ((n + 1 : Nat) : Int) - 1 = (n : Int) := by omega
    simp only [capstanref01_Over.l0]
    rw [e, if_pos (Int.natCast_nonneg n)]
    obtain ⟨x0, x1⟩ := ha.dg n
    obtain ⟨q', rest', f1, f2, f3, f4, f5, f6, f7, f8⟩ := over_l1 (s := s) hd0 hd1 ha hla n (by omega) rest g1 16 k q rest 1 (by decide) hl hq g0 g1 (by decide) (by decide) (by
      rw [hz n (by omega), Int.mul_one, Int.mul_zero]
      have : dg a n / 2 ^ 16 = 0 := Int.ediv_eq_zero_of_lt x0 x1
      omega) (by clear hv; omega)
    have e2 : ((16 : Nat) : Int) - 1 = 15 := by decide
    rw [e2] at f1
    rw [f1]
    refine ih (k - 16 - 1) q' rest' (by clear hv; omega) f2 f3 f4 f5 (fun j hj => by rw [f6 j (by clear hv; omega)]; exact hz j (by clear hv; omega)) ?_ (by clear hv; omega)
    rw [val_drop a n, val_drop q' n, f7]
    exact drop_step hv f8
/-- Over. -/
theorem over_f {a : List Int} {s : Bool} {den : Int} (hd0 : 0 < den) (hd1 : den ≤ 9223372036854775807) (ha : Dig a) (hla : a.length < 1000) (k : Nat) (hk : 22 * a.length + 32 ≤ k) :
    ∃ d, capstanref01_Over.f k s a den = some (s, d) ∧ sval s d = sval s a / den ∧ Dig d ∧ Nrm d ∧ d.length ≤ a.length + 2 := by
  unfold capstanref01_Over.f
  rw [if_pos (Int.natCast_nonneg _), Int.toNat_natCast, if_pos (by omega), w64s (by omega) (by omega)]
  refine over_l0 hd0 hd1 ha hla a.length k _ 0 (Nat.le_refl _) (by simp) (Dig.zeros _) (by decide) hd0 (fun j _ => dg_zeros _ _) ?_ (by omega)
  rw [List.drop_of_length_le (Nat.le_refl _), List.drop_of_length_le (by simp)]
  simp [val]
end Go.Proofs.Ytgfnlhigmncdmaa.Big

end
