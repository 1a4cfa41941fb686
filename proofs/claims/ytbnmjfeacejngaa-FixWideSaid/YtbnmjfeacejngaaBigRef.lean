/-
  The reference's lists of digits: what its functions on sizes come to.
-/
import Derived.Test.YtbnmjfeacejngaaXRef01x
import Derived.Test.YtbnmjfeacejngaaBigMath
import Derived.Test.YtbnmjfeacejngaaFixNum
namespace Go.Proofs.Ytbnmjfeacejngaa.Big
open Go.RowKit Go.Proofs.Ytbnmjfeacejngaa Go.Proofs.Ytbnmjfeacejngaa.XRef01 Go.Proofs.YtbnmjfeacejngaaW.PrintWords Go.Proofs.YtbnmjfeacejngaaW.PrintLast Go.Proofs.YtbnmjfeacejngaaW.PrintMore

theorem w64s {x : Int} (h0 : -9223372036854775808 ≤ x) (h1 : x ≤ 9223372036854775807) : wrap64 x = x := w64_in ⟨h0, h1⟩
theorem rd_dg (l : List Int) (i : Nat) : rd l (i : Int) = dg l i := by unfold rd dg; rw [Int.toNat_natCast]

theorem trim_l0 {l : List Int} (hl : l.length < 4611686018427387904) : ∀ (n k : Nat), n ≤ l.length → n < k →
    ∃ m, m ≤ n ∧ capstanref01_trim.l0 k l (n : Int) = some (l.take m) ∧ val (l.take m) = val (l.take n) ∧ (m = 0 ∨ dg l (m - 1) ≠ 0) := by
  intro n
  induction n with
  | zero =>
    intro k hn hk
    obtain ⟨k, rfl⟩ : ∃ m, k = m + 1 := ⟨k - 1, by omega⟩
    refine ⟨0, Nat.le_refl _, ?_, rfl, .inl rfl⟩
    simp only [capstanref01_trim.l0]
    rw [if_neg (by omega), if_pos (by omega), if_pos (by omega), Int.toNat_natCast]
  | succ n ih =>
    intro k hn hk
    obtain ⟨k, rfl⟩ : ∃ m, k = m + 1 := ⟨k - 1, by omega⟩
    have e : wrap64 (((n + 1 : Nat) : Int) - 1) = (n : Int) := by rw [w64s (by omega) (by omega)]; omega
    by_cases hz : dg l n = 0
    · obtain ⟨m, h1, h2, h3, h4⟩ := ih k (by omega) (by omega)
      refine ⟨m, by omega, ?_, ?_, h4⟩
      · simp only [capstanref01_trim.l0]
        rw [if_pos (by omega), e, if_pos (by omega), if_pos (by omega), rd_dg, if_pos hz]
        exact h2
      · rw [h3, val_take_succ, hz, Int.mul_zero, Int.add_zero]
    · refine ⟨n + 1, Nat.le_refl _, ?_, rfl, .inr hz⟩
      simp only [capstanref01_trim.l0]
      rw [if_pos (by omega), e, if_pos (by omega), if_pos (by omega), rd_dg, if_neg hz, if_pos (by omega), if_pos (by omega), Int.toNat_natCast]
/-- trim. -/
theorem trim_f {l : List Int} (hd : Dig l) (hl : l.length < 4611686018427387904) (k : Nat) (hk : l.length < k) :
    ∃ r, capstanref01_trim.f k l = some r ∧ val r = val l ∧ Dig r ∧ Nrm r ∧ r.length ≤ l.length := by
  obtain ⟨m, h1, h2, h3, h4⟩ := trim_l0 hl l.length k (Nat.le_refl _) hk
  refine ⟨l.take m, h2, by rw [h3, List.take_length], hd.take m, ?_, by rw [List.length_take]; omega⟩
  rcases h4 with rfl | h4
  · exact .inl rfl
  · by_cases hm : m = 0
    · subst hm; exact .inl rfl
    · refine .inr ?_
      rw [List.length_take_of_le h1]
      have e : dg (l.take m) (m - 1) = dg l (m - 1) := by
        unfold dg
        rw [List.getD_eq_getElem?_getD, List.getD_eq_getElem?_getD, List.getElem?_take, if_pos (by omega)]
      rwa [e]

theorem at_f (l : List Int) (i : Nat) : capstanref01_at.f l (i : Int) = some (dg l i) := by
  unfold capstanref01_at.f
  by_cases h : i < l.length
  · rw [if_pos (by omega), if_pos (by omega), rd_dg]
  · rw [if_neg (by omega), dg_beyond (by omega)]

theorem mx_len (a b : List Int) : mx (a.length : Int) (b.length : Int) = ((max a.length b.length : Nat) : Int) := by unfold mx; split <;> omega
/-- sum. -/
theorem sum_l0 {a b : List Int} (ha : Dig a) (hb : Dig b) (hla : a.length < 17592186044415) (hlb : b.length < 17592186044415) (n : Nat) :
    ∀ (k i : Nat) (r : List Int) (c : Int), max a.length b.length + 1 = i + n → r.length = i → Dig r → (c = 0 ∨ c = 1) → (n = 0 → c = 0) → val r + P i * c = val (a.take i) + val (b.take i) → 2 * n + max a.length b.length + 20 ≤ k →
      ∃ s, capstanref01_sum.l0 k a b r c (i : Int) = some s ∧ val s = val a + val b ∧ Dig s ∧ Nrm s ∧ s.length ≤ max a.length b.length + 1 := by
  induction n with
  | zero =>
    intro k i r c hi hr hd hc hc0 hv hk
    obtain ⟨k, rfl⟩ : ∃ m, k = m + 2 := ⟨k - 2, by omega⟩
    have hc' := hc0 rfl
    subst hc'
    obtain ⟨s, s1, s2, s3, s4, s5⟩ := trim_f hd (by omega) k (by omega)
    rw [Int.mul_zero, Int.add_zero, val_take_all (by omega), val_take_all (by omega)] at hv
    refine ⟨s, ?_, by omega, s3, s4, by omega⟩
    simp only [capstanref01_sum.l0]
    rw [mx_len, if_neg (by omega)]
    simp only [capstanref01_sum.j1]
    rw [if_neg (by decide), s1]
    rfl
  | succ n ih =>
    intro k i r c hi hr hd hc hc0 hv hk
    obtain ⟨k, rfl⟩ : ∃ m, k = m + 2 := ⟨k - 2, by omega⟩
    have go : capstanref01_sum.j1 (k + 1) a b r c (i : Int) true = capstanref01_sum.l0 k a b (r ++ [Int.tmod (wrap64 (wrap64 (dg a i + dg b i) + c)) 65536]) (wrap64 (Int.tdiv (wrap64 (wrap64 (dg a i + dg b i) + c)) 65536)) ((i + 1 : Nat) : Int) := by
      simp only [capstanref01_sum.j1]
      rw [if_true, at_f, at_f]
      simp only [Option.bind_some]
      rw [if_pos (by omega), show wrap64 ((i : Int) + 1) = ((i + 1 : Nat) : Int) by rw [w64s (by omega) (by omega)]; omega]
    have step : ∃ s, capstanref01_sum.j1 (k + 1) a b r c (i : Int) true = some s ∧ val s = val a + val b ∧ Dig s ∧ Nrm s ∧ s.length ≤ max a.length b.length + 1 := by
      obtain ⟨x0, x1⟩ := ha.dg i
      obtain ⟨y0, y1⟩ := hb.dg i
      have e1 : wrap64 (dg a i + dg b i) = dg a i + dg b i := w64s (by omega) (by omega)
      have e2 : wrap64 (dg a i + dg b i + c) = dg a i + dg b i + c := w64s (by omega) (by omega)
      have e3 : wrap64 ((dg a i + dg b i + c) / 65536) = (dg a i + dg b i + c) / 65536 := w64s (by omega) (by omega)
      rw [go, e1, e2, Int.tdiv_eq_ediv_of_nonneg (by omega), Int.tmod_eq_emod_of_nonneg (by omega), e3]
      have c0 : 0 ≤ (dg a i + dg b i + c) / 65536 := by omega
      have c1 : (dg a i + dg b i + c) / 65536 ≤ 1 := by omega
      refine ih k (i + 1) _ _ (by omega) (by simp [hr]) (hd.snoc (by omega) (by omega)) (by clear e1 e2 e3 go; omega) ?_ ?_ (by omega)
      · intro hn
        subst hn
        have q1 : dg a i = 0 := dg_beyond (by omega)
        have q2 : dg b i = 0 := dg_beyond (by omega)
        omega
      · rw [val_snoc, hr, val_take_succ, val_take_succ, P_succ]
        have hs : dg a i + dg b i + c = (dg a i + dg b i + c) % 65536 + 65536 * ((dg a i + dg b i + c) / 65536) := by omega
        generalize (dg a i + dg b i + c) % 65536 = s0 at *
        generalize (dg a i + dg b i + c) / 65536 = s1 at *
        have hs2 : P i * (dg a i + dg b i + c) = P i * (s0 + 65536 * s1) := by rw [hs]
        rw [Int.mul_add, Int.mul_add, Int.mul_add, ← Int.mul_assoc] at hs2
        omega
    simp only [capstanref01_sum.l0]
    rw [mx_len]
    by_cases hlt : (i : Int) < ((max a.length b.length : Nat) : Int)
    · rw [if_pos hlt]
      exact step
    · rw [if_neg hlt]
      by_cases hc1 : c > 0
      · rw [decide_eq_true hc1]
        exact step
      · have hc' : c = 0 := by omega
        subst hc'
        have hi' : a.length ≤ i ∧ b.length ≤ i := by omega
        obtain ⟨s, s1, s2, s3, s4, s5⟩ := trim_f hd (by omega) k (by omega)
        rw [Int.mul_zero, Int.add_zero, val_take_all hi'.1, val_take_all hi'.2] at hv
        refine ⟨s, ?_, by omega, s3, s4, by omega⟩
        rw [decide_eq_false (by decide)]
        simp only [capstanref01_sum.j1]
        rw [if_neg (by decide), s1]
        rfl
theorem sum_f {a b : List Int} (ha : Dig a) (hb : Dig b) (hla : a.length < 17592186044415) (hlb : b.length < 17592186044415) (k : Nat) (hk : 3 * max a.length b.length + 22 ≤ k) :
    ∃ s, capstanref01_sum.f k a b = some s ∧ val s = val a + val b ∧ Dig s ∧ Nrm s ∧ s.length ≤ max a.length b.length + 1 :=
  sum_l0 ha hb hla hlb (max a.length b.length + 1) k 0 [] 0 (by omega) rfl Dig.nil (.inl rfl) (by omega) (by simp [val]) (by omega)

/-- order. -/
theorem order_l0 {a b : List Int} (ha : Dig a) (hb : Dig b) (hl : a.length = b.length) (hla : a.length < 17592186044415) : ∀ (n k : Nat), n ≤ a.length → n < k → val a - val b = val (a.take n) - val (b.take n) →
    ∃ r, capstanref01_order.l0 k a b ((n : Int) - 1) = some r ∧ (0 ≤ r ↔ val b ≤ val a) := by
  intro n
  induction n with
  | zero =>
    intro k hn hk hv
    obtain ⟨k, rfl⟩ : ∃ m, k = m + 1 := ⟨k - 1, by omega⟩
    refine ⟨0, ?_, ?_⟩
    · simp only [capstanref01_order.l0]
      rw [if_neg (by omega)]
    · simp [val] at hv
      omega
  | succ n ih =>
    intro k hn hk hv
    obtain ⟨k, rfl⟩ : ∃ m, k = m + 1 := ⟨k - 1, by omega⟩
    have e : ((n + 1 : Nat) : Int) - 1 = (n : Int) := by omega
    have e2 : wrap64 ((n : Int) - 1) = (n : Int) - 1 := w64s (by omega) (by omega)
    rw [val_take_succ, val_take_succ] at hv
    obtain ⟨x0, x1⟩ := val_range (ha.take n)
    obtain ⟨y0, y1⟩ := val_range (hb.take n)
    rw [List.length_take_of_le (by omega)] at x1 y1
    simp only [capstanref01_order.l0]
    rw [e, if_pos (by omega), if_pos (by omega), if_pos (by omega), if_pos (by omega), rd_dg, rd_dg]
    by_cases h1 : dg a n < dg b n
    · rw [if_pos h1]
      refine ⟨-1, rfl, ?_⟩
      have : P n * (dg a n + 1) ≤ P n * dg b n := Int.mul_le_mul_of_nonneg_left (by omega) (Int.le_of_lt (P_pos n))
      rw [Int.mul_add, Int.mul_one] at this
      omega
    · rw [if_neg h1]
      by_cases h2 : dg a n > dg b n
      · rw [if_pos h2]
        refine ⟨1, rfl, ?_⟩
        have : P n * (dg b n + 1) ≤ P n * dg a n := Int.mul_le_mul_of_nonneg_left (by omega) (Int.le_of_lt (P_pos n))
        rw [Int.mul_add, Int.mul_one] at this
        omega
      · rw [if_neg h2, e2]
        have h3 : dg a n = dg b n := by omega
        rw [h3] at hv
        exact ih k (by omega) (by omega) (by omega)
theorem order_f {a b : List Int} (ha : Dig a) (hb : Dig b) (na : Nrm a) (nb : Nrm b) (hla : a.length < 17592186044415) (hlb : b.length < 17592186044415) (k : Nat) (hk : a.length < k) :
    ∃ r, capstanref01_order.f k a b = some r ∧ (0 ≤ r ↔ val b ≤ val a) := by
  unfold capstanref01_order.f
  by_cases h : a.length = b.length
  · rw [if_pos (by omega), w64s (by omega) (by omega)]
    exact order_l0 ha hb h hla a.length k (Nat.le_refl _) hk (by rw [List.take_length, h, List.take_length])
  · rw [if_neg (by omega)]
    by_cases h2 : a.length < b.length
    · rw [if_pos (by omega)]
      have := nrm_len ha hb nb h2
      exact ⟨-1, rfl, by omega⟩
    · rw [if_neg (by omega)]
      have := nrm_len hb ha na (by omega)
      exact ⟨1, rfl, by omega⟩

/-- less. -/
theorem less_step {p u v x y r c s : Int} (hv : r - p * c = u - v) (hs : s = x - y - c + 65536) : r + p * s - p * 65536 * 1 = u + p * x - (v + p * y) := by
  subst hs
  rw [Int.mul_add, Int.mul_sub, Int.mul_sub]
  omega
theorem less_step0 {p u v x y r c s : Int} (hv : r - p * c = u - v) (hs : s = x - y - c) : r + p * s - p * 65536 * 0 = u + p * x - (v + p * y) := by
  subst hs
  rw [Int.mul_sub, Int.mul_sub]
  omega
theorem less_bnd {x y c : Int} (x0 : 0 ≤ x) (x1 : x < 65536) (y0 : 0 ≤ y) (y1 : y < 65536) (hc : c = 0 ∨ c = 1) : -65535 ≤ x - y ∧ x - y ≤ 65535 ∧ 0 ≤ x - y - c + 65536 ∧ x - y - c ≤ 65535 := by omega
theorem less_l0 {a b : List Int} (ha : Dig a) (hb : Dig b) (hla : a.length < 17592186044415) (hlb : b.length ≤ a.length) (hge : val b ≤ val a) (n : Nat) :
    ∀ (k i : Nat) (r : List Int) (c : Int), a.length = i + n → r.length = i → Dig r → (c = 0 ∨ c = 1) → val r - P i * c = val (a.take i) - val (b.take i) → n + a.length + 2 ≤ k →
      ∃ s, capstanref01_less.l0 k a b r c (i : Int) = some s ∧ val s = val a - val b ∧ Dig s ∧ Nrm s ∧ s.length ≤ a.length := by
  induction n with
  | zero =>
    intro k i r c hi hr hd hc hv hk
    obtain ⟨k, rfl⟩ : ∃ m, k = m + 1 := ⟨k - 1, by omega⟩
    obtain ⟨s, s1, s2, s3, s4, s5⟩ := trim_f hd (by omega) k (by omega)
    rw [val_take_all (by omega), val_take_all (by omega)] at hv
    have hR := (val_range hd).2
    rw [hr] at hR
    have hc0 : c = 0 := by
      rcases hc with h | h
      · exact h
      · subst h; omega
    subst hc0
    refine ⟨s, ?_, by omega, s3, s4, by omega⟩
    simp only [capstanref01_less.l0]
    rw [if_neg (by omega), s1]
    rfl
  | succ n ih =>
    intro k i r c hi hr hd hc hv hk
    obtain ⟨k, rfl⟩ : ∃ m, k = m + 1 := ⟨k - 1, by clear hv; omega⟩
    have g0 : (i : Int) < (a.length : Int) := by clear hv hge; omega
    have g1 : 0 ≤ (i : Int) := Int.natCast_nonneg i
    have g2 : r.length < 17592186044416 := by clear hv hge; omega
    have g3 : a.length = i + 1 + n := by clear hv hge; omega
    have g4 : n + a.length + 2 ≤ k := by clear hv hge; omega
    have e3 : wrap64 ((i : Int) + 1) = ((i + 1 : Nat) : Int) := by rw [w64s (by clear hv hge; omega) (by clear hv hge; omega)]; rfl
    obtain ⟨x0, x1⟩ := ha.dg i
    obtain ⟨y0, y1⟩ := hb.dg i
    obtain ⟨b0, b1, b2, b3⟩ := less_bnd x0 x1 y0 y1 hc
    have v1 := val_take_succ a i
    have v2 := val_take_succ b i
    simp only [capstanref01_less.l0]
    rw [if_pos g0, if_pos g1, at_f]
    simp only [Option.bind_some]
    rw [rd_dg, w64s (x := dg a i - dg b i) (by clear hv hge v1 v2; omega) (by clear hv hge v1 v2; omega), w64s (x := dg a i - dg b i - c) (by clear hv hge v1 v2; omega) (by clear hv hge v1 v2; omega), w64s (x := dg a i - dg b i - c + 65536) (by clear hv hge v1 v2; omega) (by clear hv hge v1 v2; omega), e3]
    by_cases hneg : dg a i - dg b i - c < 0
    · rw [if_pos hneg, if_pos g2]
      refine ih k (i + 1) _ _ g3 (by simp [hr]) (hd.snoc b2 (by clear hv hge v1 v2 ih; omega)) (.inr rfl) ?_ g4
      rw [val_snoc, hr, v1, v2, P_succ]
      exact less_step hv rfl
    · rw [if_neg hneg, if_pos g2]
      refine ih k (i + 1) _ _ g3 (by simp [hr]) (hd.snoc (by clear hv hge v1 v2 ih; omega) (by clear hv hge v1 v2 ih; omega)) (.inl rfl) ?_ g4
      rw [val_snoc, hr, v1, v2, P_succ]
      exact less_step0 hv rfl
theorem less_f {a b : List Int} (ha : Dig a) (hb : Dig b) (hla : a.length < 17592186044415) (hlb : b.length ≤ a.length) (hge : val b ≤ val a) (k : Nat) (hk : 2 * a.length + 2 ≤ k) :
    ∃ s, capstanref01_less.f k a b = some s ∧ val s = val a - val b ∧ Dig s ∧ Nrm s ∧ s.length ≤ a.length :=
  less_l0 ha hb hla hlb hge a.length k 0 [] 0 (by omega) rfl Dig.nil (.inl rfl) (by simp [val]) (by omega)
theorem nrm_le {a b : List Int} (ha : Dig a) (hb : Dig b) (na : Nrm a) (h : val a ≤ val b) : a.length ≤ b.length := by
  by_cases hl : a.length ≤ b.length
  · exact hl
  · have := nrm_len hb ha na (by omega); omega

/-- Plus. -/
theorem plus_f {a b : List Int} {s t : Bool} (ha : Dig a) (hb : Dig b) (na : Nrm a) (nb : Nrm b) (hla : a.length < 17592186044415) (hlb : b.length < 17592186044415) (k : Nat) (hk : 3 * max a.length b.length + 22 ≤ k) :
    ∃ u d, capstanref01_Plus.f k s a t b = some (u, d) ∧ sval u d = sval s a + sval t b ∧ Dig d ∧ Nrm d ∧ d.length ≤ max a.length b.length + 1 := by
  unfold capstanref01_Plus.f
  by_cases hst : s = t
  · subst hst
    obtain ⟨d, d1, d2, d3, d4, d5⟩ := sum_f ha hb hla hlb k hk
    refine ⟨s, d, ?_, ?_, d3, d4, d5⟩
    · rw [if_pos (by simp), d1]; rfl
    · unfold sval; rw [d2]; split <;> omega
  · rw [if_neg (by simpa using hst)]
    obtain ⟨r, r1, r2⟩ := order_f ha hb na nb hla hlb k (by omega)
    rw [r1]
    simp only [Option.bind_some]
    have hts : t = !s := by cases s <;> cases t <;> simp_all
    by_cases hr : r ≥ 0
    · rw [if_pos hr]
      have hle := r2.1 hr
      obtain ⟨d, d1, d2, d3, d4, d5⟩ := less_f ha hb hla (nrm_le hb ha nb hle) hle k (by omega)
      refine ⟨s, d, ?_, ?_, d3, d4, by omega⟩
      · rw [d1]; rfl
      · unfold sval; rw [d2, hts]; cases s <;> simp <;> omega
    · rw [if_neg hr]
      have hle : val a ≤ val b := by
        by_cases h : val b ≤ val a
        · exact absurd (r2.2 h) (by omega)
        · omega
      obtain ⟨d, d1, d2, d3, d4, d5⟩ := less_f hb ha hlb (nrm_le ha hb na hle) hle k (by omega)
      refine ⟨t, d, ?_, ?_, d3, d4, by omega⟩
      · rw [d1]; rfl
      · unfold sval; rw [d2, hts]; cases s <;> simp <;> omega
end Go.Proofs.Ytbnmjfeacejngaa.Big
