/-
  The reference's division of digits, bit by bit: rounded down.
-/
import Derived.Test.YtbnmjfeacejngaaBigRef3
namespace Go.Proofs.Ytbnmjfeacejngaa.Big
open Go.RowKit Go.Proofs.Ytbnmjfeacejngaa Go.Proofs.Ytbnmjfeacejngaa.XRef01 Go.Proofs.YtbnmjfeacejngaaW.PrintWords Go.Proofs.YtbnmjfeacejngaaW.PrintLast Go.Proofs.YtbnmjfeacejngaaW.PrintMore

theorem quot_lt {r0 p c den y rest : Int} (h : r0 * p + c = den * y + rest) (hr : r0 < den) (hc : c < p) (h0 : 0 ≤ rest) (hp : 0 < p) (hd : 0 < den) : y < p := by
  by_cases hy : y < p
  · exact hy
  · have h1 : den * p ≤ den * y := Int.mul_le_mul_of_nonneg_left (by omega) (by omega)
    have h2 : (r0 + 1) * p ≤ den * p := Int.mul_le_mul_of_nonneg_right (by omega) (by omega)
    rw [Int.add_mul] at h2
    generalize r0 * p = m1 at *
    generalize den * p = m2 at *
    generalize den * y = m3 at *
    omega
theorem bit_step0 {r0 p c den y rest b : Int} (h : r0 * p + c = den * y + rest) : r0 * (2 * p) + (2 * c + b) = den * (2 * y) + (2 * rest + b) := by
  rw [show r0 * (2 * p) = 2 * (r0 * p) from Int.mul_left_comm .., show den * (2 * y) = 2 * (den * y) from Int.mul_left_comm ..]
  generalize r0 * p = m1 at *
  generalize den * y = m3 at *
  omega
theorem bit_step1 {r0 p c den y rest b : Int} (h : r0 * p + c = den * y + rest) : r0 * (2 * p) + (2 * c + b) = den * (2 * y + 1) + (2 * rest + b - den) := by
  rw [bit_step0 (b := b) h, Int.mul_add]
  omega
theorem half_div {d q : Int} (h : 0 ≤ d) (hq : 0 < q) : d / q = 2 * (d / (q * 2)) + d / q % 2 := by
  have : d / (q * 2) = d / q / 2 := (Int.ediv_ediv_of_nonneg (Int.le_of_lt hq)).symm
  rw [this]
  have := Int.mul_ediv_add_emod (d / q) 2
  omega
theorem u64w {x : Int} (h0 : 0 ≤ x) (h1 : x < 18446744073709551616) : IntKind.u64.wrap x = x := wu_in h0 h1
theorem shr_of {x : Int} {m : Nat} (hm : m ≤ 16) : shr .i64 x (IntKind.u64.wrap (m : Int)) = x / 2 ^ m := by
  rw [u64w (by omega) (by omega)]
  unfold shr
  have : min (m : Int).toNat IntKind.i64.bits = m := by
    have : IntKind.i64.bits = 64 := rfl
    omega
  rw [this]
theorem two_pow_pos (m : Nat) : (0 : Int) < 2 ^ m := Int.pow_pos (by decide)
theorem two_pow_ge (m : Nat) : (1 : Int) ≤ 2 ^ m := by have := two_pow_pos m; omega
theorem p_half {p : Int} {m : Nat} (h : p * 2 ^ (m + 1) = 65536) (hp : 0 < p) : p ≤ 32768 := by
  rw [Int.pow_succ, ← Int.mul_assoc] at h
  have h2 : p * 1 ≤ p * 2 ^ m := Int.mul_le_mul_of_nonneg_left (two_pow_ge m) (by omega)
  generalize p * 2 ^ m = z at *
  omega
theorem div_lt_p {d p : Int} {m : Nat} (h : p * 2 ^ m = 65536) (hd : d < 65536) : d / 2 ^ m < p := by
  apply Int.ediv_lt_of_lt_mul (two_pow_pos m)
  omega
theorem over_l1 {a : List Int} {s : Bool} {den : Int} (hd0 : 0 < den) (hd1 : den ≤ 9223372036854775807) (ha : Dig a) (hla : a.length < 1000) (i : Nat) (hi : i < a.length) (r0 : Int) (h1 : r0 < den) (m : Nat) :
    ∀ (k : Nat) (q : List Int) (rest p : Int), m ≤ 16 → q.length = a.length → Dig q → 0 ≤ rest → rest < den → 0 < p → p * 2 ^ m = 65536 → r0 * p + dg a i / 2 ^ m = den * dg q i + rest → m + 1 ≤ k →
      ∃ q' rest', capstanref01_Over.l1 k den q rest (i : Int) ((m : Int) - 1) s a = capstanref01_Over.l0 (k - m - 1) den q' rest' ((i : Int) - 1) s a ∧ q'.length = a.length ∧ Dig q' ∧ 0 ≤ rest' ∧ rest' < den ∧ (∀ j, j ≠ i → dg q' j = dg q j) ∧ q'.drop (i + 1) = q.drop (i + 1) ∧ r0 * 65536 + dg a i = den * dg q' i + rest' := by
  induction m with
  | zero =>
    intro k q rest p hm hl hq g0 g1 hp hpm hv hk
    obtain ⟨k, rfl⟩ : ∃ m, k = m + 1 := ⟨k - 1, by omega⟩
    rw [Int.pow_zero, Int.mul_one] at hpm
    subst hpm
    rw [Int.pow_zero, Int.ediv_one] at hv
    have e : wrap64 ((i : Int) - 1) = (i : Int) - 1 := w64s (by omega) (by omega)
    refine ⟨q, rest, ?_, hl, hq, g0, g1, fun _ _ => rfl, rfl, hv⟩
    simp only [capstanref01_Over.l1]
    rw [if_neg (by decide), e]
    rfl
  | succ m ih =>
    intro k q rest p hm hl hq g0 g1 hp hpm hv hk
    obtain ⟨k, rfl⟩ : ∃ m, k = m + 1 := ⟨k - 1, by omega⟩
    obtain ⟨x0, x1⟩ := ha.dg i
    obtain ⟨y0, y1⟩ := hq.dg i
    have hp2 := p_half hpm hp
    have hc := div_lt_p hpm x1
    have hy : dg q i < p := quot_lt hv h1 hc g0 hp hd0
    have hb : dg a i / 2 ^ m = 2 * (dg a i / 2 ^ (m + 1)) + dg a i / 2 ^ m % 2 := by
      have := half_div x0 (two_pow_pos m)
      rw [← Int.pow_succ] at this
      exact this
    have hpm' : 2 * p * 2 ^ m = 65536 := by
      rw [Int.pow_succ] at hpm
      rw [← hpm, Int.mul_comm 2 p, Int.mul_assoc, Int.mul_comm (2 : Int)]
    have b0 : 0 ≤ dg a i / 2 ^ m % 2 := Int.emod_nonneg _ (by decide)
    have b1 : dg a i / 2 ^ m % 2 < 2 := Int.emod_lt_of_pos _ (by decide)
    have c0 : 0 ≤ dg a i / 2 ^ m := Int.ediv_nonneg x0 (Int.le_of_lt (two_pow_pos m))
    have e8 : ((m + 1 : Nat) : Int) - 1 = (m : Int) := by omega
    have n1 : 0 ≤ IntKind.u64.wrap (m : Int) := by rw [u64w (by omega) (by omega)]; omega
    have n2 : (i : Int) < (q.length : Int) := by clear hv; omega
    have n3 : (i : Int) < (a.length : Int) := by clear hv; omega
    have n4 : i < q.length := by clear hv; omega
    have ed : wrap64 ((m : Int) - 1) = (m : Int) - 1 := w64s (by omega) (by omega)
    have hr0 := bit_step0 (b := dg a i / 2 ^ m % 2) hv
    have hr1 := bit_step1 (b := dg a i / 2 ^ m % 2) hv
    rw [← hb] at hr0 hr1
    clear hb hc hv hpm
    generalize hB : dg a i / 2 ^ m % 2 = B at *
    have w1 : IntKind.u64.wrap (2 * rest) = 2 * rest := u64w (by omega) (by omega)
    have w2 : IntKind.u64.wrap B = B := u64w (by omega) (by omega)
    have w3 : IntKind.u64.wrap (2 * rest + B) = 2 * rest + B := u64w (by omega) (by omega)
    have w4 : IntKind.u64.wrap den = den := u64w (by omega) (by omega)
    have w5 : wrap64 (2 * dg q i) = 2 * dg q i := w64s (by omega) (by omega)
    have w6 : wrap64 (2 * dg q i + 1) = 2 * dg q i + 1 := w64s (by omega) (by omega)
    have dd : dg (q.set i (2 * dg q i)) i = 2 * dg q i := by rw [dg_set n4, if_pos rfl]
    simp only [capstanref01_Over.l1]
    rw [e8, if_pos (Int.natCast_nonneg m), if_pos (Int.natCast_nonneg i), if_pos n3, if_pos n1, if_pos n2, rd_dg, rd_dg, shr_of (by omega), Int.tmod_eq_emod_of_nonneg c0, hB, w1, w2, w3, w4, w5, ed, Int.toNat_natCast]
    simp only [Option.bind_some]
    rw [rd_dg, dd, w6, List.set_set]
    by_cases hge : 2 * rest + B ≥ den
    · rw [if_pos hge, u64w (x := 2 * rest + B - den) (by omega) (by omega)]
      have dd1 : dg (q.set i (2 * dg q i + 1)) i = 2 * dg q i + 1 := by rw [dg_set n4, if_pos rfl]
      obtain ⟨q', rest', f1, f2, f3, f4, f5, f6, f7, f8⟩ := ih k (q.set i (2 * dg q i + 1)) (2 * rest + B - den) (2 * p) (by omega) (by rw [List.length_set, hl]) (hq.set (by omega) (by omega)) (by omega) (by omega) (by omega) hpm' (by rw [dd1]; exact hr1) (by omega)
      refine ⟨q', rest', ?_, f2, f3, f4, f5, ?_, ?_, f8⟩
      · rw [f1, show k + 1 - (m + 1) - 1 = k - m - 1 by omega]
      · intro j hj; rw [f6 j hj, dg_set n4, if_neg (fun h => hj h.symm)]
      · rw [f7, set_drop (by omega)]
    · rw [if_neg hge]
      obtain ⟨q', rest', f1, f2, f3, f4, f5, f6, f7, f8⟩ := ih k (q.set i (2 * dg q i)) (2 * rest + B) (2 * p) (by omega) (by rw [List.length_set, hl]) (hq.set (by omega) (by omega)) (by omega) (by omega) (by omega) hpm' (by rw [dd]; exact hr0) (by omega)
      refine ⟨q', rest', ?_, f2, f3, f4, f5, ?_, ?_, f8⟩
      · rw [f1, show k + 1 - (m + 1) - 1 = k - m - 1 by omega]
      · intro j hj; rw [f6 j hj, dg_set n4, if_neg (fun h => hj h.symm)]
      · rw [f7, set_drop (by omega)]

theorem floor_pos {A den Q r : Int} (h : A = den * Q + r) (r0 : 0 ≤ r) (r1 : r < den) : A / den = Q := by
  have hd : den ≠ 0 := by omega
  rw [h, Int.add_comm, Int.add_mul_ediv_left _ _ hd, Int.ediv_eq_zero_of_lt r0 r1]
  omega
theorem floor_neg {A den Q r : Int} (h : A = den * Q + r) (r0 : 0 < r) (r1 : r < den) : -A / den = -(Q + 1) := by
  refine floor_pos (r := den - r) ?_ (by omega) (by omega)
  rw [h, Int.mul_neg, Int.mul_add]
  omega
theorem floor_neg0 {A den Q : Int} (h : A = den * Q) (hd : 0 < den) : -A / den = -Q := by
  refine floor_pos (r := 0) ?_ (by omega) (by omega)
  rw [h, Int.mul_neg]
  omega
theorem over_cut {k : Nat} {a : List Int} {s : Bool} {den : Int} (hd0 : 0 < den) (hla : a.length < 1000) {q : List Int} {rest : Int} (hl : q.length = a.length) (hq : Dig q) (g0 : 0 ≤ rest) (g1 : rest < den) (hv : val a = den * val q + rest) (hk : 4 * a.length + 30 ≤ k) :
    ∃ d, ((capstanref01_trim.f k q).bind fun t224 => (if s = true then (if rest > 0 then ((capstanref01_sum.f k t224 (([1] : List Int))).bind fun t230 => (some (s, t230))) else (some (s, t224))) else (some (s, t224)))) = some (s, d) ∧ sval s d = sval s a / den ∧ Dig d ∧ Nrm d ∧ d.length ≤ a.length + 2 := by
  obtain ⟨t, t1, t2, t3, t4, t5⟩ := trim_f hq (by omega) k (by omega)
  rw [t1]
  simp only [Option.bind_some]
  rw [← t2] at hv
  cases s with
  | false =>
    rw [if_neg (by decide)]
    exact ⟨t, rfl, (floor_pos hv g0 g1).symm, t3, t4, by omega⟩
  | true =>
    rw [if_pos rfl]
    by_cases hr : rest > 0
    · rw [if_pos hr]
      obtain ⟨u, u1, u2, u3, u4, u5⟩ := sum_f (b := [1]) t3 (by intro x hx; rw [List.mem_singleton.1 hx]; decide) (by omega) (by decide) k (by simp; omega)
      rw [u1]
      refine ⟨u, rfl, ?_, u3, u4, by simp at u5; omega⟩
      have e : val ([1] : List Int) = 1 := by decide
      rw [e] at u2
      show -val u = -val a / den
      rw [u2]
      exact (floor_neg hv hr g1).symm
    · rw [if_neg hr]
      have : rest = 0 := by clear hv; omega
      subst this
      exact ⟨t, rfl, (floor_neg0 (by rw [hv, Int.add_zero]) hd0).symm, t3, t4, by omega⟩
theorem drop_step {A den Q rest x y R : Int} (h : A = den * Q + rest) (h2 : rest * 65536 + x = den * y + R) : x + 65536 * A = den * (y + 65536 * Q) + R := by
  rw [h, Int.mul_add, Int.mul_add, Int.mul_left_comm den 65536 Q]
  generalize den * Q = m1 at *
  generalize den * y = m2 at *
  omega
theorem over_l0 {a : List Int} {s : Bool} {den : Int} (hd0 : 0 < den) (hd1 : den ≤ 9223372036854775807) (ha : Dig a) (hla : a.length < 1000) (n : Nat) :
    ∀ (k : Nat) (q : List Int) (rest : Int), n ≤ a.length → q.length = a.length → Dig q → 0 ≤ rest → rest < den → (∀ j, j < n → dg q j = 0) → val (a.drop n) = den * val (q.drop n) + rest → 18 * n + 4 * a.length + 32 ≤ k →
      ∃ d, capstanref01_Over.l0 k den q rest ((n : Int) - 1) s a = some (s, d) ∧ sval s d = sval s a / den ∧ Dig d ∧ Nrm d ∧ d.length ≤ a.length + 2 := by
  induction n with
  | zero =>
    intro k q rest hn hl hq g0 g1 hz hv hk
    obtain ⟨k, rfl⟩ : ∃ m, k = m + 1 := ⟨k - 1, by omega⟩
    simp only [capstanref01_Over.l0]
    rw [if_neg (by decide)]
    rw [List.drop_zero, List.drop_zero] at hv
    exact over_cut hd0 hla hl hq g0 g1 hv (by clear hv; omega)
  | succ n ih =>
    intro k q rest hn hl hq g0 g1 hz hv hk
    obtain ⟨k, rfl⟩ : ∃ m, k = m + 1 := ⟨k - 1, by omega⟩
    have e : ((n + 1 : Nat) : Int) - 1 = (n : Int) := by omega
    simp only [capstanref01_Over.l0]
    rw [e, if_pos (Int.natCast_nonneg n)]
    obtain ⟨x0, x1⟩ := ha.dg n
    obtain ⟨q', rest', f1, f2, f3, f4, f5, f6, f7, f8⟩ := over_l1 (s := s) hd0 hd1 ha hla n (by omega) rest g1 16 k q rest 1 (by decide) hl hq g0 g1 (by decide) (by decide) (by
      rw [hz n (by omega), Int.mul_one, Int.mul_zero]
      have : dg a n / 2 ^ 16 = 0 := Int.ediv_eq_zero_of_lt x0 x1
      omega) (by clear hv; omega)
    have e2 : ((16 : Nat) : Int) - 1 = 15 := by decide
    rw [e2] at f1
    rw [f1]
    refine ih (k - 16 - 1) q' rest' (by clear hv; omega) f2 f3 f4 f5 (fun j hj => by rw [f6 j (by clear hv; omega)]; exact hz j (by clear hv; omega)) ?_ (by clear hv; omega)
    rw [val_drop a n, val_drop q' n, f7]
    exact drop_step hv f8
/-- Over. -/
theorem over_f {a : List Int} {s : Bool} {den : Int} (hd0 : 0 < den) (hd1 : den ≤ 9223372036854775807) (ha : Dig a) (hla : a.length < 1000) (k : Nat) (hk : 22 * a.length + 32 ≤ k) :
    ∃ d, capstanref01_Over.f k s a den = some (s, d) ∧ sval s d = sval s a / den ∧ Dig d ∧ Nrm d ∧ d.length ≤ a.length + 2 := by
  unfold capstanref01_Over.f
  rw [if_pos (Int.natCast_nonneg _), Int.toNat_natCast, if_pos (by omega), w64s (by omega) (by omega)]
  refine over_l0 hd0 hd1 ha hla a.length k _ 0 (Nat.le_refl _) (by simp) (Dig.zeros _) (by decide) hd0 (fun j _ => dg_zeros _ _) ?_ (by omega)
  rw [List.drop_of_length_le (Nat.le_refl _), List.drop_of_length_le (by simp)]
  simp [val]
end Go.Proofs.Ytbnmjfeacejngaa.Big
