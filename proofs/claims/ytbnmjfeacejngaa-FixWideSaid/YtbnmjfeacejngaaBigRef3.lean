/-
  The reference's products and quotients of digits.
-/
import Derived.Test.YtbnmjfeacejngaaBigRef2
namespace Go.Proofs.Ytbnmjfeacejngaa.Big
open Go.RowKit Go.Proofs.Ytbnmjfeacejngaa Go.Proofs.Ytbnmjfeacejngaa.XRef01 Go.Proofs.YtbnmjfeacejngaaW.PrintWords Go.Proofs.YtbnmjfeacejngaaW.PrintLast Go.Proofs.YtbnmjfeacejngaaW.PrintMore

theorem rd_add (l : List Int) (i j : Nat) (h : i + j < 4611686018427387904) : rd l (wrap64 ((i : Int) + (j : Int))) = dg l (i + j) := by
  rw [w64s (by omega) (by omega), ← Int.natCast_add, rd_dg]

theorem prod_le {x y : Int} (x0 : 0 ≤ x) (x1 : x < 65536) (y0 : 0 ≤ y) (y1 : y < 65536) : 0 ≤ x * y ∧ x * y ≤ 4294836225 :=
  ⟨Int.mul_nonneg x0 y0, Int.le_trans (Int.mul_le_mul (show x ≤ 65535 by omega) (show y ≤ 65535 by omega) y0 (by decide)) (by decide)⟩

theorem mid_step {V p q c s0 s1 u t z x y : Int} (hv : V + p * q * c = u + p * (x * t)) (hs : z + x * y + c = s0 + 65536 * s1) : V + p * q * (s0 - z) + p * (q * 65536) * s1 = u + p * (x * (t + q * y)) := by
  have e : p * q * (z + x * y + c) = p * q * (s0 + 65536 * s1) := by rw [hs]
  have a1 : p * q * (z + x * y + c) = p * q * z + p * q * (x * y) + p * q * c := by rw [Int.mul_add, Int.mul_add]
  have a2 : p * q * (s0 + 65536 * s1) = p * q * s0 + p * (q * 65536) * s1 := by rw [Int.mul_add]; congr 1; rw [← Int.mul_assoc, Int.mul_assoc p q 65536]
  have a3 : p * q * (s0 - z) = p * q * s0 - p * q * z := Int.mul_sub ..
  have a4 : p * (x * (t + q * y)) = p * (x * t) + p * q * (x * y) := by
    rw [Int.mul_add, Int.mul_add]; congr 1
    rw [← Int.mul_assoc x q y, Int.mul_comm x q, Int.mul_assoc q x y, ← Int.mul_assoc p q]
  rw [a3, a4]
  rw [a1, a2] at e
  generalize p * q * z = m1 at *
  generalize p * q * (x * y) = m2 at *
  generalize p * q * c = m3 at *
  generalize p * q * s0 = m4 at *
  generalize p * (q * 65536) * s1 = m5 at *
  generalize p * (x * t) = m6 at *
  omega
theorem end_step {V p q c u x t w : Int} (hv : V + p * q * c = u + p * (x * t)) (hu : u = w * t) : V + p * q * (c - 0) = (w + p * x) * t := by
  rw [Int.sub_zero, hv, hu, Int.add_mul, Int.mul_assoc]

theorem digit_facts {z m c : Int} (z0 : 0 ≤ z) (z1 : z < 65536) (p0 : 0 ≤ m) (p1 : m ≤ 4294836225) (c0 : 0 ≤ c) (c1 : c < 65536) :
    wrap64 m = m ∧ wrap64 (z + m) = z + m ∧ wrap64 (z + m + c) = z + m + c ∧ wrap64 ((z + m + c) / 65536) = (z + m + c) / 65536 ∧ z + m + c = (z + m + c) % 65536 + 65536 * ((z + m + c) / 65536) ∧ 0 ≤ z + m + c ∧
      0 ≤ (z + m + c) % 65536 ∧ (z + m + c) % 65536 < 65536 ∧ 0 ≤ (z + m + c) / 65536 ∧ (z + m + c) / 65536 < 65536 := by
  have e0 : 0 ≤ z + m + c := by omega
  have e1 : z + m + c ≤ 4294967295 := by omega
  have q0 : 0 ≤ (z + m + c) / 65536 := by omega
  have q1 : (z + m + c) / 65536 < 65536 := by omega
  exact ⟨w64s (by omega) (by omega), w64s (by omega) (by omega), w64s (by omega) (by omega), w64s (by omega) (by omega), by omega, e0, by omega, by omega, q0, q1⟩

theorem times_l1 {a b : List Int} {s t : Bool} (ha : Dig a) (hb : Dig b) (hla : a.length < 1000) (hlb : b.length < 1000) (i : Nat) (hi : i < a.length) (n : Nat) :
    ∀ (k j : Nat) (d : List Int) (c : Int), b.length = j + n → d.length = a.length + b.length → Dig d → 0 ≤ c → c < 65536 → (∀ q, i + b.length ≤ q → dg d q = 0) → val d + P i * P j * c = val (a.take i) * val b + P i * (dg a i * val (b.take j)) → n + 1 ≤ k →
      ∃ d', capstanref01_Times.l1 k d i c j s a t b = capstanref01_Times.l0 (k - n - 1) d' ((i + 1 : Nat) : Int) s a t b ∧ d'.length = a.length + b.length ∧ Dig d' ∧ (∀ q, i + 1 + b.length ≤ q → dg d' q = 0) ∧ val d' = val (a.take (i + 1)) * val b := by
  induction n with
  | zero =>
    intro k j d c hj hl hd c0 c1 hz hv hk
    obtain ⟨k, rfl⟩ : ∃ m, k = m + 1 := ⟨k - 1, by omega⟩
    have hj' : j = b.length := by clear hv hz; omega
    subst hj'
    have e : wrap64 ((i : Int) + (b.length : Int)) = ((i + b.length : Nat) : Int) := by clear hv hz; rw [w64s (by omega) (by omega)]; omega
    have e2 : wrap64 ((i : Int) + 1) = ((i + 1 : Nat) : Int) := by clear hv hz; rw [w64s (by omega) (by omega)]; omega
    have g1 : ¬ ((b.length : Int) < (b.length : Int)) := Int.lt_irrefl _
    have g2 : 0 ≤ ((i + b.length : Nat) : Int) := Int.natCast_nonneg _
    have g3 : ((i + b.length : Nat) : Int) < (d.length : Int) := by clear hv hz; omega
    have g4 : i + b.length < d.length := by clear hv hz; omega
    refine ⟨d.set (i + b.length) c, ?_, by rw [List.length_set, hl], hd.set c0 c1, ?_, ?_⟩
    · simp only [capstanref01_Times.l1]
      rw [if_neg g1, e, if_pos g2, if_pos g3, e2, Int.toNat_natCast]
      rfl
    · intro q hq
      have g5 : ¬ (i + b.length = q) := by clear hv hz; omega
      rw [dg_set g4, if_neg g5]
      exact hz q (by clear hv hz; omega)
    · rw [val_set c g4, hz _ (Nat.le_refl _), val_take_succ]
      rw [List.take_length] at hv
      rw [P_add]
      exact end_step hv rfl
  | succ n ih =>
    intro k j d c hj hl hd c0 c1 hz hv hk
    obtain ⟨k, rfl⟩ : ∃ m, k = m + 1 := ⟨k - 1, by omega⟩
    have e : wrap64 ((i : Int) + (j : Int)) = ((i + j : Nat) : Int) := by rw [w64s (by omega) (by omega)]; omega
    have e2 : wrap64 ((j : Int) + 1) = ((j + 1 : Nat) : Int) := by rw [w64s (by omega) (by omega)]; omega
    obtain ⟨x0, x1⟩ := ha.dg i
    obtain ⟨y0, y1⟩ := hb.dg j
    obtain ⟨z0, z1⟩ := hd.dg (i + j)
    obtain ⟨p0, p1⟩ := prod_le x0 x1 y0 y1
    have g1 : (j : Int) < (b.length : Int) := by clear hv; omega
    have g2 : 0 ≤ ((i + j : Nat) : Int) := by clear hv; omega
    have g3 : ((i + j : Nat) : Int) < (d.length : Int) := by clear hv; omega
    have g4 : (i : Int) < (a.length : Int) := by clear hv; omega
    have g5 : i + j < d.length := by clear hv; omega
    have g6 : ∀ q, i + b.length ≤ q → ¬ (i + j = q) := fun q hq => by clear hv; omega
    have g7 : n + 1 ≤ k := by clear hv; omega
    have g8 : b.length = j + 1 + n := by clear hv; omega
    have g9 : k + 1 - (n + 1) - 1 = k - n - 1 := by clear hv; omega
    obtain ⟨w1, w2, w3, w4, hs, h0, s0, s1, s2, s3⟩ := digit_facts z0 z1 p0 p1 c0 c1
    have hn : val (d.set (i + j) ((dg d (i + j) + dg a i * dg b j + c) % 65536)) + P i * P (j + 1) * ((dg d (i + j) + dg a i * dg b j + c) / 65536) = val (a.take i) * val b + P i * (dg a i * val (b.take (j + 1))) := by
      rw [val_set _ g5, P_add, P_succ, val_take_succ]
      exact mid_step hv hs
    obtain ⟨d', f1, f2⟩ := ih k (j + 1) (d.set (i + j) ((dg d (i + j) + dg a i * dg b j + c) % 65536)) ((dg d (i + j) + dg a i * dg b j + c) / 65536) g8 (by rw [List.length_set, hl]) (hd.set s0 s1) s2 s3
      (fun q hq => by rw [dg_set g5, if_neg (g6 q hq)]; exact hz q hq) hn g7
    refine ⟨d', ?_, f2⟩
    rw [g9, ← f1]
    simp only [capstanref01_Times.l1]
    rw [if_pos g1, e, if_pos g2, if_pos g3, if_pos (Int.natCast_nonneg i), if_pos g4, if_pos (Int.natCast_nonneg j), rd_dg, rd_dg, rd_dg, w1, w2, w3, Int.tmod_eq_emod_of_nonneg h0, Int.tdiv_eq_ediv_of_nonneg h0, w4, e2, Int.toNat_natCast]

theorem times_l0 {a b : List Int} {s t : Bool} (ha : Dig a) (hb : Dig b) (hla : a.length < 1000) (hlb : b.length < 1000) (n : Nat) :
    ∀ (k i : Nat) (d : List Int), a.length = i + n → d.length = a.length + b.length → Dig d → (∀ q, i + b.length ≤ q → dg d q = 0) → val d = val (a.take i) * val b → n * (b.length + 2) + a.length + b.length + 2 ≤ k →
      ∃ r, capstanref01_Times.l0 k d i s a t b = some (s != t, r) ∧ val r = val a * val b ∧ Dig r ∧ Nrm r ∧ r.length ≤ a.length + b.length := by
  induction n with
  | zero =>
    intro k i d hi hl hd hz hv hk
    obtain ⟨k, rfl⟩ : ∃ m, k = m + 1 := ⟨k - 1, by omega⟩
    obtain ⟨r, r1, r2, r3, r4, r5⟩ := trim_f hd (by omega) k (by omega)
    refine ⟨r, ?_, ?_, r3, r4, by omega⟩
    · simp only [capstanref01_Times.l0]
      rw [if_neg (by omega), r1]
      rfl
    · rw [r2, hv, val_take_all (by omega)]
  | succ n ih =>
    intro k i d hi hl hd hz hv hk
    obtain ⟨k, rfl⟩ : ∃ m, k = m + 1 := ⟨k - 1, by omega⟩
    have hm : (n + 1) * (b.length + 2) = n * (b.length + 2) + (b.length + 2) := Nat.succ_mul ..
    have g4 : (i : Int) < (a.length : Int) := by clear hv; omega
    obtain ⟨d', e1, e2, e3, e4, e5⟩ := times_l1 (s := s) (t := t) ha hb hla hlb i (by clear hv; omega) b.length k 0 d 0 (by omega) hl hd (by decide) (by decide) hz (by rw [hv]; simp [val, P_zero]) (by clear hv; omega)
    obtain ⟨r, r1, r2⟩ := ih (k - b.length - 1) (i + 1) d' (by clear hv; omega) e2 e3 e4 e5 (by clear hv; omega)
    refine ⟨r, ?_, r2⟩
    simp only [capstanref01_Times.l0]
    rw [if_pos g4]
    exact e1.trans r1
/-- Times. -/
theorem times_f {a b : List Int} {s t : Bool} (ha : Dig a) (hb : Dig b) (hla : a.length ≤ 8) (hlb : b.length ≤ 8) (k : Nat) (hk : 200 ≤ k) :
    ∃ r, capstanref01_Times.f k s a t b = some (s != t, r) ∧ val r = val a * val b ∧ Dig r ∧ Nrm r ∧ r.length ≤ a.length + b.length := by
  have e : wrap64 ((a.length : Int) + (b.length : Int)) = ((a.length + b.length : Nat) : Int) := by rw [w64s (by omega) (by omega)]; omega
  have hm : a.length * (b.length + 2) ≤ 8 * 10 := Nat.mul_le_mul hla (by omega)
  unfold capstanref01_Times.f
  rw [e, if_pos (by omega), Int.toNat_natCast, if_pos (by omega)]
  exact times_l0 ha hb (by omega) (by omega) a.length k 0 _ (by omega) (by simp) (Dig.zeros _) (fun q _ => dg_zeros _ _) (by rw [val_zeros]; simp [val]) (by omega)
theorem sval_times {s t : Bool} {a b r : List Int} (h : val r = val a * val b) : sval (s != t) r = sval s a * sval t b := by
  cases s <;> cases t <;> simp [sval, h, Int.neg_mul, Int.mul_neg]
end Go.Proofs.Ytbnmjfeacejngaa.Big
