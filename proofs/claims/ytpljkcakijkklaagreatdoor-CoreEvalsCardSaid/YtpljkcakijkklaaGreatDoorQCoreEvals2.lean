/-
  Texts of this seat, joined, less what CoreEvals does not lean on: DivMath, BigMath.
-/
set_option linter.unusedVariables false
set_option linter.unusedSimpArgs false
section
namespace Go.Proofs.YtpljkcakijkklaaGreatDoor.DivMath
set_option linter.unusedVariables false
set_option linter.unusedSimpArgs false

theorem distrib (q y1 y0 : Int) : q * (y1 * 4294967296 + y0) = q * y1 * 4294967296 + q * y0 := by
 rw [Int.mul_add, Int.mul_assoc]

theorem test_iff {u q y1 y0 r d : Int} (hu : u = q * y1 + r) (hy : 0 < y1 * 4294967296 + y0) :
  q * y0 > 4294967296 * r + d ↔ (u * 4294967296 + d) / (y1 * 4294967296 + y0) < q := by
 rw [Int.ediv_lt_iff_lt_mul hy, distrib]
 generalize q * y1 = P1 at *
 generalize q * y0 = P0 at *
 omega

theorem break_le {u q y1 y0 r d : Int} (hu : u = q * y1 + r) (hy0 : 0 ≤ y0) (hy0' : y0 < 4294967296) (hq : q ≤ 4294967297) (hq0 : 1 ≤ q) (hd : 0 ≤ d) (hr : 4294967296 ≤ r + y1) (hy : 0 < y1 * 4294967296 + y0) :
  q - 1 ≤ (u * 4294967296 + d) / (y1 * 4294967296 + y0) := by
 rw [Int.le_ediv_iff_mul_le hy, distrib]
 have h1 : (q - 1) * y1 = q * y1 - y1 := by rw [Int.sub_mul, Int.one_mul]
 have h2 : (q - 1) * y0 ≤ 4294967296 * y0 := Int.mul_le_mul_of_nonneg_right (by omega) hy0
 rw [h1]
 generalize q * y1 = P1 at *
 generalize (q - 1) * y0 = P0 at *
 omega

theorem guess_ge {u y1 y0 d : Int} (hy1 : 2147483648 ≤ y1) (hy0 : 0 ≤ y0) (hd' : d < 4294967296) (hu0 : 0 ≤ u) :
  (u * 4294967296 + d) / (y1 * 4294967296 + y0) ≤ u / y1 := by
 have hy : 0 < y1 * 4294967296 + y0 := by omega
 rw [← Int.lt_add_one_iff, Int.ediv_lt_iff_lt_mul hy, distrib]
 have h1 : u < (u / y1 + 1) * y1 := Int.lt_ediv_add_one_mul_self u (by omega)
 have h2 : 0 ≤ u / y1 := Int.ediv_nonneg hu0 (by omega)
 have h3 : 0 ≤ (u / y1 + 1) * y0 := Int.mul_nonneg (by omega) hy0
 generalize (u / y1 + 1) * y1 = P1 at *
 generalize (u / y1 + 1) * y0 = P0 at *
 omega

theorem guess_le {u y1 y0 : Int} (hy1 : 2147483648 ≤ y1) (hy0' : y0 < 4294967296) (hu : u < y1 * 4294967296 + y0) : u / y1 ≤ 4294967297 := by
 have h : u / y1 < 4294967298 := by
  rw [Int.ediv_lt_iff_lt_mul (by omega)]
  omega
 omega

theorem digit_lt {u y d : Int} (hy : 0 < y) (hu : u < y) (hd' : d < 4294967296) : (u * 4294967296 + d) / y < 4294967296 := by
 rw [Int.ediv_lt_iff_lt_mul hy]
 omega

theorem digit_nonneg {u y d : Int} (hy : 0 < y) (hu : 0 ≤ u) (hd : 0 ≤ d) : 0 ≤ (u * 4294967296 + d) / y := Int.ediv_nonneg (by omega) (by omega)

theorem rest_of {u y d : Int} : u * 4294967296 + d - (u * 4294967296 + d) / y * y = (u * 4294967296 + d) % y := by
 have := Int.mul_ediv_add_emod (u * 4294967296 + d) y
 rw [Int.mul_comm] at this
 omega

theorem two_digits {u y d1 d0 : Int} (hy : 0 < y) :
  (u * 18446744073709551616 + d1 * 4294967296 + d0) / y = (u * 4294967296 + d1) / y * 4294967296 + ((u * 4294967296 + d1) % y * 4294967296 + d0) / y ∧
  (u * 18446744073709551616 + d1 * 4294967296 + d0) % y = ((u * 4294967296 + d1) % y * 4294967296 + d0) % y := by
 have h := Int.mul_ediv_add_emod (u * 4294967296 + d1) y
 generalize (u * 4294967296 + d1) / y = Q at *
 generalize (u * 4294967296 + d1) % y = R at *
 have e : u * 18446744073709551616 + d1 * 4294967296 + d0 = (R * 4294967296 + d0) + y * (Q * 4294967296) := by
  rw [← Int.mul_assoc]
  generalize y * Q = P at *
  omega
 rw [e, Int.add_mul_ediv_left _ _ (by omega), Int.add_mul_emod_self_left]
 exact ⟨by omega, rfl⟩

theorem scaled {N y T : Int} (hT : 0 < T) (hy : 0 < y) : (N * T) / (y * T) = N / y ∧ (N * T) % (y * T) / T = N % y := by
 refine ⟨Int.mul_ediv_mul_of_pos_left N y hT, ?_⟩
 rw [Int.mul_comm N, Int.mul_comm y, Int.mul_emod_mul_of_pos _ _ hT]
 exact Int.mul_ediv_cancel_left _ (by omega)

theorem split_lo {lo T T' : Int} (hT : 0 < T) (hT' : 0 < T') (hTT : T * T' = 18446744073709551616) (h0 : 0 ≤ lo) :
  lo * T = lo / T' * 18446744073709551616 + (lo * T) % 18446744073709551616 ∧ (lo < 18446744073709551616 → lo / T' < T) := by
 constructor
 ·have h1 := Int.mul_ediv_add_emod lo T'
  have h2 := Int.emod_nonneg lo (show T' ≠ 0 by omega)
  have h3 := Int.emod_lt_of_pos lo hT'
  have e : lo * T = lo / T' * 18446744073709551616 + lo % T' * T := by
   rw [← hTT]
   have : lo * T = (T' * (lo / T') + lo % T') * T := by rw [h1]
   rw [this, Int.add_mul, Int.mul_comm T' (lo / T'), Int.mul_assoc, Int.mul_comm T' T]
  have h4 : 0 ≤ lo % T' * T := Int.mul_nonneg h2 (by omega)
  have h5 : lo % T' * T < T' * T := Int.mul_lt_mul_of_pos_right h3 hT
  rw [Int.mul_comm T' T, hTT] at h5
  generalize lo % T' * T = z at *
  rw [e]
  omega
 ·intro h
  rw [Int.ediv_lt_iff_lt_mul hT', hTT]
  exact h
end Go.Proofs.YtpljkcakijkklaaGreatDoor.DivMath

end
section
namespace Go.Proofs.YtpljkcakijkklaaGreatDoor.Big
set_option linter.unusedVariables false
set_option linter.unusedSimpArgs false

def val : List Int → Int
 | [] => 0
 | d :: l => d + 65536 * val l
def dg (l : List Int) (i : Nat) : Int := l.getD i 0
def Dig (l : List Int) : Prop := ∀ d ∈ l, 0 ≤ d ∧ d < 65536
def Nrm (l : List Int) : Prop := l = [] ∨ dg l (l.length - 1) ≠ 0
def P (n : Nat) : Int := 65536 ^ n
theorem P_zero : P 0 = 1 := rfl
theorem P_succ (n : Nat) : P (n + 1) = P n * 65536 := Int.pow_succ ..
theorem P_pos (n : Nat) : 0 < P n := Int.pow_pos (by decide)
theorem P_add (m n : Nat) : P (m + n) = P m * P n := Int.pow_add ..
theorem P_mono {m n : Nat} (h : m ≤ n) : P m ≤ P n := by
 obtain ⟨d, rfl⟩ : ∃ d, n = m + d := ⟨n - m, by omega⟩
 rw [P_add]
 have h1 := P_pos d
 have h2 : P m * 1 ≤ P m * P d := Int.mul_le_mul_of_nonneg_left (by omega) (Int.le_of_lt (P_pos m))
 omega

theorem val_append (a b : List Int) : val (a ++ b) = val a + P a.length * val b := by
 induction a with
 | nil => simp [val, P_zero]
 | cons d a ih =>
  simp only [List.cons_append, val, List.length_cons, P_succ, ih]
  rw [Int.mul_add, Int.mul_comm (P a.length) 65536, Int.mul_assoc]
  omega
theorem val_snoc (a : List Int) (d : Int) : val (a ++ [d]) = val a + P a.length * d := by
 rw [val_append]
 simp [val]
theorem Dig.nil : Dig [] := fun d h => by cases h
theorem Dig.snoc {a : List Int} {d : Int} (h : Dig a) (h0 : 0 ≤ d) (h1 : d < 65536) : Dig (a ++ [d]) := by
 intro x hx
 rcases List.mem_append.1 hx with hx | hx
 ·exact h x hx
 ·rw [List.mem_singleton.1 hx]; exact ⟨h0, h1⟩
theorem Dig.take {a : List Int} (h : Dig a) (n : Nat) : Dig (a.take n) := fun d hd => h d (List.mem_of_mem_take hd)
theorem Dig.dg {a : List Int} (h : Dig a) (i : Nat) : 0 ≤ dg a i ∧ dg a i < 65536 := by
 unfold Big.dg
 by_cases hi : i < a.length
 ·rw [List.getD_eq_getElem?_getD, List.getElem?_eq_getElem hi]
  exact h _ (List.getElem_mem hi)
 ·rw [List.getD_eq_getElem?_getD, List.getElem?_eq_none (by omega)]
  decide
theorem Dig.tail {d : Int} {a : List Int} (h : Dig (d :: a)) : Dig a := fun x hx => h x (List.mem_cons_of_mem _ hx)
theorem val_range {a : List Int} (h : Dig a) : 0 ≤ val a ∧ val a < P a.length := by
 induction a with
 | nil => simp [val, P_zero]
 | cons d a ih =>
  obtain ⟨i0, i1⟩ := ih h.tail
  obtain ⟨d0, d1⟩ := h d (List.mem_cons_self ..)
  simp only [val, List.length_cons, P_succ]
  constructor <;> omega
theorem dg_beyond {a : List Int} {i : Nat} (h : a.length ≤ i) : dg a i = 0 := by
 unfold dg
 rw [List.getD_eq_getElem?_getD, List.getElem?_eq_none h]
 rfl
theorem take_snoc {a : List Int} {i : Nat} (h : i < a.length) : a.take (i + 1) = a.take i ++ [dg a i] := by
 unfold dg
 rw [List.getD_eq_getElem?_getD, List.getElem?_eq_getElem h, List.take_succ_eq_append_getElem h]
 rfl
theorem val_take_succ (a : List Int) (i : Nat) : val (a.take (i + 1)) = val (a.take i) + P i * dg a i := by
 by_cases h : i < a.length
 ·rw [take_snoc h, val_snoc, List.length_take_of_le (by omega)]
 ·rw [dg_beyond (by omega), List.take_of_length_le (by omega), List.take_of_length_le (by omega), Int.mul_zero, Int.add_zero]
theorem val_take_all {a : List Int} {i : Nat} (h : a.length ≤ i) : val (a.take i) = val a := by rw [List.take_of_length_le h]
theorem val_drop (a : List Int) (i : Nat) : val (a.drop i) = dg a i + 65536 * val (a.drop (i + 1)) := by
 by_cases h : i < a.length
 ·rw [List.drop_eq_getElem_cons h]
  unfold dg
  rw [List.getD_eq_getElem?_getD, List.getElem?_eq_getElem h]
  rfl
 ·rw [dg_beyond (by omega), List.drop_eq_nil_of_le (by omega), List.drop_eq_nil_of_le (by omega)]
  rfl
theorem dg_set {l : List Int} {i j : Nat} {x : Int} (h : i < l.length) : dg (l.set i x) j = if i = j then x else dg l j := by
 unfold dg
 simp only [List.getD_eq_getElem?_getD, List.getElem?_set]
 split
 ·rename_i e
  subst e
  simp [h]
 ·rfl
theorem val_set {l : List Int} {i : Nat} (x : Int) (h : i < l.length) : val (l.set i x) = val l + P i * (x - dg l i) := by
 induction l generalizing i with
 | nil => simp at h
 | cons d l ih =>
  cases i with
  | zero => simp only [List.set_cons_zero, val, P_zero, dg, List.getD_cons_zero]; omega
  | succ i =>
   simp only [List.set_cons_succ, val, dg, List.getD_cons_succ, P_succ]
   rw [ih (by simpa using h), Int.mul_add, Int.mul_comm (P i) 65536, Int.mul_assoc]
   unfold dg
   omega
theorem Dig.set {l : List Int} {i : Nat} {x : Int} (h : Dig l) (h0 : 0 ≤ x) (h1 : x < 65536) : Dig (l.set i x) := by
 intro d hd
 rcases List.mem_or_eq_of_mem_set hd with hd | rfl
 ·exact h d hd
 ·exact ⟨h0, h1⟩
theorem val_zeros (n : Nat) : val (List.replicate n 0) = 0 := by
 induction n with
 | zero => rfl
 | succ n ih => rw [List.replicate_succ]; simp only [val, ih]; rfl
theorem Dig.zeros (n : Nat) : Dig (List.replicate n 0) := fun d hd => by rw [List.eq_of_mem_replicate hd]; decide
theorem dg_zeros (n i : Nat) : dg (List.replicate n 0) i = 0 := by
 unfold dg
 rw [List.getD_eq_getElem?_getD, List.getElem?_replicate]
 split <;> rfl
theorem set_drop {l : List Int} {i j : Nat} {x : Int} (h : i < j) : (l.set i x).drop j = l.drop j := by
 rw [List.drop_set, if_pos h]
theorem nrm_ge {l : List Int} (h : Dig l) (hn : Nrm l) (hl : 0 < l.length) : P (l.length - 1) ≤ val l := by
 rcases hn with rfl | hn
 ·simp at hl
 ·obtain ⟨n, hn'⟩ : ∃ n, l.length = n + 1 := ⟨l.length - 1, by omega⟩
  have e := val_take_succ l n
  rw [val_take_all (by omega)] at e
  rw [hn'] at hn ⊢
  simp only [Nat.add_sub_cancel] at hn ⊢
  have h0 := (val_range (h.take n)).1
  have h1 := h.dg n
  have h2 : P n * 1 ≤ P n * dg l n := Int.mul_le_mul_of_nonneg_left (by omega) (Int.le_of_lt (P_pos n))
  omega
theorem nrm_len {a b : List Int} (ha : Dig a) (hb : Dig b) (hn : Nrm b) (h : a.length < b.length) : val a < val b := by
 have h1 := (val_range ha).2
 have h2 := nrm_ge hb hn (by omega)
 have h3 := P_mono (show a.length ≤ b.length - 1 by omega)
 omega
def sval (neg : Bool) (l : List Int) : Int := if neg then -val l else val l
end Go.Proofs.YtpljkcakijkklaaGreatDoor.Big

end
