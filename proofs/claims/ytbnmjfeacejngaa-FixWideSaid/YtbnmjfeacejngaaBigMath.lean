/-
  Lists of sixteen-bit digits, the lowest first, and the whole numbers that they stand for; no program in sight.
-/
namespace Go.Proofs.Ytbnmjfeacejngaa.Big

def val : List Int → Int
  | [] => 0
  | d :: l => d + 65536 * val l
/-- Digit i, 0 beyond. -/
def dg (l : List Int) (i : Nat) : Int := l.getD i 0
def Dig (l : List Int) : Prop := ∀ d ∈ l, 0 ≤ d ∧ d < 65536
/-- No zero at the high end. -/
def Nrm (l : List Int) : Prop := l = [] ∨ dg l (l.length - 1) ≠ 0
/-- 65536 to a power. -/
def P (n : Nat) : Int := 65536 ^ n
theorem P_zero : P 0 = 1 := rfl
theorem P_succ (n : Nat) : P (n + 1) = P n * 65536 := Int.pow_succ ..
theorem P_pos (n : Nat) : 0 < P n := Int.pow_pos (by decide)
theorem P_add (m n : Nat) : P (m + n) = P m * P n := Int.pow_add ..
theorem P_mono {m n : Nat} (h : m ≤ n) : P m ≤ P n := by
  obtain ⟨d, rfl⟩ : ∃ d, n = m + d := ⟨n - m, by omega⟩
  rw [P_add]
  have h1 := P_pos d
  have h2 : P m * 1 ≤ P m * P d := Int.mul_le_mul_of_nonneg_left (by omega) (Int.le_of_lt (P_pos m))
  omega

theorem val_append (a b : List Int) : val (a ++ b) = val a + P a.length * val b := by
  induction a with
  | nil => simp [val, P_zero]
  | cons d a ih =>
    simp only [List.cons_append, val, List.length_cons, P_succ, ih]
    rw [Int.mul_add, Int.mul_comm (P a.length) 65536, Int.mul_assoc]
    omega
theorem val_snoc (a : List Int) (d : Int) : val (a ++ [d]) = val a + P a.length * d := by
  rw [val_append]
  simp [val]
theorem Dig.nil : Dig [] := fun d h => by cases h
theorem Dig.snoc {a : List Int} {d : Int} (h : Dig a) (h0 : 0 ≤ d) (h1 : d < 65536) : Dig (a ++ [d]) := by
  intro x hx
  rcases List.mem_append.1 hx with hx | hx
  · exact h x hx
  · rw [List.mem_singleton.1 hx]; exact ⟨h0, h1⟩
theorem Dig.take {a : List Int} (h : Dig a) (n : Nat) : Dig (a.take n) := fun d hd => h d (List.mem_of_mem_take hd)
theorem Dig.dg {a : List Int} (h : Dig a) (i : Nat) : 0 ≤ dg a i ∧ dg a i < 65536 := by
  unfold Big.dg
  by_cases hi : i < a.length
  · rw [List.getD_eq_getElem?_getD, List.getElem?_eq_getElem hi]
    exact h _ (List.getElem_mem hi)
  · rw [List.getD_eq_getElem?_getD, List.getElem?_eq_none (by omega)]
    decide
theorem Dig.tail {d : Int} {a : List Int} (h : Dig (d :: a)) : Dig a := fun x hx => h x (List.mem_cons_of_mem _ hx)
theorem val_range {a : List Int} (h : Dig a) : 0 ≤ val a ∧ val a < P a.length := by
  induction a with
  | nil => simp [val, P_zero]
  | cons d a ih =>
    obtain ⟨i0, i1⟩ := ih h.tail
    obtain ⟨d0, d1⟩ := h d (List.mem_cons_self ..)
    simp only [val, List.length_cons, P_succ]
    constructor <;> omega
theorem dg_beyond {a : List Int} {i : Nat} (h : a.length ≤ i) : dg a i = 0 := by
  unfold dg
  rw [List.getD_eq_getElem?_getD, List.getElem?_eq_none h]
  rfl
theorem take_snoc {a : List Int} {i : Nat} (h : i < a.length) : a.take (i + 1) = a.take i ++ [dg a i] := by
  unfold dg
  rw [List.getD_eq_getElem?_getD, List.getElem?_eq_getElem h, List.take_succ_eq_append_getElem h]
  rfl
theorem val_take_succ (a : List Int) (i : Nat) : val (a.take (i + 1)) = val (a.take i) + P i * dg a i := by
  by_cases h : i < a.length
  · rw [take_snoc h, val_snoc, List.length_take_of_le (by omega)]
  · rw [dg_beyond (by omega), List.take_of_length_le (by omega), List.take_of_length_le (by omega), Int.mul_zero, Int.add_zero]
theorem val_take_all {a : List Int} {i : Nat} (h : a.length ≤ i) : val (a.take i) = val a := by rw [List.take_of_length_le h]
/-- The high part. -/
theorem val_drop (a : List Int) (i : Nat) : val (a.drop i) = dg a i + 65536 * val (a.drop (i + 1)) := by
  by_cases h : i < a.length
  · rw [List.drop_eq_getElem_cons h]
    unfold dg
    rw [List.getD_eq_getElem?_getD, List.getElem?_eq_getElem h]
    rfl
  · rw [dg_beyond (by omega), List.drop_eq_nil_of_le (by omega), List.drop_eq_nil_of_le (by omega)]
    rfl
theorem dg_set {l : List Int} {i j : Nat} {x : Int} (h : i < l.length) : dg (l.set i x) j = if i = j then x else dg l j := by
  unfold dg
  simp only [List.getD_eq_getElem?_getD, List.getElem?_set]
  split
  · rename_i e
    subst e
    simp [h]
  · rfl
theorem val_set {l : List Int} {i : Nat} (x : Int) (h : i < l.length) : val (l.set i x) = val l + P i * (x - dg l i) := by
  induction l generalizing i with
  | nil => simp at h
  | cons d l ih =>
    cases i with
    | zero => simp only [List.set_cons_zero, val, P_zero, dg, List.getD_cons_zero]; omega
    | succ i =>
      simp only [List.set_cons_succ, val, dg, List.getD_cons_succ, P_succ]
      rw [ih (by simpa using h), Int.mul_add, Int.mul_comm (P i) 65536, Int.mul_assoc]
      unfold dg
      omega
theorem Dig.set {l : List Int} {i : Nat} {x : Int} (h : Dig l) (h0 : 0 ≤ x) (h1 : x < 65536) : Dig (l.set i x) := by
  intro d hd
  rcases List.mem_or_eq_of_mem_set hd with hd | rfl
  · exact h d hd
  · exact ⟨h0, h1⟩
theorem val_zeros (n : Nat) : val (List.replicate n 0) = 0 := by
  induction n with
  | zero => rfl
  | succ n ih => rw [List.replicate_succ]; simp only [val, ih]; rfl
theorem Dig.zeros (n : Nat) : Dig (List.replicate n 0) := fun d hd => by rw [List.eq_of_mem_replicate hd]; decide
theorem dg_zeros (n i : Nat) : dg (List.replicate n 0) i = 0 := by
  unfold dg
  rw [List.getD_eq_getElem?_getD, List.getElem?_replicate]
  split <;> rfl
theorem set_drop {l : List Int} {i j : Nat} {x : Int} (h : i < j) : (l.set i x).drop j = l.drop j := by
  rw [List.drop_set, if_pos h]
/-- A number without a zero at the high end is as great as its length says. -/
theorem nrm_ge {l : List Int} (h : Dig l) (hn : Nrm l) (hl : 0 < l.length) : P (l.length - 1) ≤ val l := by
  rcases hn with rfl | hn
  · simp at hl
  · obtain ⟨n, hn'⟩ : ∃ n, l.length = n + 1 := ⟨l.length - 1, by omega⟩
    have e := val_take_succ l n
    rw [val_take_all (by omega)] at e
    rw [hn'] at hn ⊢
    simp only [Nat.add_sub_cancel] at hn ⊢
    have h0 := (val_range (h.take n)).1
    have h1 := h.dg n
    have h2 : P n * 1 ≤ P n * dg l n := Int.mul_le_mul_of_nonneg_left (by omega) (Int.le_of_lt (P_pos n))
    omega
theorem nrm_len {a b : List Int} (ha : Dig a) (hb : Dig b) (hn : Nrm b) (h : a.length < b.length) : val a < val b := by
  have h1 := (val_range ha).2
  have h2 := nrm_ge hb hn (by omega)
  have h3 := P_mono (show a.length ≤ b.length - 1 by omega)
  omega
/-- A sign and a size. -/
def sval (neg : Bool) (l : List Int) : Int := if neg then -val l else val l
end Go.Proofs.Ytbnmjfeacejngaa.Big
