/-
  Texts of this seat, joined, less what WindowAgrees does not lean on: BigMath, DivMath, WinPure.
-/
section
namespace Go.Proofs.Ytgfnlhigmncdmaa.Big
set_option linter.unusedVariables false
set_option linter.unusedSimpArgs false

def Dig (l : List Int) : Prop := ∀ d ∈ l, 0 ≤ d ∧ d < 65536
/-- 65536 to a power. -/
def P (n : Nat) : Int := 65536 ^ n
theorem Dig.nil : Dig [] := fun d h => by cases h
theorem Dig.snoc {a : List Int} {d : Int} (h : Dig a) (h0 : 0 ≤ d) (h1 : d < 65536) : Dig (a ++ [d]) := by
  intro x hx
  rcases List.mem_append.1 hx with hx | hx
  · exact h x hx
  · rw [List.mem_singleton.1 hx]; exact ⟨h0, h1⟩
theorem Dig.take {a : List Int} (h : Dig a) (n : Nat) : Dig (a.take n) := fun d hd => h d (List.mem_of_mem_take hd)
theorem Dig.tail {d : Int} {a : List Int} (h : Dig (d :: a)) : Dig a := fun x hx => h x (List.mem_cons_of_mem _ hx)
theorem Dig.set {l : List Int} {i : Nat} {x : Int} (h : Dig l) (h0 : 0 ≤ x) (h1 : x < 65536) : Dig (l.set i x) := by
  intro d hd
  rcases List.mem_or_eq_of_mem_set hd with hd | rfl
  · exact h d hd
  · exact ⟨h0, h1⟩
theorem Dig.zeros (n : Nat) : Dig (List.replicate n 0) := fun d hd => by rw [List.eq_of_mem_replicate hd]; decide
end Go.Proofs.Ytgfnlhigmncdmaa.Big

end
section
namespace Go.Proofs.Ytgfnlhigmncdmaa.DivMath
set_option linter.unusedVariables false
set_option linter.unusedSimpArgs false

theorem distrib (q y1 y0 : Int) : q * (y1 * 4294967296 + y0) = q * y1 * 4294967296 + q * y0 := by
  rw [Int.mul_add, Int.mul_assoc]

/-- The test of a digit asks whether the digit is too great. -/
theorem test_iff {u q y1 y0 r d : Int} (hu : u = q * y1 + r) (hy : 0 < y1 * 4294967296 + y0) :
    q * y0 > 4294967296 * r + d ↔ (u * 4294967296 + d) / (y1 * 4294967296 + y0) < q := by
  rw [Int.ediv_lt_iff_lt_mul hy, distrib]
  generalize q * y1 = P1 at *
  generalize q * y0 = P0 at *
  omega

/-- Behind the break the digit is right. -/
theorem break_le {u q y1 y0 r d : Int} (hu : u = q * y1 + r) (hy0 : 0 ≤ y0) (hy0' : y0 < 4294967296) (hq : q ≤ 4294967297) (hq0 : 1 ≤ q) (hd : 0 ≤ d) (hr : 4294967296 ≤ r + y1) (hy : 0 < y1 * 4294967296 + y0) :
    q - 1 ≤ (u * 4294967296 + d) / (y1 * 4294967296 + y0) := by
  rw [Int.le_ediv_iff_mul_le hy, distrib]
  have h1 : (q - 1) * y1 = q * y1 - y1 := by rw [Int.sub_mul, Int.one_mul]
  have h2 : (q - 1) * y0 ≤ 4294967296 * y0 := Int.mul_le_mul_of_nonneg_right (by omega) hy0
  rw [h1]
  generalize q * y1 = P1 at *
  generalize (q - 1) * y0 = P0 at *
  omega

/-- The first guess is no less than the digit, and at most two too great. -/
theorem guess_ge {u y1 y0 d : Int} (hy1 : 2147483648 ≤ y1) (hy0 : 0 ≤ y0) (hd' : d < 4294967296) (hu0 : 0 ≤ u) :
    (u * 4294967296 + d) / (y1 * 4294967296 + y0) ≤ u / y1 := by
  have hy : 0 < y1 * 4294967296 + y0 := by omega
  rw [← Int.lt_add_one_iff, Int.ediv_lt_iff_lt_mul hy, distrib]
  have h1 : u < (u / y1 + 1) * y1 := Int.lt_ediv_add_one_mul_self u (by omega)
  have h2 : 0 ≤ u / y1 := Int.ediv_nonneg hu0 (by omega)
  have h3 : 0 ≤ (u / y1 + 1) * y0 := Int.mul_nonneg (by omega) hy0
  generalize (u / y1 + 1) * y1 = P1 at *
  generalize (u / y1 + 1) * y0 = P0 at *
  omega

theorem guess_le {u y1 y0 : Int} (hy1 : 2147483648 ≤ y1) (hy0' : y0 < 4294967296) (hu : u < y1 * 4294967296 + y0) : u / y1 ≤ 4294967297 := by
  have h : u / y1 < 4294967298 := by
    rw [Int.ediv_lt_iff_lt_mul (by omega)]
    omega
  omega

theorem digit_lt {u y d : Int} (hy : 0 < y) (hu : u < y) (hd' : d < 4294967296) : (u * 4294967296 + d) / y < 4294967296 := by
  rw [Int.ediv_lt_iff_lt_mul hy]
  omega

theorem digit_nonneg {u y d : Int} (hy : 0 < y) (hu : 0 ≤ u) (hd : 0 ≤ d) : 0 ≤ (u * 4294967296 + d) / y := Int.ediv_nonneg (by omega) (by omega)

theorem rest_of {u y d : Int} : u * 4294967296 + d - (u * 4294967296 + d) / y * y = (u * 4294967296 + d) % y := by
  have := Int.mul_ediv_add_emod (u * 4294967296 + d) y
  rw [Int.mul_comm] at this
  omega

/-- Two digits make the quotient. -/
theorem two_digits {u y d1 d0 : Int} (hy : 0 < y) :
    (u * 18446744073709551616 + d1 * 4294967296 + d0) / y = (u * 4294967296 + d1) / y * 4294967296 + ((u * 4294967296 + d1) % y * 4294967296 + d0) / y ∧
    (u * 18446744073709551616 + d1 * 4294967296 + d0) % y = ((u * 4294967296 + d1) % y * 4294967296 + d0) % y := by
  have h := Int.mul_ediv_add_emod (u * 4294967296 + d1) y
  generalize (u * 4294967296 + d1) / y = Q at *
  generalize (u * 4294967296 + d1) % y = R at *
  have e : u * 18446744073709551616 + d1 * 4294967296 + d0 = (R * 4294967296 + d0) + y * (Q * 4294967296) := by
    rw [← Int.mul_assoc]
    generalize y * Q = P at *
    omega
  rw [e, Int.add_mul_ediv_left _ _ (by omega), Int.add_mul_emod_self_left]
  exact ⟨by omega, rfl⟩

/-- The numbers made greater by a power of two. -/
theorem scaled {N y T : Int} (hT : 0 < T) (hy : 0 < y) : (N * T) / (y * T) = N / y ∧ (N * T) % (y * T) / T = N % y := by
  refine ⟨Int.mul_ediv_mul_of_pos_left N y hT, ?_⟩
  rw [Int.mul_comm N, Int.mul_comm y, Int.mul_emod_mul_of_pos _ _ hT]
  exact Int.mul_ediv_cancel_left _ (by omega)

theorem split_lo {lo T T' : Int} (hT : 0 < T) (hT' : 0 < T') (hTT : T * T' = 18446744073709551616) (h0 : 0 ≤ lo) :
    lo * T = lo / T' * 18446744073709551616 + (lo * T) % 18446744073709551616 ∧ (lo < 18446744073709551616 → lo / T' < T) := by
  constructor
  · have h1 := Int.mul_ediv_add_emod lo T'
    have h2 := Int.emod_nonneg lo (show T' ≠ 0 by omega)
    have h3 := Int.emod_lt_of_pos lo hT'
    have e : lo * T = lo / T' * 18446744073709551616 + lo % T' * T := by
      rw [← hTT]
      have : lo * T = (T' * (lo / T') + lo % T') * T := by rw [h1]
      rw [this, Int.add_mul, Int.mul_comm T' (lo / T'), Int.mul_assoc, Int.mul_comm T' T]
    have h4 : 0 ≤ lo % T' * T := Int.mul_nonneg h2 (by omega)
    have h5 : lo % T' * T < T' * T := Int.mul_lt_mul_of_pos_right h3 hT
    rw [Int.mul_comm T' T, hTT] at h5
    generalize lo % T' * T = z at *
    rw [e]
    omega
  · intro h
    rw [Int.ediv_lt_iff_lt_mul hT', hTT]
    exact h
end Go.Proofs.Ytgfnlhigmncdmaa.DivMath

end
section
namespace Go.Proofs.Ytgfnlhigmncdmaa
set_option linter.unusedVariables false
set_option linter.unusedSimpArgs false
/-- A sample is held at t. -/
def lateB (t span : Int) (s : Int × Int) : Bool := decide (t - s.1 < span)
/-- What is held at t of all samples, by definition. -/
def heldP (all : List (Int × Int)) (t span : Int) : List (Int × Int) := (all.drop (all.length - 4096)).filter (lateB t span)
def pushP (L : List (Int × Int)) (s : Int × Int) : List (Int × Int) := (if (L.length : Int) = 4096 then L.tail else L) ++ [s]
def expP (t span : Int) : List (Int × Int) → List (Int × Int)
  | [] => []
  | s :: L => if t - s.1 < span then s :: L else expP t span L
/-- The window holds L, of all the samples that came. -/
structure WinInv (all L : List (Int × Int)) (clock span : Int) : Prop where
  ex : ∃ D, all = D ++ L ∧ ∀ i d, D[i]? = some d → all.length ≤ i + 4096 → span ≤ clock - d.1
  few : L.length ≤ 4096
  rise : all.Pairwise (fun a b => a.1 ≤ b.1)
  le : ∀ s ∈ all, s.1 ≤ clock
theorem WinInv.nil (c span : Int) : WinInv [] [] c span := ⟨⟨[], rfl, fun i d h => by simp at h⟩, by decide, List.Pairwise.nil, fun s h => by cases h⟩
theorem WinInv.clock {all L : List (Int × Int)} {c t span : Int} (h : WinInv all L c span) (ht : c ≤ t) : WinInv all L t span := by
  obtain ⟨D, h1, h2⟩ := h.ex
  exact ⟨⟨D, h1, fun i d hi hl => by have := h2 i d hi hl; omega⟩, h.few, h.rise, fun s hs => by have := h.le s hs; omega⟩
theorem pushP_len {L : List (Int × Int)} (s : Int × Int) (h : L.length ≤ 4096) : (pushP L s).length ≤ 4096 := by
  unfold pushP
  split
  · rw [List.length_append, List.length_tail]; simp; omega
  · rw [List.length_append]; simp; omega
theorem WinInv.push {all L : List (Int × Int)} {span : Int} {s : Int × Int} (h : WinInv all L s.1 span) : WinInv (all ++ [s]) (pushP L s) s.1 span := by
  obtain ⟨D, h1, h2⟩ := h.ex
  refine ⟨?_, pushP_len s h.few, ?_, ?_⟩
  · unfold pushP
    split
    · rename_i hf
      cases L with
      | nil => simp at hf
      | cons x T =>
        refine ⟨D ++ [x], by rw [h1]; simp, fun i d hi hl => ?_⟩
        rw [List.length_append] at hl
        have hal : all.length = D.length + 4096 := by rw [h1, List.length_append]; omega
        simp only [List.length_cons, List.length_nil] at hl
        by_cases hd : i < D.length
        · rw [List.getElem?_append_left hd] at hi
          exact h2 i d hi (by omega)
        · have := (List.getElem?_eq_some_iff.1 hi).1
          simp at this
          omega
    · refine ⟨D, by rw [h1]; simp, fun i d hi hl => h2 i d hi ?_⟩
      rw [List.length_append] at hl
      simp only [List.length_cons, List.length_nil] at hl
      omega
  · rw [List.pairwise_append]
    exact ⟨h.rise, List.pairwise_singleton _ _, fun a ha b hb => by simp at hb; subst hb; exact h.le a ha⟩
  · intro x hx
    rcases List.mem_append.1 hx with hx | hx
    · exact h.le x hx
    · simp at hx; subst hx; exact Int.le_refl _
theorem expP_split (t span : Int) : ∀ L : List (Int × Int), ∃ E, L = E ++ expP t span L ∧ ∀ d ∈ E, span ≤ t - d.1
  | [] => ⟨[], rfl, fun d h => by cases h⟩
  | s :: L => by
    unfold expP
    split
    · exact ⟨[], rfl, fun d h => by cases h⟩
    · obtain ⟨E, h1, h2⟩ := expP_split t span L
      refine ⟨s :: E, by rw [List.cons_append, ← h1], fun d hd => ?_⟩
      rcases List.mem_cons.1 hd with rfl | hd
      · omega
      · exact h2 d hd
theorem expP_late (t span : Int) : ∀ L : List (Int × Int), L.Pairwise (fun a b => a.1 ≤ b.1) → ∀ d ∈ expP t span L, t - d.1 < span
  | [], _, d, h => by cases h
  | s :: L, hp, d, h => by
    unfold expP at h
    rw [List.pairwise_cons] at hp
    split at h
    · rename_i hs
      rcases List.mem_cons.1 h with rfl | h
      · exact hs
      · have := hp.1 d h; omega
    · exact expP_late t span L hp.2 d h
theorem expP_len (t span : Int) (L : List (Int × Int)) : (expP t span L).length ≤ L.length := by
  obtain ⟨E, h1, -⟩ := expP_split t span L
  have := congrArg List.length h1
  rw [List.length_append] at this
  omega
theorem WinInv.expire {all L : List (Int × Int)} {t span : Int} (h : WinInv all L t span) : WinInv all (expP t span L) t span ∧ heldP all t span = expP t span L := by
  obtain ⟨D, h1, h2⟩ := h.ex
  obtain ⟨E, e1, e2⟩ := expP_split t span L
  have hp : L.Pairwise (fun a b => a.1 ≤ b.1) := by have := h.rise; rw [h1, List.pairwise_append] at this; exact this.2.1
  have hlate := expP_late t span L hp
  have hlen := expP_len t span L
  have hall : all = (D ++ E) ++ expP t span L := by rw [List.append_assoc, ← e1]; exact h1
  have hex : ∀ i d, (D ++ E)[i]? = some d → all.length ≤ i + 4096 → span ≤ t - d.1 := by
    intro i d hi hl
    by_cases hd : i < D.length
    · rw [List.getElem?_append_left hd] at hi; exact h2 i d hi hl
    · rw [List.getElem?_append_right (by omega)] at hi
      exact e2 d (List.mem_of_getElem? hi)
  refine ⟨⟨⟨D ++ E, hall, hex⟩, by have := h.few; omega, h.rise, h.le⟩, ?_⟩
  generalize expP t span L = M at *
  unfold heldP
  have hfew := h.few
  generalize hn : all.length - 4096 = n
  have hDE : n ≤ (D ++ E).length := by
    have := congrArg List.length hall
    rw [List.length_append] at this
    omega
  rw [hall, List.drop_append_of_le_length hDE, List.filter_append]
  have f1 : ((D ++ E).drop n).filter (lateB t span) = [] := by
    rw [List.filter_eq_nil_iff]
    intro d hd
    obtain ⟨i, hi⟩ := List.getElem?_of_mem hd
    rw [List.getElem?_drop] at hi
    have := hex _ d hi (by omega)
    unfold lateB
    simp only [decide_eq_true_eq]
    omega
  have f2 : M.filter (lateB t span) = M := by
    rw [List.filter_eq_self]
    intro d hd
    exact decide_eq_true (hlate d hd)
  rw [f1, f2, List.nil_append]
/-- The sum of a list of numbers within int64. -/
def sumV (L : List (Int × Int)) : Int := (L.map (·.2)).sum
theorem sumV_push (L : List (Int × Int)) (s : Int × Int) : sumV (L ++ [s]) = sumV L + s.2 := by unfold sumV; simp
theorem sumV_cons (L : List (Int × Int)) (s : Int × Int) : sumV (s :: L) = s.2 + sumV L := by unfold sumV; simp
theorem sum_bnd : ∀ (L : List Int), (∀ x ∈ L, -9223372036854775808 ≤ x ∧ x ≤ 9223372036854775807) → -9223372036854775808 * (L.length : Int) ≤ L.sum ∧ L.sum ≤ 9223372036854775807 * (L.length : Int)
  | [], _ => by simp
  | x :: L, h => by
    have h1 := h x List.mem_cons_self
    have h2 := sum_bnd L (fun y hy => h y (List.mem_cons_of_mem _ hy))
    rw [List.sum_cons, List.length_cons]
    omega
end Go.Proofs.Ytgfnlhigmncdmaa

end
