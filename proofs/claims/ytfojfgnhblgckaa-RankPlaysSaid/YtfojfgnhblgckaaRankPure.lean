/-
  Plain laws on numbers in rising order: the first place at which a number may stand. No program in sight.
-/
import Derived.Test.YtfojfgnhblgckaaBase
namespace Go.Proofs.Ytfojfgnhblgckaa
open Go.RowKit Go.Proofs.YtfojfgnhblgckaaW.PrintWords
/-- In rising order. -/
def Rising (L : List Int) : Prop := ∀ i j, i < j → j < L.length → L.getD i 0 ≤ L.getD j 0
/-- How many are lower. -/
def lower (v : Int) (L : List Int) : Nat := (L.filter fun x => decide (x < v)).length
theorem lower_le (v : Int) (L : List Int) : lower v L ≤ L.length := List.length_filter_le _ _
theorem rising_nil : Rising [] := fun i j h1 h2 => by simp at h2
theorem rising_cons {x : Int} {L : List Int} : Rising (x :: L) ↔ (∀ y ∈ L, x ≤ y) ∧ Rising L := by
  constructor
  · intro h
    refine ⟨fun y hy => ?_, fun i j h1 h2 => ?_⟩
    · obtain ⟨i, hi, rfl⟩ := List.getElem_of_mem hy
      have := h 0 (i + 1) (by omega) (by simpa using hi)
      simpa [List.getD_eq_getElem?_getD, List.getElem?_eq_getElem hi] using this
    · have := h (i + 1) (j + 1) (by omega) (by simpa using h2)
      simpa using this
  · rintro ⟨h1, h2⟩ i j hij hj
    cases j with
    | zero => omega
    | succ j =>
      have hjl : j < L.length := by simpa using hj
      cases i with
      | zero =>
        have := h1 L[j] (List.getElem_mem hjl)
        simpa [List.getD_eq_getElem?_getD, List.getElem?_eq_getElem hjl] using this
      | succ i => simpa using h2 i j (by omega) hjl
theorem lower_cons (v x : Int) (L : List Int) : lower v (x :: L) = (if x < v then 1 else 0) + lower v L := by
  unfold lower
  rw [List.filter_cons]
  by_cases h : x < v
  · simp [h]; omega
  · simp [h]
theorem lower_zero {v : Int} : ∀ {L : List Int}, (∀ y ∈ L, v ≤ y) → lower v L = 0
  | [], _ => rfl
  | x :: L, h => by
    rw [lower_cons, if_neg (by have := h x List.mem_cons_self; omega), lower_zero (fun y hy => h y (List.mem_cons_of_mem _ hy))]
/-- Of numbers in rising order just those ahead of that place are lower. -/
theorem lower_at {v : Int} : ∀ {L : List Int}, Rising L → ∀ k, k < L.length → (L.getD k 0 < v ↔ k < lower v L)
  | [], _, k, hk => by simp at hk
  | x :: L, h, k, hk => by
    obtain ⟨h1, h2⟩ := rising_cons.1 h
    rw [lower_cons]
    cases k with
    | zero =>
      by_cases hx : x < v
      · simp [hx]; omega
      · have := lower_zero (v := v) (L := L) (fun y hy => by have := h1 y hy; omega)
        simp [hx, this]
    | succ k =>
      have hk' : k < L.length := by simpa using hk
      have ih := lower_at (v := v) h2 k hk'
      by_cases hx : x < v
      · simp [hx] at ih ⊢
        rw [ih]
        omega
      · have h0 := lower_zero (v := v) (L := L) (fun y hy => by have := h1 y hy; omega)
        rw [h0] at ih ⊢
        simp [hx] at ih ⊢
        exact ih
/-- A search's bounds. -/
theorem lower_up {v : Int} {L : List Int} (h : Rising L) {k : Nat} (hk : k < L.length) (hv : L.getD k 0 < v) : k + 1 ≤ lower v L := (lower_at h k hk).1 hv
theorem lower_down {v : Int} {L : List Int} (h : Rising L) {k : Nat} (hk : k < L.length) (hv : ¬ L.getD k 0 < v) : lower v L ≤ k := by
  have := lower_at (v := v) h k hk
  omega
/-- One more, in its place. -/
def putL (v : Int) (L : List Int) : List Int := L.take (lower v L) ++ v :: L.drop (lower v L)
theorem put_cons (v x : Int) (L : List Int) (h : Rising (x :: L)) : putL v (x :: L) = if x < v then x :: putL v L else v :: x :: L := by
  obtain ⟨h1, h2⟩ := rising_cons.1 h
  unfold putL
  rw [lower_cons]
  by_cases hx : x < v
  · rw [if_pos hx, if_pos hx, Nat.add_comm, List.take_succ_cons, List.drop_succ_cons]
    rfl
  · rw [if_neg hx, if_neg hx, lower_zero (fun y hy => by have := h1 y hy; omega)]
    rfl
theorem put_len (v : Int) (L : List Int) : (putL v L).length = L.length + 1 := by
  have := lower_le v L
  unfold putL
  simp
  omega
theorem mem_put {v y : Int} {L : List Int} : y ∈ putL v L ↔ y = v ∨ y ∈ L := by
  have e : y ∈ L ↔ y ∈ L.take (lower v L) ∨ y ∈ L.drop (lower v L) := by rw [← List.mem_append, List.take_append_drop]
  unfold putL
  rw [List.mem_append, List.mem_cons, e]
  constructor
  · rintro (h | h | h)
    · exact .inr (.inl h)
    · exact .inl h
    · exact .inr (.inr h)
  · rintro (h | h | h)
    · exact .inr (.inl h)
    · exact .inl h
    · exact .inr (.inr h)
theorem put_rising (v : Int) : ∀ L : List Int, Rising L → Rising (putL v L)
  | [], _ => by
    rw [show putL v [] = [v] from rfl]
    exact rising_cons.2 ⟨fun y hy => by simp at hy, rising_nil⟩
  | x :: L, h => by
    obtain ⟨h1, h2⟩ := rising_cons.1 h
    rw [put_cons v x L h]
    by_cases hx : x < v
    · rw [if_pos hx]
      refine rising_cons.2 ⟨fun y hy => ?_, put_rising v L h2⟩
      rcases mem_put.1 hy with rfl | hy
      · omega
      · exact h1 y hy
    · rw [if_neg hx]
      refine rising_cons.2 ⟨fun y hy => ?_, h⟩
      rcases List.mem_cons.1 hy with rfl | hy
      · omega
      · have := h1 y hy; omega
theorem put_perm (v : Int) (L : List Int) : (putL v L).Perm (v :: L) := by
  unfold putL
  refine List.perm_middle.trans ?_
  rw [List.take_append_drop]
/-- Is a number among them? -/
def hasL (v : Int) (L : List Int) : Bool := decide (lower v L < L.length ∧ L.getD (lower v L) 0 = v)
/-- Without one of it, if there is one. -/
def takeL (v : Int) (L : List Int) : List Int := if hasL v L then L.take (lower v L) ++ L.drop (lower v L + 1) else L
theorem has_iff {v : Int} : ∀ {L : List Int}, Rising L → (hasL v L = true ↔ v ∈ L) := by
  intro L h
  unfold hasL
  rw [decide_eq_true_iff]
  constructor
  · rintro ⟨h1, h2⟩
    rw [List.getD_eq_getElem?_getD, List.getElem?_eq_getElem h1] at h2
    rw [← show L[lower v L] = v from h2]
    exact List.getElem_mem h1
  · intro hm
    obtain ⟨i, hi, he⟩ := List.getElem_of_mem hm
    have hg : L.getD i 0 = v := by rw [List.getD_eq_getElem?_getD, List.getElem?_eq_getElem hi]; exact he
    have h1 : lower v L ≤ i := lower_down h hi (by omega)
    have h2 : lower v L < L.length := by omega
    refine ⟨h2, ?_⟩
    have h3 : ¬ L.getD (lower v L) 0 < v := fun hh => absurd ((lower_at h _ h2).1 hh) (Nat.lt_irrefl _)
    rcases Nat.eq_or_lt_of_le h1 with e | h4
    · rw [e]; exact hg
    · have := h _ _ h4 hi
      omega
theorem take_perm {v : Int} {L : List Int} (h : hasL v L = true) : L.Perm (v :: takeL v L) := by
  unfold takeL
  rw [if_pos h]
  unfold hasL at h
  obtain ⟨h1, h2⟩ := of_decide_eq_true h
  refine List.Perm.trans ?_ List.perm_middle
  have e : L.drop (lower v L) = v :: L.drop (lower v L + 1) := by
    rw [List.drop_eq_getElem_cons h1]
    congr 1
    rw [List.getD_eq_getElem?_getD, List.getElem?_eq_getElem h1] at h2
    exact h2
  rw [← e, List.take_append_drop]
theorem take_rising {v : Int} {L : List Int} (h : Rising L) : Rising (takeL v L) := by
  unfold takeL
  split
  · intro i j hij hj
    have hle := lower_le v L
    rw [List.length_append, List.length_take, List.length_drop, Nat.min_eq_left hle] at hj
    have g : ∀ k, (L.take (lower v L) ++ L.drop (lower v L + 1)).getD k 0 = L.getD (if k < lower v L then k else k + 1) 0 := by
      intro k
      rw [List.getD_eq_getElem?_getD, List.getD_eq_getElem?_getD]
      by_cases hk : k < lower v L
      · rw [if_pos hk, List.getElem?_append_left (by rw [List.length_take]; omega), List.getElem?_take, if_pos hk]
      · rw [if_neg hk, List.getElem?_append_right (by rw [List.length_take]; omega), List.length_take, Nat.min_eq_left hle, List.getElem?_drop]
        congr 2
        omega
    rw [g, g]
    refine h _ _ ?_ ?_
    · split <;> split <;> omega
    · split <;> omega
  · exact h
end Go.Proofs.Ytfojfgnhblgckaa
