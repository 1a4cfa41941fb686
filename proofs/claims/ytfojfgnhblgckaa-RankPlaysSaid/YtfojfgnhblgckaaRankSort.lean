/-
  Plain laws: numbers put in one by one stand in rising order; the one of a rank, how many are lower, how many as low; the greatest. No program in sight.
-/
import Derived.Test.YtfojfgnhblgckaaRankFns5
namespace Go.Proofs.Ytfojfgnhblgckaa
open Go.RowKit Go.Proofs.YtfojfgnhblgckaaW.PrintWords
def srt (L : List Int) : List Int := L.foldl (fun S x => putL x S) []
theorem srt_snoc (L : List Int) (x : Int) : srt (L ++ [x]) = putL x (srt L) := by simp [srt, List.foldl_append]
theorem srt_take {L : List Int} {i : Nat} (h : i < L.length) : srt (L.take (i + 1)) = putL (L.getD i 0) (srt (L.take i)) := by
  rw [List.take_add_one, List.getElem?_eq_getElem h, Option.toList_some, srt_snoc, List.getD_eq_getElem?_getD, List.getElem?_eq_getElem h]
  rfl
theorem snoc_ind {P : List Int → Prop} (h0 : P []) (h1 : ∀ L x, P L → P (L ++ [x])) (L : List Int) : P L := by
  have : ∀ (n : Nat) (L : List Int), L.length = n → P L := by
    intro n
    induction n with
    | zero => intro L h; rw [List.eq_nil_of_length_eq_zero h]; exact h0
    | succ n ih =>
      intro L h
      have hne : L ≠ [] := by rintro rfl; simp at h
      rw [← List.dropLast_concat_getLast hne]
      exact h1 _ _ (ih _ (by rw [List.length_dropLast]; omega))
  exact this _ L rfl
theorem srt_rising (L : List Int) : Rising (srt L) := by
  refine snoc_ind (P := fun L => Rising (srt L)) rising_nil (fun L x ih => ?_) L
  rw [srt_snoc]
  exact put_rising x _ ih
theorem srt_perm (L : List Int) : (srt L).Perm L := by
  refine snoc_ind (P := fun L => (srt L).Perm L) (List.Perm.refl _) (fun L x ih => ?_) L
  rw [srt_snoc]
  refine (put_perm x _).trans ?_
  refine (List.Perm.cons x ih).trans ?_
  exact (List.perm_append_comm (l₁ := [x]) (l₂ := L))
theorem srt_len (L : List Int) : (srt L).length = L.length := (srt_perm L).length_eq
/-- Two lists in rising order with the same numbers are one. -/
theorem rising_eq : ∀ {A B : List Int}, Rising A → Rising B → A.Perm B → A = B
  | [], B, _, _, h => (List.nil_perm.1 h).symm
  | x :: A, [], _, _, h => absurd h.length_eq (by simp)
  | x :: A, y :: B, ha, hb, h => by
    obtain ⟨a1, a2⟩ := rising_cons.1 ha
    obtain ⟨b1, b2⟩ := rising_cons.1 hb
    have hx : x ∈ y :: B := h.mem_iff.1 List.mem_cons_self
    have hy : y ∈ x :: A := h.mem_iff.2 List.mem_cons_self
    have e : x = y := by
      rcases List.mem_cons.1 hx with e | hx
      · exact e
      · rcases List.mem_cons.1 hy with e | hy
        · exact e.symm
        · have := a1 y hy
          have := b1 x hx
          omega
    subst e
    rw [rising_eq a2 b2 (List.Perm.cons_inv h)]
theorem srt_unique {S L : List Int} (h : Rising S) (hp : S.Perm L) : S = srt L := rising_eq h (srt_rising L) (hp.trans (srt_perm L).symm)
/-- How many are as low. -/
def asLow (v : Int) (L : List Int) : Nat := (L.filter fun x => decide (x ≤ v)).length
theorem lower_perm {v : Int} {A B : List Int} (h : A.Perm B) : lower v A = lower v B := (h.filter _).length_eq
theorem asLow_perm {v : Int} {A B : List Int} (h : A.Perm B) : asLow v A = asLow v B := (h.filter _).length_eq
theorem lower_take {v : Int} {L : List Int} {i : Nat} (h : i < L.length) : lower v (L.take (i + 1)) = lower v (L.take i) + if L.getD i 0 < v then 1 else 0 := by
  unfold lower
  rw [List.take_add_one, List.getElem?_eq_getElem h, Option.toList_some, List.filter_append, List.length_append, List.getD_eq_getElem?_getD, List.getElem?_eq_getElem h]
  by_cases hx : L[i] < v <;> simp [hx]
theorem asLow_take {v : Int} {L : List Int} {i : Nat} (h : i < L.length) : asLow v (L.take (i + 1)) = asLow v (L.take i) + if L.getD i 0 ≤ v then 1 else 0 := by
  unfold asLow
  rw [List.take_add_one, List.getElem?_eq_getElem h, Option.toList_some, List.filter_append, List.length_append, List.getD_eq_getElem?_getD, List.getElem?_eq_getElem h]
  by_cases hx : L[i] ≤ v <;> simp [hx]
theorem count_front {p : Int → Bool} : ∀ {L : List Int} {k : Nat}, k ≤ L.length → (∀ i, i < k → p (L.getD i 0) = true) → k ≤ (L.filter p).length
  | L, 0, _, _ => Nat.zero_le _
  | [], k + 1, h, _ => by simp at h
  | x :: L, k + 1, h, hp => by
    have h0 : p x = true := by simpa using hp 0 (by omega)
    rw [List.filter_cons, if_pos h0, List.length_cons]
    exact Nat.succ_le_succ (count_front (by simpa using h) (fun i hi => by simpa using hp (i + 1) (by omega)))
/-- At least k + 1 are as low as number k, at most k are lower. -/
theorem rank_mid {S : List Int} (h : Rising S) {k : Nat} (hk : k < S.length) : k + 1 ≤ asLow (S.getD k 0) S ∧ lower (S.getD k 0) S ≤ k := by
  constructor
  · refine count_front (by omega) (fun i hi => decide_eq_true ?_)
    rcases Nat.eq_or_lt_of_le (show i ≤ k by omega) with e | hlt
    · rw [e]; exact Int.le_refl _
    · exact h i k hlt hk
  · exact lower_down h hk (by omega)
def mx2 (a b : Int) : Int := if a < b then b else a
def mxL (L : List Int) (i : Nat) : Int := (L.take i).foldl mx2 (L.getD 0 0)
theorem mxL_take {L : List Int} {i : Nat} (h : i < L.length) : mxL L (i + 1) = mx2 (mxL L i) (L.getD i 0) := by
  unfold mxL
  have e : L.getD i 0 = L[i] := by rw [List.getD_eq_getElem?_getD, List.getElem?_eq_getElem h]; rfl
  rw [e, List.take_add_one, List.getElem?_eq_getElem h, Option.toList_some, List.foldl_append]
  rfl
theorem mxL_mem {L : List Int} (h0 : 0 < L.length) : ∀ i, i ≤ L.length → mxL L i ∈ L ∧ ∀ j, j < i → L.getD j 0 ≤ mxL L i := by
  intro i
  induction i with
  | zero =>
    intro _
    refine ⟨?_, fun j hj => by omega⟩
    unfold mxL
    rw [List.take_zero, List.foldl_nil, List.getD_eq_getElem?_getD, List.getElem?_eq_getElem h0]
    exact List.getElem_mem h0
  | succ i ih =>
    intro hi
    obtain ⟨a1, a2⟩ := ih (by omega)
    have hm : L.getD i 0 ∈ L := by
      rw [List.getD_eq_getElem?_getD, List.getElem?_eq_getElem (by omega)]
      exact List.getElem_mem _
    rw [mxL_take (by omega)]
    unfold mx2
    split
    · refine ⟨hm, fun j hj => ?_⟩
      rcases Nat.eq_or_lt_of_le (show j ≤ i by omega) with e | hlt
      · rw [e]; exact Int.le_refl _
      · have := a2 j hlt; omega
    · refine ⟨a1, fun j hj => ?_⟩
      rcases Nat.eq_or_lt_of_le (show j ≤ i by omega) with e | hlt
      · rw [e]; omega
      · exact a2 j hlt
theorem rising_last {S : List Int} (h : Rising S) {y : Int} (hy : y ∈ S) : y ≤ S.getD (S.length - 1) 0 := by
  obtain ⟨i, hi, rfl⟩ := List.getElem_of_mem hy
  have e : S.getD i 0 = S[i] := by rw [List.getD_eq_getElem?_getD, List.getElem?_eq_getElem hi]; rfl
  rw [← e]
  rcases Nat.eq_or_lt_of_le (show i ≤ S.length - 1 by omega) with e | hlt
  · rw [e]; exact Int.le_refl _
  · exact h _ _ hlt (by omega)
theorem place_top (n : Nat) : place 100000000 n = (n : Int) - 1 := by
  unfold place
  omega
theorem askB_yes {L : List Int} {p : Int} (h1 : 1 ≤ p) (h2 : p ≤ 100000000) (h0 : 0 < L.length) : askB L p = true := decide_eq_true ⟨h1, h2, h0⟩
theorem byV_yes {L : List Int} {p : Int} (h1 : 1 ≤ p) (h2 : p ≤ 100000000) (h0 : 0 < L.length) : byV L p = L.getD (place p L.length).toNat 0 := by
  unfold byV
  rw [askB_yes h1 h2 h0]
  rfl
/-- The law of RankBounds. -/
theorem bounds_law {L : List Int} {p : Int} (h1 : 1 ≤ p) (h2 : p ≤ 100000000) (h0 : 0 < L.length) :
    p * L.length ≤ (asLow (byV (srt L) p) L : Int) * 100000000 ∧ (lower (byV (srt L) p) L : Int) * 100000000 < p * L.length ∧ byV (srt L) 100000000 = mxL L L.length ∧ byV (srt L) p ≤ byV (srt L) 100000000 := by
  have hs := srt_len L
  have hr := srt_rising L
  have hp := srt_perm L
  have hpl := place_ok p L.length h1 h2 h0
  have e1 := byV_yes (L := srt L) h1 h2 (by omega)
  have e2 := byV_yes (L := srt L) (p := 100000000) (by omega) (by omega) (by omega)
  rw [hs] at e1 e2
  rw [place_top] at e2
  obtain ⟨k, hk⟩ := Int.eq_ofNat_of_zero_le hpl.1
  rw [hk] at e1 hpl
  rw [Int.toNat_natCast] at e1
  obtain ⟨m1, m2⟩ := rank_mid hr (k := k) (by omega)
  rw [← e1, asLow_perm hp] at m1
  rw [← e1, lower_perm hp] at m2
  have hq : place p L.length = k := hk
  unfold place at hq
  have e3 : ((L.length : Int) - 1).toNat = (srt L).length - 1 := by omega
  rw [e3] at e2
  refine ⟨?_, ?_, ?_, ?_⟩
  · generalize p * (L.length : Int) = x at *
    omega
  · generalize p * (L.length : Int) = x at *
    omega
  · obtain ⟨a1, a2⟩ := mxL_mem h0 L.length (Nat.le_refl _)
    have b1 := rising_last hr (hp.mem_iff.2 a1)
    have b2 : (srt L).getD ((srt L).length - 1) 0 ∈ L := by
      refine hp.mem_iff.1 ?_
      rw [List.getD_eq_getElem?_getD, List.getElem?_eq_getElem (by omega)]
      exact List.getElem_mem _
    obtain ⟨j, hj, he⟩ := List.getElem_of_mem b2
    have b3 := a2 j hj
    rw [List.getD_eq_getElem?_getD, List.getElem?_eq_getElem hj] at b3
    rw [e2]
    have : L[j] = (srt L).getD ((srt L).length - 1) 0 := he
    simp only [Option.getD_some] at b3
    omega
  · rw [e1, e2]
    refine rising_last hr ?_
    rw [List.getD_eq_getElem?_getD, List.getElem?_eq_getElem (by omega)]
    exact List.getElem_mem _
end Go.Proofs.Ytfojfgnhblgckaa
