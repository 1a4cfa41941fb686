/-
  Plain laws: the reference's number at a place and of a rank, of a list in any order, is that of the list in rising order. No program in sight.
-/
import Derived.Test.YtfojfgnhblgckaaRankRefList
import Derived.Test.YtfojfgnhblgckaaXRefsx1
namespace Go.Proofs.Ytfojfgnhblgckaa
open Go.RowKit Go.Proofs.Ytfojfgnhblgckaa.XRefs Go.Proofs.YtfojfgnhblgckaaW.PrintWords Go.Proofs.YtfojfgnhblgckaaW.PrintLast Go.Proofs.YtfojfgnhblgckaaW.PrintMore

def sameN (v : Int) (L : List Int) : Nat := (L.filter fun x => decide (x = v)).length
theorem asLow_succ (v : Int) (L : List Int) : asLow v L = lower (v + 1) L := by
  unfold asLow lower
  congr 1
  refine List.filter_congr (fun x _ => ?_)
  by_cases h : x ≤ v
  · rw [decide_eq_true h, decide_eq_true (by omega)]
  · rw [decide_eq_false h, decide_eq_false (by omega)]
theorem low_same (v : Int) : ∀ L : List Int, lower v L + sameN v L = asLow v L
  | [] => rfl
  | x :: L => by
    have ih := low_same v L
    unfold lower sameN asLow at ih ⊢
    simp only [List.filter_cons]
    rcases Int.lt_trichotomy x v with h | h | h
    · rw [decide_eq_true h, decide_eq_false (by omega), decide_eq_true (by omega)]; simp; omega
    · rw [decide_eq_false (by omega), decide_eq_true h, decide_eq_true (by omega)]; simp; omega
    · rw [decide_eq_false (by omega), decide_eq_false (by omega), decide_eq_false (by omega)]; simp; omega
theorem same_take {v : Int} {L : List Int} {i : Nat} (h : i < L.length) : sameN v (L.take (i + 1)) = sameN v (L.take i) + if L.getD i 0 = v then 1 else 0 := by
  unfold sameN
  rw [List.take_add_one, List.getElem?_eq_getElem h, Option.toList_some, List.filter_append, List.length_append, List.getD_eq_getElem?_getD, List.getElem?_eq_getElem h]
  by_cases hx : L[i] = v <;> simp [hx]
/-- Of a list in rising order, the one of which so many are lower and more as low is the one at that place. -/
theorem mid_unique {S : List Int} {x : Int} {i : Nat} (h : Rising S) (hi : i < S.length) : (lower x S ≤ i ∧ i < asLow x S) ↔ S.getD i 0 = x := by
  rw [asLow_succ]
  have h1 := lower_at (v := x) h i hi
  have h2 := lower_at (v := x + 1) h i hi
  constructor
  · rintro ⟨h3, h4⟩
    have a := h2.2 h4
    have b : ¬ S.getD i 0 < x := fun c => by have := h1.1 c; omega
    omega
  · intro e
    refine ⟨?_, h2.1 (by omega)⟩
    rcases Nat.lt_or_ge i (lower x S) with c | c
    · have := h1.2 c; omega
    · exact c
theorem wsucc (a : Nat) (h : a ≤ 100000000) : wrap64 ((a : Int) + 1) = ((a + 1 : Nat) : Int) := by rw [mw (by omega) (by omega)]; omega
theorem at_l1 {L : List Int} {i : Int} {m : Nat} {R : Int × Bool} (hm : m < L.length) (hL : L.length < 1048577)
    (h : if (lower (rd L (m : Int)) L : Int) ≤ i ∧ i < ((lower (rd L (m : Int)) L + sameN (rd L (m : Int)) L : Nat) : Int) then R = (rd L (m : Int), true) else ∃ k, capstanref07_At.l0 k L i ((m + 1 : Nat) : Int) = some R) :
    ∀ (n j : Nat), j + n = L.length → ∃ k, capstanref07_At.l1 k L i (m : Int) (lower (rd L (m : Int)) (L.take j) : Int) (sameN (rd L (m : Int)) (L.take j) : Int) (j : Int) = some R := by
  have b1 : ∀ j, lower (rd L (m : Int)) (L.take j) ≤ L.length := fun j => Nat.le_trans (List.length_filter_le _ _) (by rw [List.length_take]; omega)
  have b2 : ∀ j, sameN (rd L (m : Int)) (L.take j) ≤ L.length := fun j => Nat.le_trans (List.length_filter_le _ _) (by rw [List.length_take]; omega)
  intro n
  induction n with
  | zero =>
    intro j hj
    have ht : L.take j = L := List.take_of_length_le (by omega)
    have c1 := b1 j
    have c2 := b2 j
    rw [ht] at c1 c2 ⊢
    have hw : wrap64 ((lower (rd L (m : Int)) L : Int) + (sameN (rd L (m : Int)) L : Int)) = ((lower (rd L (m : Int)) L + sameN (rd L (m : Int)) L : Nat) : Int) := by rw [mw (by omega) (by omega)]; omega
    have hw2 : wrap64 ((m : Int) + 1) = ((m + 1 : Nat) : Int) := by rw [mw (by omega) (by omega)]; omega
    by_cases hh : (lower (rd L (m : Int)) L : Int) ≤ i ∧ i < ((lower (rd L (m : Int)) L + sameN (rd L (m : Int)) L : Nat) : Int)
    · rw [if_pos hh] at h
      refine ⟨1, ?_⟩
      simp only [capstanref07_At.l1]
      rw [if_neg (by omega), if_pos hh.1, hw, if_pos hh.2, if_pos (by omega), if_pos (by omega), h]
    · rw [if_neg hh] at h
      obtain ⟨k, hk⟩ := h
      refine ⟨k + 1, ?_⟩
      simp only [capstanref07_At.l1]
      rw [if_neg (by omega), hw, hw2]
      by_cases h1 : (lower (rd L (m : Int)) L : Int) ≤ i
      · rw [if_pos h1, if_neg (fun h2 => hh ⟨h1, h2⟩)]; exact hk
      · rw [if_neg h1]; exact hk
  | succ n ih =>
    intro j hj
    obtain ⟨k, hk⟩ := ih (j + 1) (by omega)
    clear ih h
    have hjl : j < L.length := by omega
    have w1 := wsucc j (by omega)
    have w2 := wsucc (lower (rd L (m : Int)) (L.take j)) (Nat.le_trans (b1 j) (by omega))
    have w3 := wsucc (sameN (rd L (m : Int)) (L.take j)) (Nat.le_trans (b2 j) (by omega))
    have f1 : (j : Int) < (L.length : Int) := by omega
    have f2 : (0 : Int) ≤ (j : Int) := by omega
    have f3 : (0 : Int) ≤ (m : Int) := by omega
    have f4 : (m : Int) < (L.length : Int) := by omega
    clear b1 b2 hj hL hm
    rw [lower_take hjl, same_take hjl, ← rd_nat] at hk
    refine ⟨k + 1, ?_⟩
    simp only [capstanref07_At.l1]
    rw [if_pos f1, if_pos f2, if_pos f3, if_pos f4, w1, w2, w3]
    clear w1 w2 w3 f1 f2 f3 f4 hjl
    by_cases h1 : rd L (j : Int) < rd L (m : Int)
    · have h2 : ¬ rd L (j : Int) = rd L (m : Int) := Int.ne_of_lt h1
      rw [if_pos h1, if_neg h2] at hk
      rw [if_pos h1, if_neg h2]
      exact hk
    · rw [if_neg h1] at hk
      rw [if_neg h1]
      by_cases h2 : rd L (j : Int) = rd L (m : Int)
      · rw [if_pos h2] at hk
        rw [if_pos h2]
        exact hk
      · rw [if_neg h2] at hk
        rw [if_neg h2]
        exact hk
theorem at_l0 {L : List Int} {i : Nat} (hi : i < L.length) (hL : L.length < 1048577) :
    ∀ (n m : Nat), m + n = L.length → (∃ j, m ≤ j ∧ j < L.length ∧ L.getD j 0 = (srt L).getD i 0) → ∃ k, capstanref07_At.l0 k L (i : Int) (m : Int) = some ((srt L).getD i 0, true) := by
  have hr := srt_rising L
  have hp := srt_perm L
  have hsl := srt_len L
  have key : ∀ m : Nat, ((lower (rd L (m : Int)) L : Int) ≤ (i : Int) ∧ (i : Int) < ((lower (rd L (m : Int)) L + sameN (rd L (m : Int)) L : Nat) : Int)) ↔ (srt L).getD i 0 = rd L (m : Int) := by
    intro m
    have := mid_unique (x := rd L (m : Int)) hr (i := i) (by omega)
    rw [lower_perm hp, asLow_perm hp, ← low_same] at this
    rw [← this]
    constructor
    · rintro ⟨a, b⟩; exact ⟨by omega, by omega⟩
    · rintro ⟨a, b⟩; exact ⟨by omega, by omega⟩
  intro n
  induction n with
  | zero => rintro m hm ⟨j, h1, h2, _⟩; omega
  | succ n ih =>
    rintro m hm ⟨j, h1, h2, h3⟩
    have hc : if (lower (rd L (m : Int)) L : Int) ≤ (i : Int) ∧ (i : Int) < ((lower (rd L (m : Int)) L + sameN (rd L (m : Int)) L : Nat) : Int) then ((srt L).getD i 0, true) = (rd L (m : Int), true) else ∃ k, capstanref07_At.l0 k L (i : Int) ((m + 1 : Nat) : Int) = some ((srt L).getD i 0, true) := by
      split
      · rename_i hh
        rw [(key m).1 hh]
      · rename_i hh
        refine ih (m + 1) (by omega) ⟨j, ?_, h2, h3⟩
        rcases Nat.eq_or_lt_of_le h1 with e | hlt
        · exfalso
          apply hh
          refine (key m).2 ?_
          rw [rd_nat, e, h3]
        · exact hlt
    obtain ⟨k, hk⟩ := at_l1 (by omega) hL hc L.length 0 (by omega)
    refine ⟨k + 1, ?_⟩
    simp only [capstanref07_At.l0]
    rw [if_pos (by omega)]
    exact hk
theorem at_f (L : List Int) (i : Int) (hL : L.length < 1048577) : ∃ k, capstanref07_At.f k L i = some (atV (srt L) i, atB (srt L) i) := by
  have hsl := srt_len L
  by_cases hin : 0 ≤ i ∧ i < (L.length : Int)
  · obtain ⟨m, rfl⟩ := Int.eq_ofNat_of_zero_le hin.1
    have hmem : (srt L).getD m 0 ∈ L := by
      refine (srt_perm L).mem_iff.1 ?_
      rw [List.getD_eq_getElem?_getD, List.getElem?_eq_getElem (by omega)]
      exact List.getElem_mem _
    obtain ⟨j, hj, he⟩ := List.getElem_of_mem hmem
    obtain ⟨k, hk⟩ := at_l0 (L := L) (i := m) (by omega) hL L.length 0 (by omega) ⟨j, by omega, hj, by rw [List.getD_eq_getElem?_getD, List.getElem?_eq_getElem hj]; exact he⟩
    have e1 : atV (srt L) (m : Int) = (srt L).getD m 0 := by unfold atV; rw [if_pos (by omega), Int.toNat_natCast]
    have e2 : atB (srt L) (m : Int) = true := decide_eq_true (by omega)
    refine ⟨k + 1, ?_⟩
    unfold capstanref07_At.f
    rw [if_neg (by omega)]
    simp only [capstanref07_At.j0]
    rw [if_neg (by simp; omega), e1, e2]
    exact hk
  · have e1 : atV (srt L) i = 0 := by unfold atV; rw [if_neg (by omega)]
    have e2 : atB (srt L) i = false := decide_eq_false (by omega)
    refine ⟨1, ?_⟩
    rw [e1, e2]
    unfold capstanref07_At.f
    split
    · simp [capstanref07_At.j0]
    · simp only [capstanref07_At.j0]
      rw [if_pos (decide_eq_true (by omega))]
theorem by_l0 {L : List Int} {p : Int} {R : Int × Bool} {q : Nat} (h0 : 0 ≤ p) (hp : p ≤ 100000000) (hL : L.length < 100000) (h1 : ∀ m : Nat, m < q → (m : Int) * 100000000 < p * L.length) (h2 : p * L.length ≤ (q : Int) * 100000000) (hq : q < 1000000)
    (h : ∃ k, capstanref07_At.f k L ((q : Int) - 1) = some R) : ∀ (n m : Nat), m + n = q → ∃ k, capstanref07_By.l0 k L p (m : Int) = some R := by
  have hb : 0 ≤ p * (L.length : Int) ∧ p * (L.length : Int) ≤ 10000000000000 := by
    have a1 : p * (L.length : Int) ≤ 100000000 * L.length := Int.mul_le_mul_of_nonneg_right hp (by omega)
    have a2 : 0 ≤ p * (L.length : Int) := Int.mul_nonneg h0 (by omega)
    omega
  generalize hP : p * (L.length : Int) = P at *
  have wP : wrap64 P = P := mw (by omega) (by omega)
  intro n
  induction n with
  | zero =>
    intro m hm
    have e : m = q := by omega
    subst e
    obtain ⟨k, hk⟩ := h
    have w1 : wrap64 ((m : Int) * 100000000) = (m : Int) * 100000000 := mw (by omega) (by omega)
    have w2 : wrap64 ((m : Int) - 1) = (m : Int) - 1 := mw (by omega) (by omega)
    refine ⟨k + 1, ?_⟩
    simp only [capstanref07_By.l0]
    rw [hP, w1, wP, w2, if_neg (by omega), hk]
    rfl
  | succ n ih =>
    intro m hm
    obtain ⟨k, hk⟩ := ih (m + 1) (by omega)
    have := h1 m (by omega)
    have w1 : wrap64 ((m : Int) * 100000000) = (m : Int) * 100000000 := mw (by omega) (by omega)
    have w2 : wrap64 ((m : Int) + 1) = ((m + 1 : Nat) : Int) := by rw [mw (by omega) (by omega)]; omega
    refine ⟨k + 1, ?_⟩
    simp only [capstanref07_By.l0]
    rw [hP, w1, wP, w2, if_pos (by omega)]
    exact hk
theorem by_f (L : List Int) (p : Int) (hL : L.length < 100000) : ∃ k, capstanref07_By.f k L p = some (byV (srt L) p, askB (srt L) p) := by
  have hsl := srt_len L
  by_cases hin : 1 ≤ p ∧ p ≤ 100000000 ∧ 0 < L.length
  · obtain ⟨h1, h2, h3⟩ := hin
    have hpl := place_ok p L.length h1 h2 h3
    have e1 := byV_yes (L := srt L) h1 h2 (by omega)
    have e2 := askB_yes (L := srt L) h1 h2 (by omega)
    rw [hsl] at e1
    obtain ⟨r, hr⟩ := Int.eq_ofNat_of_zero_le hpl.1
    rw [hr] at e1 hpl
    rw [Int.toNat_natCast] at e1
    have hq : place p L.length = r := hr
    unfold place at hq
    have ha := at_f L (r : Int) (by omega)
    have e3 : atV (srt L) (r : Int) = (srt L).getD r 0 := by unfold atV; rw [if_pos (by omega), Int.toNat_natCast]
    have e4 : atB (srt L) (r : Int) = true := decide_eq_true (by omega)
    rw [e3, e4] at ha
    obtain ⟨k, hk⟩ := by_l0 (q := r + 1) (R := ((srt L).getD r 0, true)) (L := L) (p := p) (by omega) h2 hL (fun m hm => by generalize p * (L.length : Int) = P at *; omega) (by generalize p * (L.length : Int) = P at *; omega) (by omega) (by
      have : ((r + 1 : Nat) : Int) - 1 = (r : Int) := by omega
      rw [this]
      exact ha) (r + 1) 0 (by omega)
    refine ⟨k + 1, ?_⟩
    unfold capstanref07_By.f
    rw [if_neg (by omega), if_neg (by omega)]
    simp only [capstanref07_By.j0]
    rw [if_neg (by simp; omega), e1, e2]
    exact hk
  · have e2 : askB (srt L) p = false := decide_eq_false (by rw [hsl]; exact hin)
    have e1 : byV (srt L) p = 0 := by unfold byV; rw [e2]; rfl
    refine ⟨1, ?_⟩
    rw [e1, e2]
    unfold capstanref07_By.f
    split
    · simp [capstanref07_By.j0]
    · split
      · simp [capstanref07_By.j0]
      · simp only [capstanref07_By.j0]
        rw [if_pos (decide_eq_true (by omega))]
/-- The reference's answers, by its numbers. -/
theorem ref_at {w : World} {A : Option Addr} {c n : Nat} {L : List Int} (i : Int) (hn : L.length = n) (hs : n ≤ 1000) (hC : Kd.C (Kd.int .i64) w A L.length L) (hc : n ≤ c) :
    Calls Try.prog 14 #[.slice A n c, .int .i64 i] w fun e w' => e = .returned (.tuple #[.int .i64 (atV (srt L) i), .bool (atB (srt L) i)]) ∧ Below w.heap.size w w' := by
  subst hn
  obtain ⟨k, hk⟩ := at_f L i (by omega)
  refine (capstanref07_At.calls k A c L i _ _ w hC hc hk).mono ?_
  rintro e w' ⟨rfl, ⟨nd, rfl⟩⟩
  exact ⟨rfl, pw_below_drewN (Below.refl _ _) nd⟩
theorem ref_by {w : World} {A : Option Addr} {c n : Nat} {L : List Int} (p : Int) (hn : L.length = n) (hs : n ≤ 1000) (hC : Kd.C (Kd.int .i64) w A L.length L) (hc : n ≤ c) :
    Calls Try.prog 15 #[.slice A n c, .int .i64 p] w fun e w' => e = .returned (.tuple #[.int .i64 (byV (srt L) p), .bool (askB (srt L) p)]) ∧ Below w.heap.size w w' := by
  subst hn
  obtain ⟨k, hk⟩ := by_f L p (by omega)
  refine (capstanref07_By.calls k A c L p _ _ w hC hc hk).mono ?_
  rintro e w' ⟨rfl, ⟨nd, rfl⟩⟩
  exact ⟨rfl, pw_below_drewN (Below.refl _ _) nd⟩
end Go.Proofs.Ytfojfgnhblgckaa
