/-
  Plain laws: the reference's list is the numbers in rising order; two lists are the same. No program in sight.
-/
import Derived.Test.YtfojfgnhblgckaaRankSort
import Derived.Test.YtfojfgnhblgckaaXRefsx2
namespace Go.Proofs.Ytfojfgnhblgckaa
open Go.RowKit Go.Proofs.Ytfojfgnhblgckaa.XRefs Go.Proofs.YtfojfgnhblgckaaW.PrintWords Go.Proofs.YtfojfgnhblgckaaW.PrintLast Go.Proofs.YtfojfgnhblgckaaW.PrintMore

theorem mw {x : Int} (h0 : -9223372036854775808 ≤ x) (h1 : x ≤ 9223372036854775807) : wrap64 x = x := by unfold wrap64; omega
theorem rd_nat (l : List Int) (i : Nat) : rd l (i : Int) = l.getD i 0 := by unfold rd; rw [Int.toNat_natCast]
theorem same_l0 (l : List Int) (hl : l.length < 4611686018427387904) (n : Nat) : ∀ (k i : Nat), i + n = l.length → n < k → capstanref05_Same.l0 k l l (i : Int) = some true := by
  induction n with
  | zero =>
    intro k i hi hk
    obtain ⟨k, rfl⟩ : ∃ m, k = m + 1 := ⟨k - 1, by omega⟩
    simp only [capstanref05_Same.l0]
    rw [if_neg (by omega)]
  | succ n ih =>
    intro k i hi hk
    obtain ⟨k, rfl⟩ : ∃ m, k = m + 1 := ⟨k - 1, by omega⟩
    simp only [capstanref05_Same.l0]
    rw [if_pos (by omega), if_pos (by omega), if_pos (by omega), mw (by omega) (by omega)]
    simp only [if_true]
    exact ih k (i + 1) (by omega) (by omega)
theorem same_f (l : List Int) (hl : l.length < 4611686018427387904) (k : Nat) (hk : l.length < k) : capstanref05_Same.f k l l = some true := by
  unfold capstanref05_Same.f
  rw [if_pos rfl]
  exact same_l0 l hl l.length k 0 (by omega) hk

/-- Put in behind all that are as low is put in. -/
theorem put_shape {x : Int} : ∀ {S : List Int} {j : Nat}, Rising S → j ≤ S.length → (∀ m, j ≤ m → m < S.length → x < S.getD m 0) → (j = 0 ∨ S.getD (j - 1) 0 ≤ x) → S.take j ++ x :: S.drop j = putL x S
  | [], j, _, hj, _, _ => by
    have : j = 0 := by simpa using hj
    subst this
    rfl
  | a :: S, 0, hr, _, h1, _ => by
    have := h1 0 (by omega) (by simp)
    rw [List.getD_cons_zero] at this
    rw [put_cons x a S hr, if_neg (by omega)]
    rfl
  | a :: S, j + 1, hr, hj, h1, h2 => by
    obtain ⟨r1, r2⟩ := rising_cons.1 hr
    have hj' : j ≤ S.length := by simpa using hj
    have ih := put_shape (x := x) (S := S) (j := j) r2 hj' (fun m h3 h4 => by simpa using h1 (m + 1) (by omega) (by simpa using h4)) (by
      rcases Nat.eq_zero_or_pos j with e | hp
      · exact .inl e
      · right
        rcases h2 with h | h
        · omega
        · obtain ⟨j2, rfl⟩ : ∃ m, j = m + 1 := ⟨j - 1, by omega⟩
          simpa using h)
    rw [List.take_succ_cons, List.drop_succ_cons, List.cons_append, ih, put_cons x a S hr]
    split
    · rfl
    · have ha : a = x := by
        have : a ≤ x := by
          rcases h2 with h | h
          · omega
          · rcases Nat.eq_zero_or_pos j with e | hp
            · subst e; simpa using h
            · obtain ⟨j2, rfl⟩ : ∃ m, j = m + 1 := ⟨j - 1, by omega⟩
              have h' : S.getD j2 0 ≤ x := by simpa using h
              have := r1 (S.getD j2 0) (by rw [List.getD_eq_getElem?_getD, List.getElem?_eq_getElem (by omega)]; exact List.getElem_mem _)
              omega
        omega
      subst ha
      unfold putL
      rw [lower_zero r1]
      rfl
theorem mid_len {S : List Int} {j : Nat} (hj : j ≤ S.length) (y : Int) : (S.take j ++ y :: S.drop j).length = S.length + 1 := by
  rw [List.length_append, List.length_cons, List.length_take, List.length_drop]
  omega
theorem mid_set {S : List Int} {j : Nat} (hj : j ≤ S.length) (y z : Int) : (S.take j ++ y :: S.drop j).set j z = S.take j ++ z :: S.drop j := by
  have h : (S.take j).length = j := by rw [List.length_take]; omega
  rw [List.set_append_right _ _ (by omega), h, Nat.sub_self]
  rfl
theorem mid_prev {S : List Int} {j : Nat} (hj : j + 1 ≤ S.length) (y : Int) : (S.take (j + 1) ++ y :: S.drop (j + 1)).getD j 0 = S.getD j 0 := by
  rw [List.getD_eq_getElem?_getD, List.getElem?_append_left (by rw [List.length_take]; omega), List.getElem?_take, if_pos (by omega), List.getD_eq_getElem?_getD]
theorem mid_down {S : List Int} {j : Nat} (hj : j + 1 ≤ S.length) : S.take (j + 1) ++ S.getD j 0 :: S.drop (j + 1) = S.take j ++ S.getD j 0 :: S.drop j := by
  have e : S.getD j 0 = S[j] := by rw [List.getD_eq_getElem?_getD, List.getElem?_eq_getElem (by omega)]; rfl
  rw [List.take_add_one, List.getElem?_eq_getElem (by omega), Option.toList_some, e, List.append_assoc, List.drop_eq_getElem_cons (i := j) (by omega)]
  rfl
theorem list_l1 {L S R : List Int} {i k : Nat} (hi : i < L.length) (hs : S.length < 4611686018427387904) (hr : Rising S) (hL : L.length < 4611686018427387904) (h : capstanref07_List.l0 k L (putL (rd L (i : Int)) S) ((i + 1 : Nat) : Int) = some R) :
    ∀ (j : Nat) (y : Int), j ≤ S.length → (∀ m, j ≤ m → m < S.length → rd L (i : Int) < S.getD m 0) → ∃ k', capstanref07_List.l1 k' L (S.take j ++ y :: S.drop j) (i : Int) (j : Int) = some R := by
  have hw : wrap64 ((i : Int) + 1) = ((i + 1 : Nat) : Int) := by rw [mw (by omega) (by omega)]; omega
  intro j
  induction j with
  | zero =>
    intro y hj h1
    refine ⟨k + 1, ?_⟩
    have hl := mid_len hj y
    have hsh := put_shape hr hj h1 (.inl rfl)
    simp only [capstanref07_List.l1]
    rw [if_neg (by omega), if_pos (by omega), if_pos (by omega), if_pos (by omega), if_pos (by omega), Int.toNat_natCast, mid_set hj, hw, hsh]
    exact h
  | succ j ih =>
    intro y hj h1
    have hl := mid_len hj y
    have hwj : wrap64 (((j + 1 : Nat) : Int) - 1) = (j : Int) := by rw [mw (by omega) (by omega)]; omega
    by_cases hc : rd L (i : Int) < S.getD j 0
    · obtain ⟨k', hk'⟩ := ih (S.getD j 0) (by omega) (fun m h3 h4 => by
        rcases Nat.eq_or_lt_of_le h3 with e | hlt
        · rw [← e]; exact hc
        · exact h1 m hlt h4)
      refine ⟨k' + 1, ?_⟩
      simp only [capstanref07_List.l1]
      rw [hwj, if_pos (by omega), if_pos (by omega), if_pos (by omega), if_pos (by omega), if_pos (by omega), rd_nat (S.take (j + 1) ++ y :: S.drop (j + 1)), mid_prev hj, if_pos (by omega), if_pos (by omega), if_pos (by omega), Int.toNat_natCast, mid_set hj, mid_down hj]
      exact hk'
    · refine ⟨k + 1, ?_⟩
      have hsh := put_shape hr hj h1 (.inr (by rw [Nat.add_sub_cancel]; omega))
      simp only [capstanref07_List.l1]
      rw [hwj, if_pos (by omega), if_pos (by omega), if_pos (by omega), if_pos (by omega), if_pos (by omega), rd_nat (S.take (j + 1) ++ y :: S.drop (j + 1)), mid_prev hj, if_neg (by omega), if_pos (by omega), if_pos (by omega), Int.toNat_natCast, mid_set hj, hw, hsh]
      exact h
theorem list_l0 (L : List Int) (hL : L.length < 1048577) : ∀ (n i : Nat), i + n = L.length → ∃ k, capstanref07_List.l0 k L (srt (L.take i)) (i : Int) = some (srt L) := by
  intro n
  induction n with
  | zero =>
    intro i hi
    refine ⟨1, ?_⟩
    have : L.take i = L := List.take_of_length_le (by omega)
    simp only [capstanref07_List.l0]
    rw [if_neg (by omega), this]
  | succ n ih =>
    intro i hi
    obtain ⟨k, hk⟩ := ih (i + 1) (by omega)
    rw [srt_take (by omega), ← rd_nat] at hk
    have hlen : (srt (L.take i)).length = i := by rw [srt_len, List.length_take]; omega
    obtain ⟨k', hk'⟩ := list_l1 (R := srt L) (by omega) (by omega) (srt_rising (L.take i)) (by omega) hk (srt (L.take i)).length (rd L (i : Int)) (Nat.le_refl _) (fun m h1 h2 => by omega)
    rw [List.take_length, List.drop_length] at hk'
    refine ⟨k' + 1, ?_⟩
    simp only [capstanref07_List.l0]
    rw [if_pos (by omega), if_pos (by omega), if_pos (by omega)]
    exact hk'
theorem list_f (L : List Int) (hL : L.length < 1048577) : ∃ k, capstanref07_List.f k L = some (srt L) := by
  obtain ⟨k, hk⟩ := list_l0 L hL L.length 0 (by omega)
  exact ⟨k, hk⟩
/-- The reference's list, by its numbers. -/
theorem ref_list {w : World} {A : Option Addr} {c n : Nat} {L : List Int} (hn : L.length = n) (hs : n ≤ 1048576) (hC : Kd.C (Kd.int .i64) w A L.length L) (hc : n ≤ c) :
    Calls Try.prog 18 #[.slice A n c] w fun e w' => ∃ v0_ : Value, e = .returned v0_ ∧ Kd.R (Kd.int .i64) 2 w' w.heap.size (fun _ => True) v0_ (srt L) ∧ Below w.heap.size w w' := by
  subst hn
  obtain ⟨k, hk⟩ := list_f L (by omega)
  exact capstanref07_List.calls k A c L _ w hC hc hk
theorem ref_same {w : World} {A B : Option Addr} {c d n m : Nat} {L M : List Int} (h : L = M) (hn : L.length = n) (hm : M.length = m) (hs : n ≤ 1048576) (hC : Kd.C (Kd.int .i64) w A L.length L) (hc : n ≤ c) (hD : Kd.C (Kd.int .i64) w B M.length M) (hd : m ≤ d) :
    Calls Try.prog 16 #[.slice A n c, .slice B m d] w fun e w' => e = .returned (.bool true) ∧ Below w.heap.size w w' := by
  subst h hn hm
  refine (capstanref05_Same.calls (L.length + 1) A c L B d L true w hC hc hD hd (same_f L (by omega) _ (by omega))).mono ?_
  rintro e w' ⟨rfl, ⟨nd, rfl⟩⟩
  exact ⟨rfl, pw_below_drewN (Below.refl _ _) nd⟩
end Go.Proofs.Ytfojfgnhblgckaa
