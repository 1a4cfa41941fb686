/-
  Plain laws: the numbers that a queue keeps are those that the reference tells; no program in sight.
-/
import Derived.Test.YtmlnbmbobkoipaaMonoFns2
namespace Go.Proofs.Ytmlnbmbobkoipaa
open Go.RowKit Go.Proofs.Ytmlnbmbobkoipaa.XMono Go.Proofs.YtmlnbmbobkoipaaW.PrintWords Go.Proofs.YtmlnbmbobkoipaaW.PrintLast Go.Proofs.YtmlnbmbobkoipaaW.PrintMore

theorem mw {x : Int} (h0 : -9223372036854775808 ≤ x) (h1 : x ≤ 9223372036854775807) : wrap64 x = x := by unfold wrap64; omega
theorem rd_nat (l : List Int) (i : Nat) : rd l (i : Int) = l.getD i 0 := by unfold rd; rw [Int.toNat_natCast]

/-! ### The same -/
theorem same_l0 (l : List Int) (hl : l.length < 4611686018427387904) (n : Nat) : ∀ (k i : Nat), i + n = l.length → n < k → capstanref05_Same.l0 k l l (i : Int) = some true := by
  induction n with
  | zero =>
    intro k i hi hk
    obtain ⟨k, rfl⟩ : ∃ m, k = m + 1 := ⟨k - 1, by omega⟩
    simp only [capstanref05_Same.l0]
    rw [if_neg (by omega)]
  | succ n ih =>
    intro k i hi hk
    obtain ⟨k, rfl⟩ : ∃ m, k = m + 1 := ⟨k - 1, by omega⟩
    simp only [capstanref05_Same.l0]
    rw [if_pos (by omega), if_pos (by omega), if_pos (by omega), mw (by omega) (by omega)]
    simp only [if_true]
    exact ih k (i + 1) (by omega) (by omega)
theorem same_f (l : List Int) (hl : l.length < 4611686018427387904) (k : Nat) (hk : l.length < k) : capstanref05_Same.f k l l = some true := by
  unfold capstanref05_Same.f
  rw [if_pos rfl]
  exact same_l0 l hl l.length k 0 (by omega) hk

/-! ### The numbers that are kept -/
def keptV (high : Bool) : List Int → List Int
  | [] => []
  | x :: L => match keptV high L with
    | [] => [x]
    | h :: t => if beatsB high x h then x :: h :: t else h :: t
def keptOf (high : Bool) : List Int → Int → List S80
  | [], _ => []
  | x :: L, p => match keptOf high L (p + 1) with
    | [] => [⟨x, p⟩]
    | h :: t => if beatsB high x h.f0 then ⟨x, p⟩ :: h :: t else h :: t
theorem keptOf_map (high : Bool) : ∀ (L : List Int) (p : Int), (keptOf high L p).map (·.f0) = keptV high L
  | [], _ => rfl
  | x :: L, p => by
    have ih := keptOf_map high L (p + 1)
    unfold keptOf keptV
    rw [← ih]
    cases keptOf high L (p + 1) with
    | nil => rfl
    | cons h t =>
      simp only [List.map_cons]
      split <;> rfl
theorem keptV_len (high : Bool) : ∀ L : List Int, (keptV high L).length ≤ L.length
  | [] => Nat.le_refl _
  | x :: L => by
    have ih := keptV_len high L
    unfold keptV
    split
    · simp
    · rename_i h t he
      rw [he] at ih
      split <;> simp at ih ⊢ <;> omega
theorem keptOf_len (high : Bool) (L : List Int) (p : Int) : (keptOf high L p).length ≤ L.length := by
  have := keptV_len high L
  rw [← keptOf_map high L p, List.length_map] at this
  exact this
theorem keptV_ne (high : Bool) (x : Int) (L : List Int) : keptV high (x :: L) ≠ [] := by
  unfold keptV
  split
  · simp
  · split <;> simp
theorem keptOf_ne (high : Bool) (x : Int) (L : List Int) (p : Int) : keptOf high (x :: L) p ≠ [] := by
  intro h
  have := keptV_ne high x L
  rw [← keptOf_map high (x :: L) p, h] at this
  exact this rfl

/-- The elder numbers that are left ahead of a new one. -/
def cutL (high : Bool) (v : Int) : List S80 → List S80
  | [] => []
  | h :: T => match cutL high v T with
    | [] => if beatsB high h.f0 v then [h] else []
    | a :: b => h :: a :: b
theorem cutL_snoc (high : Bool) (v : Int) (x : S80) : ∀ K, cutL high v (K ++ [x]) = if beatsB high x.f0 v then K ++ [x] else cutL high v K
  | [] => by simp [cutL]
  | h :: T => by
    have ih := cutL_snoc high v x T
    rw [List.cons_append]
    by_cases hb : beatsB high x.f0 v = true
    · rw [if_pos hb] at ih ⊢
      show (match cutL high v (T ++ [x]) with | [] => if beatsB high h.f0 v then [h] else [] | a :: b => h :: a :: b) = _
      rw [ih]
      cases T <;> rfl
    · rw [if_neg hb] at ih ⊢
      show (match cutL high v (T ++ [x]) with | [] => if beatsB high h.f0 v then [h] else [] | a :: b => h :: a :: b) = _
      rw [ih]
      rfl
theorem take_cutN (high : Bool) (v : Int) (K : List S80) : ∀ n, n ≤ K.length → K.take (cutN high v K n) = cutL high v (K.take n)
  | 0, _ => by simp [cutN, cutL]
  | n + 1, hn => by
    have ih := take_cutN high v K n (by omega)
    have hrd : rd_T80 K (n : Int) = K[n]'(by omega) := by
      simp [rd_T80, List.getD_eq_getElem?_getD, List.getElem?_eq_getElem (show n < K.length by omega)]
    have ht : K.take (n + 1) = K.take n ++ [K[n]'(by omega)] := by
      rw [List.take_add_one, List.getElem?_eq_getElem (show n < K.length by omega), Option.toList_some]
    unfold cutN
    rw [ht, cutL_snoc, hrd]
    split
    · rw [ht]
    · exact ih
theorem cut_all (high : Bool) (v : Int) (K : List S80) : K.take (cutN high v K K.length) = cutL high v K := by
  rw [take_cutN high v K K.length (Nat.le_refl _), List.take_length]
theorem beats_trans {high : Bool} {x h v : Int} (h1 : beatsB high x h = false) (h2 : beatsB high h v = false) : beatsB high x v = false := by
  cases high <;> simp [beatsB] at * <;> omega
theorem keptOf_put (high : Bool) (v : Int) : ∀ (L : List Int) (p : Int), keptOf high (L ++ [v]) p = cutL high v (keptOf high L p) ++ [⟨v, p + L.length⟩]
  | [], p => by simp [keptOf, cutL]
  | x :: L, p => by
    have ih := keptOf_put high v L (p + 1)
    have hp : p + 1 + (L.length : Int) = p + ((x :: L).length : Nat) := by simp; omega
    rw [hp] at ih
    rw [List.cons_append]
    unfold keptOf
    rw [ih]
    cases hR : keptOf high L (p + 1) with
    | nil =>
      simp only [cutL, List.nil_append]
      split <;> rfl
    | cons h T =>
      cases hC : cutL high v (h :: T) with
      | nil =>
        have hb : beatsB high h.f0 v = false := by
          unfold cutL at hC
          split at hC
          · split at hC
            · cases hC
            · rename_i hb; simpa using hb
          · cases hC
        simp only [List.nil_append]
        by_cases hx : beatsB high x h.f0 = true
        · rw [if_pos hx]
          unfold cutL
          rw [hC]
          simp only
          split <;> rfl
        · have hx' : beatsB high x h.f0 = false := by simpa using hx
          rw [if_neg hx, hC, beats_trans hx' hb]
          rfl
      | cons a b =>
        have ha : a = h := by
          unfold cutL at hC
          split at hC
          · split at hC
            · cases hC; rfl
            · cases hC
          · cases hC; rfl
        subst ha
        simp only [List.cons_append]
        by_cases hx : beatsB high x a.f0 = true
        · rw [if_pos hx, if_pos hx]
          conv => rhs; unfold cutL
          rw [hC]
          rfl
        · rw [if_neg hx, if_neg hx, hC]
          rfl
theorem keptOf_ge (high : Bool) : ∀ (L : List Int) (p : Int), ∀ e ∈ keptOf high L p, p ≤ e.f1
  | [], _ => fun e he => by cases he
  | x :: L, p => by
    have ih := keptOf_ge high L (p + 1)
    intro e he
    unfold keptOf at he
    split at he
    · rw [List.mem_singleton] at he
      subst he
      exact Int.le_refl _
    · rename_i h t hk
      rw [hk] at ih
      split at he
      · rcases List.mem_cons.1 he with rfl | he
        · exact Int.le_refl _
        · have := ih e he; omega
      · have := ih e he; omega
theorem keptOf_head (high : Bool) (L : List Int) (p : Int) : takeK (p - 1) (keptOf high L p) = keptOf high L p := by
  have h := keptOf_ge high L p
  cases hk : keptOf high L p with
  | nil => rfl
  | cons e t =>
    have := h e (by rw [hk]; exact List.mem_cons_self)
    exact if_neg (by omega)
theorem keptOf_take (high : Bool) (x : Int) (L : List Int) (p : Int) : takeK p (keptOf high (x :: L) p) = keptOf high L (p + 1) := by
  have h := keptOf_head high L (p + 1)
  rw [show p + 1 - 1 = p by omega] at h
  have e : keptOf high (x :: L) p = (match keptOf high L (p + 1) with | [] => [⟨x, p⟩] | h :: t => if beatsB high x h.f0 then ⟨x, p⟩ :: h :: t else h :: t) := rfl
  rw [e]
  cases hk : keptOf high L (p + 1) with
  | nil => simp [takeK]
  | cons e t =>
    rw [hk] at h
    simp only
    split
    · exact if_pos rfl
    · exact h

/-! ### The reference's list -/
theorem beats_ref (high : Bool) (a b : Int) : capstanref06_beats.f high a b = some (beatsB high a b) := by
  unfold capstanref06_beats.f beatsB
  cases high <;> simp
theorem kept_l1 (R : List Int) (hR : R.length < 17592186044416) (n : Nat) : ∀ (k : Nat) (acc : List Int), n ≤ R.length → acc.length + n < 17592186044416 → n < k → capstanref06_Kept.l1 k R acc ((n : Int) - 1) = some (acc ++ (R.take n).reverse) := by
  induction n with
  | zero =>
    intro k acc hn ha hk
    obtain ⟨k, rfl⟩ : ∃ m, k = m + 1 := ⟨k - 1, by omega⟩
    simp only [capstanref06_Kept.l1]
    rw [if_neg (by omega)]
    simp
  | succ n ih =>
    intro k acc hn ha hk
    obtain ⟨k, rfl⟩ : ∃ m, k = m + 1 := ⟨k - 1, by omega⟩
    have e : ((n + 1 : Nat) : Int) - 1 = (n : Int) := by omega
    simp only [capstanref06_Kept.l1]
    rw [e, if_pos (by omega), if_pos (by omega), if_pos (by omega), if_pos (by omega), mw (by omega) (by omega), ih k _ (by omega) (by simp; omega) (by omega), rd_nat]
    have ht : R.take (n + 1) = R.take n ++ [R.getD n 0] := by
      rw [List.take_add_one, List.getElem?_eq_getElem (show n < R.length by omega), Option.toList_some, List.getD_eq_getElem?_getD, List.getElem?_eq_getElem (show n < R.length by omega)]
      rfl
    rw [ht, List.reverse_append, List.append_assoc]
    rfl
theorem rd_last (h : Int) (t : List Int) : rd ((h :: t).reverse) (((h :: t).reverse.length : Int) - 1) = h := by
  have e : (((h :: t).reverse.length : Int) - 1) = ((t.length : Nat) : Int) := by simp
  rw [e, rd_nat, List.reverse_cons, List.getD_eq_getElem?_getD, List.getElem?_append_right (by simp)]
  simp
theorem kept_l0 (high : Bool) (L : List Int) (hL : L.length < 17592186044415) (n : Nat) : ∀ k, n ≤ L.length → n + L.length + 2 ≤ k →
    capstanref06_Kept.l0 k high L ((keptV high (L.drop n)).reverse) ((n : Int) - 1) = some (keptV high L) := by
  induction n with
  | zero =>
    intro k hn hk
    obtain ⟨k, rfl⟩ : ∃ m, k = m + 1 := ⟨k - 1, by omega⟩
    have hl := keptV_len high L
    simp only [capstanref06_Kept.l0]
    rw [if_neg (by omega), List.drop_zero, mw (by omega) (by rw [List.length_reverse]; omega), kept_l1 _ (by rw [List.length_reverse]; omega) _ k [] (Nat.le_refl _) (by rw [List.length_reverse]; simp; omega) (by rw [List.length_reverse]; omega), List.take_length, List.reverse_reverse, List.nil_append]
  | succ n ih =>
    intro k hn hk
    obtain ⟨k, rfl⟩ : ∃ m, k = m + 1 := ⟨k - 1, by omega⟩
    have ih' := ih k (by omega) (by omega)
    have e : ((n + 1 : Nat) : Int) - 1 = (n : Int) := by omega
    have hd : L.drop n = L.getD n 0 :: L.drop (n + 1) := by
      rw [List.drop_eq_getElem_cons (show n < L.length by omega), List.getD_eq_getElem?_getD, List.getElem?_eq_getElem (show n < L.length by omega)]
      rfl
    have hl := keptV_len high (L.drop (n + 1))
    rw [List.length_drop] at hl
    have ek : keptV high (L.getD n 0 :: L.drop (n + 1)) = (match keptV high (L.drop (n + 1)) with | [] => [L.getD n 0] | h :: t => if beatsB high (L.getD n 0) h then L.getD n 0 :: h :: t else h :: t) := rfl
    rw [hd, ek] at ih'
    simp only [capstanref06_Kept.l0]
    rw [e, if_pos (by omega), mw (x := (n : Int) - 1) (by omega) (by omega), rd_nat]
    cases hk2 : keptV high (L.drop (n + 1)) with
    | nil =>
      rw [hk2] at ih'
      rw [if_pos (by simp), if_pos (by omega), if_pos (by omega), if_pos (by simp)]
      exact ih'
    | cons h t =>
      rw [hk2] at ih' hl
      have hl2 : ((h :: t).reverse.length : Int) = (t.length : Int) + 1 := by simp
      simp only [List.length_cons] at hl
      rw [if_neg (by rw [hl2]; omega), if_pos (by omega), if_pos (by omega), mw (x := ((h :: t).reverse.length : Int) - 1) (by rw [hl2]; omega) (by rw [hl2]; omega), if_pos (by rw [hl2]; omega), if_pos (by rw [hl2]; omega), rd_last, beats_ref]
      simp only [Option.bind_some]
      cases hb : beatsB high (L.getD n 0) h with
      | true =>
        simp only [hb, if_true] at ih'
        rw [if_pos rfl, if_pos (by rw [List.length_reverse]; simp; omega)]
        rw [List.reverse_cons] at ih'
        exact ih'
      | false =>
        simp only [hb, Bool.false_eq_true, if_false] at ih'
        rw [if_neg (by decide)]
        exact ih'
theorem kept_f (high : Bool) (L : List Int) (hL : L.length < 17592186044415) (k : Nat) (hk : 2 * L.length + 2 ≤ k) : capstanref06_Kept.f k high L = some (keptV high L) := by
  have h := kept_l0 high L hL L.length k (Nat.le_refl _) (by omega)
  rw [List.drop_length] at h
  unfold capstanref06_Kept.f
  rw [mw (by omega) (by omega)]
  exact h

/-! ### The best -/
def mn (high : Bool) (a b : Int) : Int := if beatsB high a b then a else b
theorem mn_comm (high : Bool) (a b : Int) : mn high a b = mn high b a := by
  cases high <;> simp only [mn, beatsB] <;> simp <;> split <;> split <;> omega
theorem mn_assoc (high : Bool) (a b c : Int) : mn high (mn high a b) c = mn high a (mn high b c) := by
  cases high <;> simp only [mn, beatsB] <;> simp <;> repeat' split
  all_goals omega
/-- The first of the kept numbers. -/
def hdV (high : Bool) (L : List Int) : Int := (keptV high L).headD 0
theorem hdV_one (high : Bool) (x : Int) : hdV high [x] = x := rfl
theorem hdV_cons (high : Bool) (x y : Int) (L : List Int) : hdV high (x :: y :: L) = mn high x (hdV high (y :: L)) := by
  unfold hdV mn
  have hne := keptV_ne high y L
  have e : keptV high (x :: y :: L) = (match keptV high (y :: L) with | [] => [x] | h :: t => if beatsB high x h then x :: h :: t else h :: t) := rfl
  rw [e]
  cases hk : keptV high (y :: L) with
  | nil => exact absurd hk hne
  | cons h t =>
    have e2 : (h :: t).headD 0 = h := rfl
    rw [e2]
    by_cases hb : beatsB high x h = true
    · rw [if_pos hb]
      show (if beatsB high x h then x :: h :: t else h :: t).headD 0 = x
      rw [if_pos hb]; rfl
    · rw [if_neg hb]
      show (if beatsB high x h then x :: h :: t else h :: t).headD 0 = h
      rw [if_neg hb]; rfl
theorem best_l0 (high : Bool) (L : List Int) (hL : L.length < 4611686018427387904) (n : Nat) : ∀ (k i : Nat) (b : Int), i + n = L.length → n < k →
    capstanref06_Best.l0 k high L b (i : Int) = some (if n = 0 then b else mn high b (hdV high (L.drop i)), true) := by
  induction n with
  | zero =>
    intro k i b hi hk
    obtain ⟨k, rfl⟩ : ∃ m, k = m + 1 := ⟨k - 1, by omega⟩
    simp only [capstanref06_Best.l0]
    rw [if_neg (by omega)]
    rfl
  | succ n ih =>
    intro k i b hi hk
    obtain ⟨k, rfl⟩ : ∃ m, k = m + 1 := ⟨k - 1, by omega⟩
    have hd : L.drop i = L.getD i 0 :: L.drop (i + 1) := by
      rw [List.drop_eq_getElem_cons (show i < L.length by omega), List.getD_eq_getElem?_getD, List.getElem?_eq_getElem (show i < L.length by omega)]
      rfl
    have hw : wrap64 ((i : Int) + 1) = ((i + 1 : Nat) : Int) := by rw [mw (by omega) (by omega)]; omega
    simp only [capstanref06_Best.l0]
    rw [if_pos (by omega), if_pos (by omega), rd_nat, beats_ref, hw]
    simp only [Option.bind_some]
    have key : (if beatsB high (L.getD i 0) b = true then capstanref06_Best.l0 k high L (L.getD i 0) ((i + 1 : Nat) : Int) else capstanref06_Best.l0 k high L b ((i + 1 : Nat) : Int)) = capstanref06_Best.l0 k high L (mn high (L.getD i 0) b) ((i + 1 : Nat) : Int) := by
      unfold mn
      split <;> rfl
    rw [key, ih k (i + 1) _ (by omega) (by omega), if_neg (show ¬ (n + 1 = 0) by omega), hd]
    congr 2
    by_cases hn : n = 0
    · rw [if_pos hn]
      have : L.drop (i + 1) = [] := List.drop_of_length_le (by omega)
      rw [this, hdV_one, mn_comm]
    · rw [if_neg hn]
      have hd2 : L.drop (i + 1) = L.getD (i + 1) 0 :: L.drop (i + 2) := by
        rw [List.drop_eq_getElem_cons (show i + 1 < L.length by omega), List.getD_eq_getElem?_getD, List.getElem?_eq_getElem (show i + 1 < L.length by omega)]
        rfl
      rw [hd2, hdV_cons, ← hd2, mn_comm high (L.getD i 0) b, mn_assoc]
theorem best_f (high : Bool) (x : Int) (L : List Int) (hL : (x :: L).length < 4611686018427387904) (k : Nat) (hk : (x :: L).length ≤ k) : capstanref06_Best.f k high (x :: L) = some (hdV high (x :: L), true) := by
  unfold capstanref06_Best.f
  rw [if_neg (by simp only [List.length_cons]; omega), if_pos (by simp only [List.length_cons]; omega)]
  have h := best_l0 high (x :: L) hL L.length k 1 (rd (x :: L) 0) (by simp only [List.length_cons]; omega) (by simp only [List.length_cons] at hk; omega)
  have e : rd (x :: L) 0 = x := rfl
  rw [e] at h ⊢
  have e1 : ((1 : Nat) : Int) = 1 := rfl
  rw [e1] at h
  rw [h]
  congr 2
  cases L with
  | nil => rfl
  | cons y L =>
    rw [if_neg (by simp), hdV_cons]
    rfl
theorem best_nil (high : Bool) (k : Nat) : capstanref06_Best.f k high [] = some (0, false) := by
  unfold capstanref06_Best.f
  simp
end Go.Proofs.Ytmlnbmbobkoipaa
