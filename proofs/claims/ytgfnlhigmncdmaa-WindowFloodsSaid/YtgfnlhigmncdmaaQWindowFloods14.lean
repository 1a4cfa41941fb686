/-
  Texts of this seat, joined, less what WindowFloods does not lean on: RankFns5, RankSort, RankRefList, RankRefAt.
-/
import Derived.Test.YtgfnlhigmncdmaaQWindowFloods12
import Derived.Test.YtgfnlhigmncdmaaQWindowFloods13
import Derived.Test.YtgfnlhigmncdmaaQWindowFloods11
section
namespace Go.Proofs.Ytgfnlhigmncdmaa
set_option linter.unusedVariables false
set_option linter.unusedSimpArgs false
open Go.RowKit Go.Shelf Go.Proofs.YtgfnlhigmncdmaaW.PrintWords Go.Proofs.YtgfnlhigmncdmaaW.PrintLast Go.Proofs.YtgfnlhigmncdmaaW.PrintMore

set_option maxRecDepth 100000 in
theorem div64_0 (q r lo : Nat) (w : World) (hq : lo / 100000000 = q) (hr : lo % 100000000 = r) (hl : lo < 9223372036854775808) :
    Calls Try.prog 59 #[.int .u64 0, .int .u64 lo, .int .u64 100000000] w fun e w' => e = .returned (.tuple #[.int .u64 q, .int .u64 r]) ∧ Below w.heap.size w w' := by
  have e1 : (lo : Int) / 100000000 = (q : Int) := by omega
  have e2 : (lo : Int) % 100000000 = (r : Int) := by omega
  have e3 : (lo : Int).tdiv 100000000 = (q : Int) := by rw [Int.tdiv_eq_ediv_of_nonneg (by omega)]; exact e1
  have e4 : (lo : Int).tmod 100000000 = (r : Int) := by rw [Int.tmod_eq_emod_of_nonneg (by omega)]; exact e2
  have e5 : IntKind.u64.wrap (q : Int) = (q : Int) := by
    have : (0 : Int) ≤ q ∧ (q : Int) < 18446744073709551616 := by omega
    simp [IntKind.wrap, IntKind.signed, IntKind.bits]
    omega
  have e6 : IntKind.u64.wrap (r : Int) = (r : Int) := by
    simp [IntKind.wrap, IntKind.signed, IntKind.bits]
    omega
  clear hq hr hl e1 e2
  go_enter Try.func59, Try.ntmps59
  go_wp2
  go_quiet (fail)
  go_wp2
  go_ret2
  exact ⟨by simp, pw_below_drewN (Below.refl _ _) _⟩
/-- The place of a rank among n. -/
def place (p : Int) (n : Nat) : Int := (p * n + 99999999) / 100000000 - 1
def askB (L : List Int) (p : Int) : Bool := decide (1 ≤ p ∧ p ≤ 100000000 ∧ 0 < L.length)
def byV (L : List Int) (p : Int) : Int := if askB L p then L.getD (place p L.length).toNat 0 else 0
theorem place_ok (p : Int) (n : Nat) (h1 : 1 ≤ p) (h2 : p ≤ 100000000) (hn : 0 < n) : 0 ≤ place p n ∧ place p n < n := by
  unfold place
  have h3 : 1 * (n : Int) ≤ p * n := Int.mul_le_mul_of_nonneg_right h1 (by omega)
  have h4 : p * (n : Int) ≤ 100000000 * n := Int.mul_le_mul_of_nonneg_right h2 (by omega)
  generalize p * (n : Int) = x at *
  omega
set_option maxRecDepth 100000 in
theorem rank_by_no {w : World} {g : Nat} {ok : Nat → Prop} {L : List Int} (h : RankAt w g ok L) (p : Int) (hp : p < 1 ∨ 100000000 < p) :
    Calls Try.prog 36 #[.pointer (some ⟨g, 0, none⟩), .int .i64 p] w fun e w' => e = .returned (.tuple #[.int .i64 0, .bool false]) ∧ w = w' := by
  by_cases h0 : p < 1
  · have d1 : decide (p < 1) = true := decide_eq_true h0
    clear hp
    go_enter Try.func36, Try.ntmps36
    go_wp2
    go_ret2
    exact ⟨by simp, rfl⟩
  · have d1 : decide (p < 1) = false := decide_eq_false h0
    have d2 : decide (100000000 < p) = true := decide_eq_true (by omega)
    clear hp
    go_enter Try.func36, Try.ntmps36
    go_wp2
    go_ret2
    exact ⟨by simp, rfl⟩
set_option maxHeartbeats 4000000 in
set_option maxRecDepth 100000 in
theorem rank_by {w : World} {g : Nat} {ok : Nat → Prop} {L : List Int} (h : RankAt w g ok L) (p : Int) :
    Calls Try.prog 36 #[.pointer (some ⟨g, 0, none⟩), .int .i64 p] w fun e w' => e = .returned (.tuple #[.int .i64 (byV L p), .bool (askB L p)]) ∧ Below w.heap.size w w' := by
  by_cases hp : p < 1 ∨ 100000000 < p
  · have e1 : askB L p = false := decide_eq_false (by omega)
    have e2 : byV L p = 0 := by unfold byV; rw [e1]; rfl
    rw [e1, e2]
    refine (rank_by_no h p hp).mono ?_
    rintro e w' ⟨rfl, rfl⟩
    exact ⟨rfl, Below.refl _ _⟩
  have d1 : decide (p < 1) = false := decide_eq_false (by omega)
  have d2 : decide (100000000 < p) = false := decide_eq_false (by omega)
  by_cases hn : L.length = 0
  · have e1 : askB L p = false := decide_eq_false (by omega)
    have e2 : byV L p = 0 := by unfold byV; rw [e1]; rfl
    rw [e1, e2]
    have d3 : ((L.length : Int) == 0) = true := by simp; exact List.eq_nil_of_length_eq_zero hn
    have HH := Lib.hid h
    have hL : L = [] := List.eq_nil_of_length_eq_zero hn
    subst hL
    clear hp hn h e1 e2
    go_enter Try.func36, Try.ntmps36
    go_wp2_with fail
    refine (rank_len HH.out).mono ?_
    rintro e w1 ⟨rfl, rfl⟩
    go_wp2
    go_ret2
    exact ⟨by simp, Below.refl _ _⟩
  · obtain ⟨n, hnn⟩ : ∃ n, L.length = n := ⟨_, rfl⟩
    have hfew := h.few
    rw [hnn] at hn hfew
    have hpl := place_ok p n (by omega) (by omega) (by omega)
    have e1 : askB L p = true := decide_eq_true (by omega)
    have e2 : byV L p = L.getD (place p n).toNat 0 := by unfold byV; rw [e1, hnn]; rfl
    have e3 : atV L (place p n) = L.getD (place p n).toNat 0 := by unfold atV; rw [if_pos (by rw [hnn]; exact hpl)]
    have e4 : atB L (place p n) = true := decide_eq_true (by rw [hnn]; exact hpl)
    have E := Lib.hid (And.intro e1 (And.intro e2 (And.intro e3 e4)))
    have HH := Lib.hid h
    have HN := Lib.hid hnn
    obtain ⟨P, rfl⟩ := Int.eq_ofNat_of_zero_le (show 0 ≤ p by omega)
    obtain ⟨lo, hlo⟩ : ∃ lo : Nat, P * n = lo := ⟨_, rfl⟩
    have hlo1 : lo ≤ 104857600000000 := by
      rw [← hlo]
      exact Nat.le_trans (Nat.mul_le_mul (show P ≤ 100000000 by omega) hfew) (by decide)
    obtain ⟨q, hq⟩ : ∃ q, lo / 100000000 = q := ⟨_, rfl⟩
    obtain ⟨r, hr⟩ : ∃ r, lo % 100000000 = r := ⟨_, rfl⟩
    have hcast : ((P : Int) * (n : Int)) = (lo : Int) := by rw [← hlo]; simp
    have hplace : place (P : Int) n = if 0 < r then (q : Int) else (q : Int) - 1 := by
      unfold place
      rw [hcast]
      split <;> omega
    have m1 : P * n / 18446744073709551616 = 0 := by rw [hlo]; omega
    have m2 : P * n % 18446744073709551616 = lo := by rw [hlo]; omega
    have HM := Lib.hid (And.intro m1 m2)
    have HD := Lib.hid (div64_0 q r lo · hq hr (by omega))
    have d3 : ((n : Int) == 0) = false := beq_eq_false_iff_ne.2 (by omega)
    have d4 : ¬ n = 0 := by omega
    have HPL := Lib.hid hplace
    have hp0 : (0 : Int) ≤ (P : Int) := by omega
    have hp1 : (P : Int) ≤ 100000000 := by omega
    have HK := Lib.hid (show wrap64 ((q : Int) - 1) = (q : Int) - 1 ∧ wrap64 ((q : Int) + 1 - 1) = (q : Int) ∧ wrap64 (q : Int) = (q : Int) ∧ wrap64 ((q : Int) + 1) = (q : Int) + 1 ∧ IntKind.u64.wrap ((q : Int) + 1) = (q : Int) + 1 by
      refine ⟨by unfold wrap64; omega, by unfold wrap64; omega, by unfold wrap64; omega, by unfold wrap64; omega, ?_⟩
      simp [IntKind.wrap, IntKind.signed, IntKind.bits]
      omega)
    have HX := Lib.hid (show 1 ≤ q ∨ 0 < r by omega)
    clear h hn hpl e1 e2 e3 e4 hnn hlo hlo1 hq hr hcast hplace m1 m2 hp
    go_enter Try.func36, Try.ntmps36
    go_wp2_with fail
    refine (rank_len HH.out).mono ?_
    rintro e w1 ⟨rfl, rfl⟩
    rw [HN.out]
    go_wp2_with fail
    refine (rank_len HH.out).mono ?_
    rintro e w1 ⟨rfl, rfl⟩
    rw [HN.out]
    go_wp2_with fail
    refine (Try.bits_Mul64 P n (by omega) (by omega) _).mono ?_
    rintro e w1 ⟨rfl, rfl⟩
    rw [HM.out.1, HM.out.2]
    go_wp2_with fail
    refine (HD.out _).mono ?_
    rintro e w2 ⟨rfl, b2⟩
    have B2 := Lib.hid b2
    clear b2 hfew
    have k1 := HK.out.1
    have k2 := HK.out.2.1
    have k3 := HK.out.2.2.1
    have k4 := HK.out.2.2.2.2
    by_cases hr0 : 0 < r
    · have k5 := HK.out.2.2.2.1
      have g1 : decide ((0 : Int) < (r : Int)) = true := decide_eq_true (by omega)
      have g2 : decide (0 < r) = true := decide_eq_true hr0
      have HP0 := Lib.hid (show place (P : Int) n = (q : Int) by rw [HPL.out, if_pos hr0])
      clear hr0
      go_wp2_with fail
      have F := Lib.hid (show atV L ((q : Int)) = byV L (P : Int) ∧ atB L ((q : Int)) = askB L (P : Int) by
        rw [← HP0.out]
        exact ⟨E.out.2.2.1.trans E.out.2.1.symm, E.out.2.2.2.trans E.out.1.symm⟩)
      refine (rank_at (HH.out.below B2.out) ((q : Int))).mono ?_
      rintro e w3 ⟨rfl, rfl⟩
      rw [F.out.1, F.out.2]
      go_wp2
      go_ret2
      exact ⟨by simp, B2.out⟩
    · have g1 : decide ((0 : Int) < (r : Int)) = false := decide_eq_false (by omega)
      have g2 : decide (0 < r) = false := decide_eq_false hr0
      have HP0 := Lib.hid (show place (P : Int) n = (q : Int) - 1 by rw [HPL.out, if_neg hr0])
      clear hr0
      go_wp2_with fail
      have F := Lib.hid (show atV L ((q : Int) - 1) = byV L (P : Int) ∧ atB L ((q : Int) - 1) = askB L (P : Int) by
        rw [← HP0.out]
        exact ⟨E.out.2.2.1.trans E.out.2.1.symm, E.out.2.2.2.trans E.out.1.symm⟩)
      refine (rank_at (HH.out.below B2.out) ((q : Int) - 1)).mono ?_
      rintro e w3 ⟨rfl, rfl⟩
      rw [F.out.1, F.out.2]
      go_wp2
      go_ret2
      exact ⟨by simp, B2.out⟩
end Go.Proofs.Ytgfnlhigmncdmaa

end
section
namespace Go.Proofs.Ytgfnlhigmncdmaa
set_option linter.unusedVariables false
set_option linter.unusedSimpArgs false
open Go.RowKit Go.Proofs.YtgfnlhigmncdmaaW.PrintWords
def srt (L : List Int) : List Int := L.foldl (fun S x => putL x S) []
theorem srt_snoc (L : List Int) (x : Int) : srt (L ++ [x]) = putL x (srt L) := by simp [srt, List.foldl_append]
theorem snoc_ind {P : List Int → Prop} (h0 : P []) (h1 : ∀ L x, P L → P (L ++ [x])) (L : List Int) : P L := by
  have : ∀ (n : Nat) (L : List Int), L.length = n → P L := by
    intro n
    induction n with
    | zero => intro L h; rw [List.eq_nil_of_length_eq_zero h]; exact h0
    | succ n ih =>
      intro L h
      have hne : L ≠ [] := by rintro rfl; simp at h
      rw [← List.dropLast_concat_getLast hne]
      exact h1 _ _ (ih _ (by rw [List.length_dropLast]; omega))
  exact this _ L rfl
theorem srt_rising (L : List Int) : Rising (srt L) := by
  refine snoc_ind (P := fun L => Rising (srt L)) rising_nil (fun L x ih => ?_) L
  rw [srt_snoc]
  exact put_rising x _ ih
theorem srt_perm (L : List Int) : (srt L).Perm L := by
  refine snoc_ind (P := fun L => (srt L).Perm L) (List.Perm.refl _) (fun L x ih => ?_) L
  rw [srt_snoc]
  refine (put_perm x _).trans ?_
  refine (List.Perm.cons x ih).trans ?_
  exact (List.perm_append_comm (l₁ := [x]) (l₂ := L))
theorem srt_len (L : List Int) : (srt L).length = L.length := (srt_perm L).length_eq
/-- Two lists in rising order with the same numbers are one. -/
theorem rising_eq : ∀ {A B : List Int}, Rising A → Rising B → A.Perm B → A = B
  | [], B, _, _, h => (List.nil_perm.1 h).symm
  | x :: A, [], _, _, h => absurd h.length_eq (by simp)
  | x :: A, y :: B, ha, hb, h => by
    obtain ⟨a1, a2⟩ := rising_cons.1 ha
    obtain ⟨b1, b2⟩ := rising_cons.1 hb
    have hx : x ∈ y :: B := h.mem_iff.1 List.mem_cons_self
    have hy : y ∈ x :: A := h.mem_iff.2 List.mem_cons_self
    have e : x = y := by
      rcases List.mem_cons.1 hx with e | hx
      · exact e
      · rcases List.mem_cons.1 hy with e | hy
        · exact e.symm
        · have := a1 y hy
          have := b1 x hx
          omega
    subst e
    rw [rising_eq a2 b2 (List.Perm.cons_inv h)]
theorem srt_unique {S L : List Int} (h : Rising S) (hp : S.Perm L) : S = srt L := rising_eq h (srt_rising L) (hp.trans (srt_perm L).symm)
/-- How many are as low. -/
def asLow (v : Int) (L : List Int) : Nat := (L.filter fun x => decide (x ≤ v)).length
theorem lower_perm {v : Int} {A B : List Int} (h : A.Perm B) : lower v A = lower v B := (h.filter _).length_eq
theorem asLow_perm {v : Int} {A B : List Int} (h : A.Perm B) : asLow v A = asLow v B := (h.filter _).length_eq
theorem lower_take {v : Int} {L : List Int} {i : Nat} (h : i < L.length) : lower v (L.take (i + 1)) = lower v (L.take i) + if L.getD i 0 < v then 1 else 0 := by
  unfold lower
  rw [List.take_add_one, List.getElem?_eq_getElem h, Option.toList_some, List.filter_append, List.length_append, List.getD_eq_getElem?_getD, List.getElem?_eq_getElem h]
  by_cases hx : L[i] < v <;> simp [hx]
theorem askB_yes {L : List Int} {p : Int} (h1 : 1 ≤ p) (h2 : p ≤ 100000000) (h0 : 0 < L.length) : askB L p = true := decide_eq_true ⟨h1, h2, h0⟩
theorem byV_yes {L : List Int} {p : Int} (h1 : 1 ≤ p) (h2 : p ≤ 100000000) (h0 : 0 < L.length) : byV L p = L.getD (place p L.length).toNat 0 := by
  unfold byV
  rw [askB_yes h1 h2 h0]
  rfl
end Go.Proofs.Ytgfnlhigmncdmaa

end
section
namespace Go.Proofs.Ytgfnlhigmncdmaa
set_option linter.unusedVariables false
set_option linter.unusedSimpArgs false
open Go.RowKit Go.Proofs.Ytgfnlhigmncdmaa.XRefs Go.Proofs.YtgfnlhigmncdmaaW.PrintWords Go.Proofs.YtgfnlhigmncdmaaW.PrintLast Go.Proofs.YtgfnlhigmncdmaaW.PrintMore

theorem mw {x : Int} (h0 : -9223372036854775808 ≤ x) (h1 : x ≤ 9223372036854775807) : wrap64 x = x := by unfold wrap64; omega
theorem rd_nat (l : List Int) (i : Nat) : rd l (i : Int) = l.getD i 0 := by unfold rd; rw [Int.toNat_natCast]
end Go.Proofs.Ytgfnlhigmncdmaa

end
section
namespace Go.Proofs.Ytgfnlhigmncdmaa
set_option linter.unusedVariables false
set_option linter.unusedSimpArgs false
open Go.RowKit Go.Proofs.Ytgfnlhigmncdmaa.XRefs Go.Proofs.YtgfnlhigmncdmaaW.PrintWords Go.Proofs.YtgfnlhigmncdmaaW.PrintLast Go.Proofs.YtgfnlhigmncdmaaW.PrintMore

def sameN (v : Int) (L : List Int) : Nat := (L.filter fun x => decide (x = v)).length
theorem asLow_succ (v : Int) (L : List Int) : asLow v L = lower (v + 1) L := by
  unfold asLow lower
  congr 1
  refine List.filter_congr (fun x _ => ?_)
  by_cases h : x ≤ v
  · rw [decide_eq_true h, decide_eq_true (by omega)]
  · rw [decide_eq_false h, decide_eq_false (by omega)]
theorem low_same (v : Int) : ∀ L : List Int, lower v L + sameN v L = asLow v L
  | [] => rfl
  | x :: L => by
    have ih := low_same v L
    unfold lower sameN asLow at ih ⊢
    simp only [List.filter_cons]
    rcases Int.lt_trichotomy x v with h | h | h
    · rw [decide_eq_true h, decide_eq_false (by omega), decide_eq_true (by omega)]; simp; omega
    · rw [decide_eq_false (by omega), decide_eq_true h, decide_eq_true (by omega)]; simp; omega
    · rw [decide_eq_false (by omega), decide_eq_false (by omega), decide_eq_false (by omega)]; simp; omega
theorem same_take {v : Int} {L : List Int} {i : Nat} (h : i < L.length) : sameN v (L.take (i + 1)) = sameN v (L.take i) + if L.getD i 0 = v then 1 else 0 := by
  unfold sameN
  rw [List.take_add_one, List.getElem?_eq_getElem h, Option.toList_some, List.filter_append, List.length_append, List.getD_eq_getElem?_getD, List.getElem?_eq_getElem h]
  by_cases hx : L[i] = v <;> simp [hx]
/-- Of a list in rising order, the one of which so many are lower and more as low is the one at that place. -/
theorem mid_unique {S : List Int} {x : Int} {i : Nat} (h : Rising S) (hi : i < S.length) : (lower x S ≤ i ∧ i < asLow x S) ↔ S.getD i 0 = x := by
  rw [asLow_succ]
  have h1 := lower_at (v := x) h i hi
  have h2 := lower_at (v := x + 1) h i hi
  constructor
  · rintro ⟨h3, h4⟩
    have a := h2.2 h4
    have b : ¬ S.getD i 0 < x := fun c => by have := h1.1 c; omega
    omega
  · intro e
    refine ⟨?_, h2.1 (by omega)⟩
    rcases Nat.lt_or_ge i (lower x S) with c | c
    · have := h1.2 c; omega
    · exact c
theorem wsucc (a : Nat) (h : a ≤ 100000000) : wrap64 ((a : Int) + 1) = ((a + 1 : Nat) : Int) := by rw [mw (by omega) (by omega)]; omega
theorem at_l1 {L : List Int} {i : Int} {m : Nat} {R : Int × Bool} (hm : m < L.length) (hL : L.length < 1048577)
    (h : if (lower (rd L (m : Int)) L : Int) ≤ i ∧ i < ((lower (rd L (m : Int)) L + sameN (rd L (m : Int)) L : Nat) : Int) then R = (rd L (m : Int), true) else ∃ k, capstanref07_At.l0 k L i ((m + 1 : Nat) : Int) = some R) :
    ∀ (n j : Nat), j + n = L.length → ∃ k, capstanref07_At.l1 k L i (m : Int) (lower (rd L (m : Int)) (L.take j) : Int) (sameN (rd L (m : Int)) (L.take j) : Int) (j : Int) = some R := by
  have b1 : ∀ j, lower (rd L (m : Int)) (L.take j) ≤ L.length := fun j => Nat.le_trans (List.length_filter_le _ _) (by rw [List.length_take]; omega)
  have b2 : ∀ j, sameN (rd L (m : Int)) (L.take j) ≤ L.length := fun j => Nat.le_trans (List.length_filter_le _ _) (by rw [List.length_take]; omega)
  intro n
  induction n with
  | zero =>
    intro j hj
    have ht : L.take j = L := List.take_of_length_le (by omega)
    have c1 := b1 j
    have c2 := b2 j
    rw [ht] at c1 c2 ⊢
    have hw : wrap64 ((lower (rd L (m : Int)) L : Int) + (sameN (rd L (m : Int)) L : Int)) = ((lower (rd L (m : Int)) L + sameN (rd L (m : Int)) L : Nat) : Int) := by rw [mw (by omega) (by omega)]; omega
    have hw2 : wrap64 ((m : Int) + 1) = ((m + 1 : Nat) : Int) := by rw [mw (by omega) (by omega)]; omega
    by_cases hh : (lower (rd L (m : Int)) L : Int) ≤ i ∧ i < ((lower (rd L (m : Int)) L + sameN (rd L (m : Int)) L : Nat) : Int)
    · rw [if_pos hh] at h
      refine ⟨1, ?_⟩
      simp only [capstanref07_At.l1]
      rw [if_neg (by omega), if_pos hh.1, hw, if_pos hh.2, if_pos (by omega), if_pos (by omega), h]
    · rw [if_neg hh] at h
      obtain ⟨k, hk⟩ := h
      refine ⟨k + 1, ?_⟩
      simp only [capstanref07_At.l1]
      rw [if_neg (by omega), hw, hw2]
      by_cases h1 : (lower (rd L (m : Int)) L : Int) ≤ i
      · rw [if_pos h1, if_neg (fun h2 => hh ⟨h1, h2⟩)]; exact hk
      · rw [if_neg h1]; exact hk
  | succ n ih =>
    intro j hj
    obtain ⟨k, hk⟩ := ih (j + 1) (by omega)
    clear ih h
    have hjl : j < L.length := by omega
    have w1 := wsucc j (by omega)
    have w2 := wsucc (lower (rd L (m : Int)) (L.take j)) (Nat.le_trans (b1 j) (by omega))
    have w3 := wsucc (sameN (rd L (m : Int)) (L.take j)) (Nat.le_trans (b2 j) (by omega))
    have f1 : (j : Int) < (L.length : Int) := by omega
    have f2 : (0 : Int) ≤ (j : Int) := by omega
    have f3 : (0 : Int) ≤ (m : Int) := by omega
    have f4 : (m : Int) < (L.length : Int) := by omega
    clear b1 b2 hj hL hm
    rw [lower_take hjl, same_take hjl, ← rd_nat] at hk
    refine ⟨k + 1, ?_⟩
    simp only [capstanref07_At.l1]
    rw [if_pos f1, if_pos f2, if_pos f3, if_pos f4, w1, w2, w3]
    clear w1 w2 w3 f1 f2 f3 f4 hjl
    by_cases h1 : rd L (j : Int) < rd L (m : Int)
    · have h2 : ¬ rd L (j : Int) = rd L (m : Int) := Int.ne_of_lt h1
      rw [if_pos h1, if_neg h2] at hk
      rw [if_pos h1, if_neg h2]
      exact hk
    · rw [if_neg h1] at hk
      rw [if_neg h1]
      by_cases h2 : rd L (j : Int) = rd L (m : Int)
      · rw [if_pos h2] at hk
        rw [if_pos h2]
        exact hk
      · rw [if_neg h2] at hk
        rw [if_neg h2]
        exact hk
theorem at_l0 {L : List Int} {i : Nat} (hi : i < L.length) (hL : L.length < 1048577) :
    ∀ (n m : Nat), m + n = L.length → (∃ j, m ≤ j ∧ j < L.length ∧ L.getD j 0 = (srt L).getD i 0) → ∃ k, capstanref07_At.l0 k L (i : Int) (m : Int) = some ((srt L).getD i 0, true) := by
  have hr := srt_rising L
  have hp := srt_perm L
  have hsl := srt_len L
  have key : ∀ m : Nat, ((lower (rd L (m : Int)) L : Int) ≤ (i : Int) ∧ (i : Int) < ((lower (rd L (m : Int)) L + sameN (rd L (m : Int)) L : Nat) : Int)) ↔ (srt L).getD i 0 = rd L (m : Int) := by
    intro m
    have := mid_unique (x := rd L (m : Int)) hr (i := i) (by omega)
    rw [lower_perm hp, asLow_perm hp, ← low_same] at this
    rw [← this]
    constructor
    · rintro ⟨a, b⟩; exact ⟨by omega, by omega⟩
    · rintro ⟨a, b⟩; exact ⟨by omega, by omega⟩
  intro n
  induction n with
  | zero => rintro m hm ⟨j, h1, h2, _⟩; omega
  | succ n ih =>
    rintro m hm ⟨j, h1, h2, h3⟩
    have hc : if (lower (rd L (m : Int)) L : Int) ≤ (i : Int) ∧ (i : Int) < ((lower (rd L (m : Int)) L + sameN (rd L (m : Int)) L : Nat) : Int) then ((srt L).getD i 0, true) = (rd L (m : Int), true) else ∃ k, capstanref07_At.l0 k L (i : Int) ((m + 1 : Nat) : Int) = some ((srt L).getD i 0, true) := by
      split
      · rename_i hh
        rw [(key m).1 hh]
      · rename_i hh
        refine ih (m + 1) (by omega) ⟨j, ?_, h2, h3⟩
        rcases Nat.eq_or_lt_of_le h1 with e | hlt
        · exfalso
          apply hh
          refine (key m).2 ?_
          rw [rd_nat, e, h3]
        · exact hlt
    obtain ⟨k, hk⟩ := at_l1 (by omega) hL hc L.length 0 (by omega)
    refine ⟨k + 1, ?_⟩
    simp only [capstanref07_At.l0]
    rw [if_pos (by omega)]
    exact hk
theorem at_f (L : List Int) (i : Int) (hL : L.length < 1048577) : ∃ k, capstanref07_At.f k L i = some (atV (srt L) i, atB (srt L) i) := by
  have hsl := srt_len L
  by_cases hin : 0 ≤ i ∧ i < (L.length : Int)
  · obtain ⟨m, rfl⟩ := Int.eq_ofNat_of_zero_le hin.1
    have hmem : (srt L).getD m 0 ∈ L := by
      refine (srt_perm L).mem_iff.1 ?_
      rw [List.getD_eq_getElem?_getD, List.getElem?_eq_getElem (by omega)]
      exact List.getElem_mem _
    obtain ⟨j, hj, he⟩ := List.getElem_of_mem hmem
    obtain ⟨k, hk⟩ := at_l0 (L := L) (i := m) (by omega) hL L.length 0 (by omega) ⟨j, by omega, hj, by rw [List.getD_eq_getElem?_getD, List.getElem?_eq_getElem hj]; exact he⟩
    have e1 : atV (srt L) (m : Int) = (srt L).getD m 0 := by unfold atV; rw [if_pos (by omega), Int.toNat_natCast]
    have e2 : atB (srt L) (m : Int) = true := decide_eq_true (by omega)
    refine ⟨k + 1, ?_⟩
    unfold capstanref07_At.f
    rw [if_neg (by omega)]
    simp only [capstanref07_At.j0]
    rw [if_neg (by simp; omega), e1, e2]
    exact hk
  · have e1 : atV (srt L) i = 0 := by unfold atV; rw [if_neg (by omega)]
    have e2 : atB (srt L) i = false := decide_eq_false (by omega)
    refine ⟨1, ?_⟩
    rw [e1, e2]
    unfold capstanref07_At.f
    split
    · simp [capstanref07_At.j0]
    · simp only [capstanref07_At.j0]
      rw [if_pos (decide_eq_true (by omega))]
theorem by_l0 {L : List Int} {p : Int} {R : Int × Bool} {q : Nat} (h0 : 0 ≤ p) (hp : p ≤ 100000000) (hL : L.length < 100000) (h1 : ∀ m : Nat, m < q → (m : Int) * 100000000 < p * L.length) (h2 : p * L.length ≤ (q : Int) * 100000000) (hq : q < 1000000)
    (h : ∃ k, capstanref07_At.f k L ((q : Int) - 1) = some R) : ∀ (n m : Nat), m + n = q → ∃ k, capstanref07_By.l0 k L p (m : Int) = some R := by
  have hb : 0 ≤ p * (L.length : Int) ∧ p * (L.length : Int) ≤ 10000000000000 := by
    have a1 : p * (L.length : Int) ≤ 100000000 * L.length := Int.mul_le_mul_of_nonneg_right hp (by omega)
    have a2 : 0 ≤ p * (L.length : Int) := Int.mul_nonneg h0 (by omega)
    omega
  generalize hP : p * (L.length : Int) = P at *
  have wP : wrap64 P = P := mw (by omega) (by omega)
  intro n
  induction n with
  | zero =>
    intro m hm
    have e : m = q := by omega
    subst e
    obtain ⟨k, hk⟩ := h
    have w1 : wrap64 ((m : Int) * 100000000) = (m : Int) * 100000000 := mw (by omega) (by omega)
    have w2 : wrap64 ((m : Int) - 1) = (m : Int) - 1 := mw (by omega) (by omega)
    refine ⟨k + 1, ?_⟩
    simp only [capstanref07_By.l0]
    rw [hP, w1, wP, w2, if_neg (by omega), hk]
    rfl
  | succ n ih =>
    intro m hm
    obtain ⟨k, hk⟩ := ih (m + 1) (by omega)
    have := h1 m (by omega)
    have w1 : wrap64 ((m : Int) * 100000000) = (m : Int) * 100000000 := mw (by omega) (by omega)
    have w2 : wrap64 ((m : Int) + 1) = ((m + 1 : Nat) : Int) := by rw [mw (by omega) (by omega)]; omega
    refine ⟨k + 1, ?_⟩
    simp only [capstanref07_By.l0]
    rw [hP, w1, wP, w2, if_pos (by omega)]
    exact hk
theorem by_f (L : List Int) (p : Int) (hL : L.length < 100000) : ∃ k, capstanref07_By.f k L p = some (byV (srt L) p, askB (srt L) p) := by
  have hsl := srt_len L
  by_cases hin : 1 ≤ p ∧ p ≤ 100000000 ∧ 0 < L.length
  · obtain ⟨h1, h2, h3⟩ := hin
    have hpl := place_ok p L.length h1 h2 h3
    have e1 := byV_yes (L := srt L) h1 h2 (by omega)
    have e2 := askB_yes (L := srt L) h1 h2 (by omega)
    rw [hsl] at e1
    obtain ⟨r, hr⟩ := Int.eq_ofNat_of_zero_le hpl.1
    rw [hr] at e1 hpl
    rw [Int.toNat_natCast] at e1
    have hq : place p L.length = r := hr
    unfold place at hq
    have ha := at_f L (r : Int) (by omega)
    have e3 : atV (srt L) (r : Int) = (srt L).getD r 0 := by unfold atV; rw [if_pos (by omega), Int.toNat_natCast]
    have e4 : atB (srt L) (r : Int) = true := decide_eq_true (by omega)
    rw [e3, e4] at ha
    obtain ⟨k, hk⟩ := by_l0 (q := r + 1) (R := ((srt L).getD r 0, true)) (L := L) (p := p) (by omega) h2 hL (fun m hm => by generalize p * (L.length : Int) = P at *; omega) (by generalize p * (L.length : Int) = P at *; omega) (by omega) (by
      have : ((r + 1 : Nat) : Int) - 1 = (r : Int) := by omega
      rw [this]
      exact ha) (r + 1) 0 (by omega)
    refine ⟨k + 1, ?_⟩
    unfold capstanref07_By.f
    rw [if_neg (by omega), if_neg (by omega)]
    simp only [capstanref07_By.j0]
    rw [if_neg (by simp; omega), e1, e2]
    exact hk
  · have e2 : askB (srt L) p = false := decide_eq_false (by rw [hsl]; exact hin)
    have e1 : byV (srt L) p = 0 := by unfold byV; rw [e2]; rfl
    refine ⟨1, ?_⟩
    rw [e1, e2]
    unfold capstanref07_By.f
    split
    · simp [capstanref07_By.j0]
    · split
      · simp [capstanref07_By.j0]
      · simp only [capstanref07_By.j0]
        rw [if_pos (decide_eq_true (by omega))]
end Go.Proofs.Ytgfnlhigmncdmaa

end
