/-
  What the functions By and List of package rank answer.
-/
import Derived.Test.YtfojfgnhblgckaaRankFns4
import Derived.Test.YtfojfgnhblgckaaShelf
namespace Go.Proofs.Ytfojfgnhblgckaa
open Go.RowKit Go.Shelf Go.Proofs.YtfojfgnhblgckaaW.PrintWords Go.Proofs.YtfojfgnhblgckaaW.PrintLast Go.Proofs.YtfojfgnhblgckaaW.PrintMore

set_option maxRecDepth 100000 in
theorem div64_0 (q r lo : Nat) (w : World) (hq : lo / 100000000 = q) (hr : lo % 100000000 = r) (hl : lo < 9223372036854775808) :
    Calls Try.prog 22 #[.int .u64 0, .int .u64 lo, .int .u64 100000000] w fun e w' => e = .returned (.tuple #[.int .u64 q, .int .u64 r]) ∧ Below w.heap.size w w' := by
  have e1 : (lo : Int) / 100000000 = (q : Int) := by omega
  have e2 : (lo : Int) % 100000000 = (r : Int) := by omega
  have e3 : (lo : Int).tdiv 100000000 = (q : Int) := by rw [Int.tdiv_eq_ediv_of_nonneg (by omega)]; exact e1
  have e4 : (lo : Int).tmod 100000000 = (r : Int) := by rw [Int.tmod_eq_emod_of_nonneg (by omega)]; exact e2
  have e5 : IntKind.u64.wrap (q : Int) = (q : Int) := by
    have : (0 : Int) ≤ q ∧ (q : Int) < 18446744073709551616 := by omega
    simp [IntKind.wrap, IntKind.signed, IntKind.bits]
    omega
  have e6 : IntKind.u64.wrap (r : Int) = (r : Int) := by
    simp [IntKind.wrap, IntKind.signed, IntKind.bits]
    omega
  clear hq hr hl e1 e2
  go_enter Try.func22, Try.ntmps22
  go_wp2
  go_quiet (fail)
  go_wp2
  go_ret2
  exact ⟨by simp, pw_below_drewN (Below.refl _ _) _⟩
/-- The place of a rank among n. -/
def place (p : Int) (n : Nat) : Int := (p * n + 99999999) / 100000000 - 1
def askB (L : List Int) (p : Int) : Bool := decide (1 ≤ p ∧ p ≤ 100000000 ∧ 0 < L.length)
def byV (L : List Int) (p : Int) : Int := if askB L p then L.getD (place p L.length).toNat 0 else 0
theorem place_ok (p : Int) (n : Nat) (h1 : 1 ≤ p) (h2 : p ≤ 100000000) (hn : 0 < n) : 0 ≤ place p n ∧ place p n < n := by
  unfold place
  have h3 : 1 * (n : Int) ≤ p * n := Int.mul_le_mul_of_nonneg_right h1 (by omega)
  have h4 : p * (n : Int) ≤ 100000000 * n := Int.mul_le_mul_of_nonneg_right h2 (by omega)
  generalize p * (n : Int) = x at *
  omega
set_option maxRecDepth 100000 in
theorem rank_by_no {w : World} {g : Nat} {ok : Nat → Prop} {L : List Int} (h : RankAt w g ok L) (p : Int) (hp : p < 1 ∨ 100000000 < p) :
    Calls Try.prog 10 #[.pointer (some ⟨g, 0, none⟩), .int .i64 p] w fun e w' => e = .returned (.tuple #[.int .i64 0, .bool false]) ∧ w = w' := by
  by_cases h0 : p < 1
  · have d1 : decide (p < 1) = true := decide_eq_true h0
    clear hp
    go_enter Try.func10, Try.ntmps10
    go_wp2
    go_ret2
    exact ⟨by simp, rfl⟩
  · have d1 : decide (p < 1) = false := decide_eq_false h0
    have d2 : decide (100000000 < p) = true := decide_eq_true (by omega)
    clear hp
    go_enter Try.func10, Try.ntmps10
    go_wp2
    go_ret2
    exact ⟨by simp, rfl⟩
set_option maxRecDepth 100000 in
theorem rank_by_nil (p : Int) (w : World) :
    Calls Try.prog 10 #[.pointer none, .int .i64 p] w fun e w' => e = .returned (.tuple #[.int .i64 0, .bool false]) ∧ w = w' := by
  by_cases h0 : p < 1
  · have d1 : decide (p < 1) = true := decide_eq_true h0
    go_enter Try.func10, Try.ntmps10
    go_wp2
    go_ret2
    exact ⟨by simp, rfl⟩
  · have d1 : decide (p < 1) = false := decide_eq_false h0
    by_cases h2 : 100000000 < p
    · have d2 : decide (100000000 < p) = true := decide_eq_true h2
      go_enter Try.func10, Try.ntmps10
      go_wp2
      go_ret2
      exact ⟨by simp, rfl⟩
    · have d2 : decide (100000000 < p) = false := decide_eq_false h2
      go_enter Try.func10, Try.ntmps10
      go_wp2_with fail
      refine (rank_len_nil _).mono ?_
      rintro e w1 ⟨rfl, rfl⟩
      go_wp2
      go_ret2
      exact ⟨by simp, rfl⟩
set_option maxHeartbeats 4000000 in
set_option maxRecDepth 100000 in
theorem rank_by {w : World} {g : Nat} {ok : Nat → Prop} {L : List Int} (h : RankAt w g ok L) (p : Int) :
    Calls Try.prog 10 #[.pointer (some ⟨g, 0, none⟩), .int .i64 p] w fun e w' => e = .returned (.tuple #[.int .i64 (byV L p), .bool (askB L p)]) ∧ Below w.heap.size w w' := by
  by_cases hp : p < 1 ∨ 100000000 < p
  · have e1 : askB L p = false := decide_eq_false (by omega)
    have e2 : byV L p = 0 := by unfold byV; rw [e1]; rfl
    rw [e1, e2]
    refine (rank_by_no h p hp).mono ?_
    rintro e w' ⟨rfl, rfl⟩
    exact ⟨rfl, Below.refl _ _⟩
  have d1 : decide (p < 1) = false := decide_eq_false (by omega)
  have d2 : decide (100000000 < p) = false := decide_eq_false (by omega)
  by_cases hn : L.length = 0
  · have e1 : askB L p = false := decide_eq_false (by omega)
    have e2 : byV L p = 0 := by unfold byV; rw [e1]; rfl
    rw [e1, e2]
    have d3 : ((L.length : Int) == 0) = true := by simp; exact List.eq_nil_of_length_eq_zero hn
    have HH := Lib.hid h
    have hL : L = [] := List.eq_nil_of_length_eq_zero hn
    subst hL
    clear hp hn h e1 e2
    go_enter Try.func10, Try.ntmps10
    go_wp2_with fail
    refine (rank_len HH.out).mono ?_
    rintro e w1 ⟨rfl, rfl⟩
    go_wp2
    go_ret2
    exact ⟨by simp, Below.refl _ _⟩
  · obtain ⟨n, hnn⟩ : ∃ n, L.length = n := ⟨_, rfl⟩
    have hfew := h.few
    rw [hnn] at hn hfew
    have hpl := place_ok p n (by omega) (by omega) (by omega)
    have e1 : askB L p = true := decide_eq_true (by omega)
    have e2 : byV L p = L.getD (place p n).toNat 0 := by unfold byV; rw [e1, hnn]; rfl
    have e3 : atV L (place p n) = L.getD (place p n).toNat 0 := by unfold atV; rw [if_pos (by rw [hnn]; exact hpl)]
    have e4 : atB L (place p n) = true := decide_eq_true (by rw [hnn]; exact hpl)
    have E := Lib.hid (And.intro e1 (And.intro e2 (And.intro e3 e4)))
    have HH := Lib.hid h
    have HN := Lib.hid hnn
    obtain ⟨P, rfl⟩ := Int.eq_ofNat_of_zero_le (show 0 ≤ p by omega)
    obtain ⟨lo, hlo⟩ : ∃ lo : Nat, P * n = lo := ⟨_, rfl⟩
    have hlo1 : lo ≤ 104857600000000 := by
      rw [← hlo]
      exact Nat.le_trans (Nat.mul_le_mul (show P ≤ 100000000 by omega) hfew) (by decide)
    obtain ⟨q, hq⟩ : ∃ q, lo / 100000000 = q := ⟨_, rfl⟩
    obtain ⟨r, hr⟩ : ∃ r, lo % 100000000 = r := ⟨_, rfl⟩
    have hcast : ((P : Int) * (n : Int)) = (lo : Int) := by rw [← hlo]; simp
    have hplace : place (P : Int) n = if 0 < r then (q : Int) else (q : Int) - 1 := by
      unfold place
      rw [hcast]
      split <;> omega
    have m1 : P * n / 18446744073709551616 = 0 := by rw [hlo]; omega
    have m2 : P * n % 18446744073709551616 = lo := by rw [hlo]; omega
    have HM := Lib.hid (And.intro m1 m2)
    have HD := Lib.hid (div64_0 q r lo · hq hr (by omega))
    have d3 : ((n : Int) == 0) = false := beq_eq_false_iff_ne.2 (by omega)
    have d4 : ¬ n = 0 := by omega
    have HPL := Lib.hid hplace
    have hp0 : (0 : Int) ≤ (P : Int) := by omega
    have hp1 : (P : Int) ≤ 100000000 := by omega
    have HK := Lib.hid (show wrap64 ((q : Int) - 1) = (q : Int) - 1 ∧ wrap64 ((q : Int) + 1 - 1) = (q : Int) ∧ wrap64 (q : Int) = (q : Int) ∧ wrap64 ((q : Int) + 1) = (q : Int) + 1 ∧ IntKind.u64.wrap ((q : Int) + 1) = (q : Int) + 1 by
      refine ⟨by unfold wrap64; omega, by unfold wrap64; omega, by unfold wrap64; omega, by unfold wrap64; omega, ?_⟩
      simp [IntKind.wrap, IntKind.signed, IntKind.bits]
      omega)
    have HX := Lib.hid (show 1 ≤ q ∨ 0 < r by omega)
    clear h hn hpl e1 e2 e3 e4 hnn hlo hlo1 hq hr hcast hplace m1 m2 hp
    go_enter Try.func10, Try.ntmps10
    go_wp2_with fail
    refine (rank_len HH.out).mono ?_
    rintro e w1 ⟨rfl, rfl⟩
    rw [HN.out]
    go_wp2_with fail
    refine (rank_len HH.out).mono ?_
    rintro e w1 ⟨rfl, rfl⟩
    rw [HN.out]
    go_wp2_with fail
    refine (Try.bits_Mul64 P n (by omega) (by omega) _).mono ?_
    rintro e w1 ⟨rfl, rfl⟩
    rw [HM.out.1, HM.out.2]
    go_wp2_with fail
    refine (HD.out _).mono ?_
    rintro e w2 ⟨rfl, b2⟩
    have B2 := Lib.hid b2
    clear b2 hfew
    have k1 := HK.out.1
    have k2 := HK.out.2.1
    have k3 := HK.out.2.2.1
    have k4 := HK.out.2.2.2.2
    by_cases hr0 : 0 < r
    · have k5 := HK.out.2.2.2.1
      have g1 : decide ((0 : Int) < (r : Int)) = true := decide_eq_true (by omega)
      have g2 : decide (0 < r) = true := decide_eq_true hr0
      have HP0 := Lib.hid (show place (P : Int) n = (q : Int) by rw [HPL.out, if_pos hr0])
      clear hr0
      go_wp2_with fail
      have F := Lib.hid (show atV L ((q : Int)) = byV L (P : Int) ∧ atB L ((q : Int)) = askB L (P : Int) by
        rw [← HP0.out]
        exact ⟨E.out.2.2.1.trans E.out.2.1.symm, E.out.2.2.2.trans E.out.1.symm⟩)
      refine (rank_at (HH.out.below B2.out) ((q : Int))).mono ?_
      rintro e w3 ⟨rfl, rfl⟩
      rw [F.out.1, F.out.2]
      go_wp2
      go_ret2
      exact ⟨by simp, B2.out⟩
    · have g1 : decide ((0 : Int) < (r : Int)) = false := decide_eq_false (by omega)
      have g2 : decide (0 < r) = false := decide_eq_false hr0
      have HP0 := Lib.hid (show place (P : Int) n = (q : Int) - 1 by rw [HPL.out, if_neg hr0])
      clear hr0
      go_wp2_with fail
      have F := Lib.hid (show atV L ((q : Int) - 1) = byV L (P : Int) ∧ atB L ((q : Int) - 1) = askB L (P : Int) by
        rw [← HP0.out]
        exact ⟨E.out.2.2.1.trans E.out.2.1.symm, E.out.2.2.2.trans E.out.1.symm⟩)
      refine (rank_at (HH.out.below B2.out) ((q : Int) - 1)).mono ?_
      rintro e w3 ⟨rfl, rfl⟩
      rw [F.out.1, F.out.2]
      go_wp2
      go_ret2
      exact ⟨by simp, B2.out⟩
theorem rank_list_nil (w : World) : Calls Try.prog 17 #[.pointer none] w fun e w' => e = .returned (.slice none 0 0) ∧ w = w' := by
  go_enter Try.func17, Try.ntmps17
  go_wp2
  go_ret
  exact ⟨by simp, rfl⟩
set_option maxHeartbeats 4000000 in
set_option maxRecDepth 100000 in
theorem rank_list {w : World} {g : Nat} {ok : Nat → Prop} {L : List Int} (h : RankAt w g ok L) :
    Calls Try.prog 17 #[.pointer (some ⟨g, 0, none⟩)] w fun e w' => ∃ v, e = .returned v ∧ Kd.R (Kd.int .i64) 2 w' w.heap.size (fun _ => True) v L ∧ Below w.heap.size w w' := by
  obtain ⟨V, hb, hq⟩ := h.ex
  obtain ⟨A, c, rfl⟩ := Kd.R_slice hq
  have c0 := (blk_cell hb 0).trans rfl
  have HQ := Lib.hid hq
  have HH := Lib.hid h
  have HRD := Lib.hid (show ReadsInt w .i64 A L.length L from Kd.reads_of_C (d := 0) (Kd.R_reads' hq).2.2)
  clear hq hb h
  go_enter Try.func17, Try.ntmps17
  go_wp2_with (first | ((with_reducible refine gate_builtin (b := .append) (xs := #[.const (.slice none 0 0), .tmp 8]) rfl ?_); at_builtin; refine print_append_row (w0 := w) w.heap.size rfl (.const (.slice none 0 0)) (.tmp 8) 22 2 .i64 8 rfl Try.underlying22 info64 (by decide) (.slice none 0 0) [] L A L.length c rfl rfl (own_nil _ _ _ _) HRD.out (Below.refl _ _) (Nat.le_refl _) ?aL ?_; (case aL => have := HH.out.few; simp; omega); intro v1 w9 ho hb9 hg9 hat; have HO := Lib.hid ho; have HB9 := Lib.hid hb9; clear ho hb9 hg9 hat; obtain ⟨A9, c9, rfl⟩ := own_slice HO.out))
  go_ret
  refine ⟨_, rfl, ?_, HB9.out⟩
  have := HO.out
  simp only [List.nil_append] at this
  exact Kd.R_of_own this (fun _ _ => trivial)
end Go.Proofs.Ytfojfgnhblgckaa
