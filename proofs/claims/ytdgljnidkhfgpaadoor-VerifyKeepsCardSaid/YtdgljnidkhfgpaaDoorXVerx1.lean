/- Ver of this seat: part of the proof that the law answers true at every input and leaves its arguments as they were, without a condition; written by xprint.sh, a program of this session, out of the translation. -/
import Derived.Test.YtdgljnidkhfgpaaDoorXVerx0
namespace Go.Proofs.YtdgljnidkhfgpaaDoor.XVer
open Go.RowKit Go.Proofs.YtdgljnidkhfgpaaDoorW.PrintWords Go.Proofs.YtdgljnidkhfgpaaDoorW.PrintLast Go.Proofs.YtdgljnidkhfgpaaDoorW.PrintMore
attribute [local go_sem] max2_int min2_int max_two min_two max_three min_three max_four min_four   -- for this text's walks alone
set_option linter.unusedVariables false
set_option linter.unusedSimpArgs false

/-! ### capstanref23_Need: function 19 -/
mutual
def capstanref23_Need.j0 : Nat → Int → Bool → Option (Int)
  | 0, _, _ => none
  | k + 1, x0, x3 => if x3 = true then (some (-1)) else (if x0 ≥ 6 then (if x0 ≤ 11 then (capstanref23_Need.j1 k x0 true) else (if x0 = 24 then (capstanref23_Need.j1 k x0 true) else (if x0 = 28 then (capstanref23_Need.j1 k x0 true) else (if x0 = 30 then (capstanref23_Need.j1 k x0 true) else (if x0 = 31 then (capstanref23_Need.j1 k x0 true) else (if x0 = 32 then (capstanref23_Need.j1 k x0 true) else (capstanref23_Need.j1 k x0 (x0 == 33)))))))) else (if x0 = 24 then (capstanref23_Need.j1 k x0 true) else (if x0 = 28 then (capstanref23_Need.j1 k x0 true) else (if x0 = 30 then (capstanref23_Need.j1 k x0 true) else (if x0 = 31 then (capstanref23_Need.j1 k x0 true) else (if x0 = 32 then (capstanref23_Need.j1 k x0 true) else (capstanref23_Need.j1 k x0 (x0 == 33))))))))
def capstanref23_Need.j1 : Nat → Int → Bool → Option (Int)
  | 0, _, _ => none
  | k + 1, x0, x10 => if x10 = true then (some 1) else (if x0 ≥ 12 then (if x0 ≤ 22 then (some 2) else (some 0)) else (some 0))
end
def capstanref23_Need.f (k : Nat) (a0 : Int) : Option (Int) := if a0 < 1 then (capstanref23_Need.j0 k a0 true) else (capstanref23_Need.j0 k a0 (decide (a0 > 33)))
theorem capstanref23_Need.mono_l : ∀ k, (∀ y0 y1, LeO (capstanref23_Need.j0 k y0 y1) (capstanref23_Need.j0 (k + 1) y0 y1)) ∧ (∀ y0 y1, LeO (capstanref23_Need.j1 k y0 y1) (capstanref23_Need.j1 (k + 1) y0 y1))
  | 0 => ⟨fun _ _ r h => by simp [capstanref23_Need.j0] at h, fun _ _ r h => by simp [capstanref23_Need.j1] at h⟩
  | k + 1 => by
    obtain ⟨ih0, ih1⟩ := capstanref23_Need.mono_l k
    refine ⟨?_, ?_⟩
    · intro y0 y1
      unfold capstanref23_Need.j0
      repeat' first
      | (with_reducible exact ih0 _ _)
      | (with_reducible exact ih1 _ _)
      | (with_reducible exact LeO.refl _)
      | (with_reducible exact LeO.none _)
      | (with_reducible refine LeO.ite ?_ ?_)
      | (with_reducible refine LeO.bind ?_ (fun _ => ?_))
      | exact ih0 _ _
      | exact ih1 _ _
      | exact LeO.none _
      | refine LeO.ite ?_ ?_
      | refine LeO.bind ?_ (fun _ => ?_)
    · intro y0 y1
      unfold capstanref23_Need.j1
      repeat' first
      | (with_reducible exact ih0 _ _)
      | (with_reducible exact ih1 _ _)
      | (with_reducible exact LeO.refl _)
      | (with_reducible exact LeO.none _)
      | (with_reducible refine LeO.ite ?_ ?_)
      | (with_reducible refine LeO.bind ?_ (fun _ => ?_))
      | exact ih0 _ _
      | exact ih1 _ _
      | exact LeO.none _
      | refine LeO.ite ?_ ?_
      | refine LeO.bind ?_ (fun _ => ?_)
theorem capstanref23_Need.mono : ∀ a0 k, LeO (capstanref23_Need.f k a0) (capstanref23_Need.f (k + 1) a0) := by
  intro a0 k
  obtain ⟨ih0, ih1⟩ := capstanref23_Need.mono_l k
  unfold capstanref23_Need.f
  repeat' first
      | (with_reducible exact ih0 _ _)
      | (with_reducible exact ih1 _ _)
      | (with_reducible exact LeO.refl _)
      | (with_reducible exact LeO.none _)
      | (with_reducible refine LeO.ite ?_ ?_)
      | (with_reducible refine LeO.bind ?_ (fun _ => ?_))
      | exact ih0 _ _
      | exact ih1 _ _
      | exact LeO.none _
      | refine LeO.ite ?_ ?_
      | refine LeO.bind ?_ (fun _ => ?_)
set_option maxHeartbeats 8000000 in
set_option maxRecDepth 100000 in
theorem capstanref23_Need.calls (k : Nat) (a0 : Int) (r : Int) (w : World) (h : capstanref23_Need.f k a0 = some r) :
    Calls Tryd.prog 19 #[.int .i64 a0] w fun e w' => e = .returned (.int .i64 r) ∧ Drawn0 w w' := by
  have H : (if a0 < 1 then (capstanref23_Need.j0 k a0 true) else (capstanref23_Need.j0 k a0 (decide (a0 > 33)))) = some r := h
  clear h
  have HC2 := Aside0.mk H
  clear H
  go_enter Tryd.func19, Tryd.ntmps19
  go_upto_region 1 with (fail)
  go_cut [3] (fun v3 wc => ∃ (kq : Nat) (x3_1 : Bool), v3 = .bool x3_1 ∧ Aside0 (capstanref23_Need.j0 kq a0 x3_1 = some r) ∧ Aside0 (kq ≤ k) ∧ Drawn0 w wc)
  case first =>
    have H := HC2.out
    clear HC2
    by_cases c3 : a0 < 1
    · rw [if_pos c3] at H
      have c3b0 : decide (a0 < 1) = true := decide_eq_true c3
      clear c3
      (first | rw [c3b0] | (simp only [i64_w, i32_w]; rw [c3b0]) | skip)
      have H' := Aside0.mk H
      clear H
      go_wp2
      go_meet
      case rel => exact ⟨_, (true), (by first | rfl | (simp; done) | (simp [*]; done)), H', ⟨by first | omega | exact Nat.le_refl _⟩, by repeat (first | exact Drawn0.refl _ | apply Drawn0.step)⟩
    · rw [if_neg c3] at H
      have c3b0 : decide (a0 < 1) = false := decide_eq_false c3
      clear c3
      (first | rw [c3b0] | (simp only [i64_w, i32_w]; rw [c3b0]) | skip)
      have H' := Aside0.mk H
      clear H
      go_wp2
      go_meet
      case rel => exact ⟨_, (decide (a0 > 33)), (by first | rfl | (simp; done) | (simp [*]; done)), H', ⟨by first | omega | exact Nat.le_refl _⟩, by repeat (first | exact Drawn0.refl _ | apply Drawn0.step)⟩
  case rest =>
    clear HC2
    try clear c1
    try clear p2
    try clear c3
    try clear c3b0
    obtain ⟨kq, x3_1, rfl, HA, HJ1, ⟨mc1, rfl⟩⟩ := hcut
    cases kq with
    | zero => exact absurd HA.out (by simp [capstanref23_Need.j0])
    | succ kj1 =>
      have H := HA.out
      clear HA
      simp only [capstanref23_Need.j0] at H
      by_cases c4 : x3_1 = true
      · subst c4
        have H1 : (some (-1)) = some r := by rw [if_pos rfl] at H; exact H
        clear H
        have H := H1
        clear H1
        obtain rfl := Option.some.inj H
        go_wp2
        go_ret
        exact ⟨by first | rfl | (simp; done) | (simp [*]; done), by repeat (first | exact Drawn0.refl _ | apply Drawn0.step)⟩
      · replace c4 := Bool.eq_false_iff.mpr c4
        subst c4
        have H1 : (if a0 ≥ 6 then (if a0 ≤ 11 then (capstanref23_Need.j1 kj1 a0 true) else (if a0 = 24 then (capstanref23_Need.j1 kj1 a0 true) else (if a0 = 28 then (capstanref23_Need.j1 kj1 a0 true) else (if a0 = 30 then (capstanref23_Need.j1 kj1 a0 true) else (if a0 = 31 then (capstanref23_Need.j1 kj1 a0 true) else (if a0 = 32 then (capstanref23_Need.j1 kj1 a0 true) else (capstanref23_Need.j1 kj1 a0 (a0 == 33)))))))) else (if a0 = 24 then (capstanref23_Need.j1 kj1 a0 true) else (if a0 = 28 then (capstanref23_Need.j1 kj1 a0 true) else (if a0 = 30 then (capstanref23_Need.j1 kj1 a0 true) else (if a0 = 31 then (capstanref23_Need.j1 kj1 a0 true) else (if a0 = 32 then (capstanref23_Need.j1 kj1 a0 true) else (capstanref23_Need.j1 kj1 a0 (a0 == 33)))))))) = some r := by rw [if_neg (show ¬ (false = true) by decide)] at H; exact H
        clear H
        have H := H1
        clear H1
        have HC5 := Aside0.mk H
        clear H
        go_upto_region 3 with (fail)
        go_cut [10] (fun v10 wc => ∃ (kq : Nat) (x10_4 : Bool), v10 = .bool x10_4 ∧ Aside0 (capstanref23_Need.j1 kq a0 x10_4 = some r) ∧ Aside0 (kq ≤ kj1) ∧ Drawn0 w wc)
        case first =>
          have H := HC5.out
          clear HC5
          by_cases c6 : a0 ≥ 6
          · rw [if_pos c6] at H
            have c6b0 : decide (6 ≤ a0) = true := decide_eq_true c6
            clear c6
            (first | rw [c6b0] | (simp only [i64_w, i32_w]; rw [c6b0]) | skip)
            by_cases c7 : a0 ≤ 11
            · rw [if_pos c7] at H
              have c7b0 : decide (a0 ≤ 11) = true := decide_eq_true c7
              clear c7
              have H' := Aside0.mk H
              clear H
              go_wp2
              go_meet
              case rel => exact ⟨_, (true), (by first | rfl | (simp; done) | (simp [*]; done)), H', ⟨by have := HJ1.out; first | omega | exact Nat.le_refl _⟩, by repeat (first | exact Drawn0.refl _ | apply Drawn0.step)⟩
            · rw [if_neg c7] at H
              have c7b0 : decide (a0 ≤ 11) = false := decide_eq_false c7
              clear c7
              by_cases c8 : a0 = 24
              · rw [if_pos c8] at H
                have c8b0 : (a0 == 24) = true := beq_iff_eq.mpr c8
                have c8b1 : (a0 != 24) = false := bne_eq_false_iff_eq.mpr c8
                clear c8
                have H' := Aside0.mk H
                clear H
                go_wp2
                go_meet
                case rel => exact ⟨_, (true), (by first | rfl | (simp; done) | (simp [*]; done)), H', ⟨by have := HJ1.out; first | omega | exact Nat.le_refl _⟩, by repeat (first | exact Drawn0.refl _ | apply Drawn0.step)⟩
              · rw [if_neg c8] at H
                have c8b0 : (a0 == 24) = false := beq_eq_false_iff_ne.mpr c8
                have c8b1 : (a0 != 24) = true := bne_iff_ne.mpr c8
                by_cases c9 : a0 = 28
                · rw [if_pos c9] at H
                  have c9b0 : (a0 == 28) = true := beq_iff_eq.mpr c9
                  have c9b1 : (a0 != 28) = false := bne_eq_false_iff_eq.mpr c9
                  clear c9
                  have H' := Aside0.mk H
                  clear H
                  go_wp2
                  go_meet
                  case rel => exact ⟨_, (true), (by first | rfl | (simp; done) | (simp [*]; done)), H', ⟨by have := HJ1.out; first | omega | exact Nat.le_refl _⟩, by repeat (first | exact Drawn0.refl _ | apply Drawn0.step)⟩
                · rw [if_neg c9] at H
                  have c9b0 : (a0 == 28) = false := beq_eq_false_iff_ne.mpr c9
                  have c9b1 : (a0 != 28) = true := bne_iff_ne.mpr c9
                  by_cases c10 : a0 = 30
                  · rw [if_pos c10] at H
                    have c10b0 : (a0 == 30) = true := beq_iff_eq.mpr c10
                    have c10b1 : (a0 != 30) = false := bne_eq_false_iff_eq.mpr c10
                    clear c10
                    have H' := Aside0.mk H
                    clear H
                    go_wp2
                    go_meet
                    case rel => exact ⟨_, (true), (by first | rfl | (simp; done) | (simp [*]; done)), H', ⟨by have := HJ1.out; first | omega | exact Nat.le_refl _⟩, by repeat (first | exact Drawn0.refl _ | apply Drawn0.step)⟩
                  · rw [if_neg c10] at H
                    have c10b0 : (a0 == 30) = false := beq_eq_false_iff_ne.mpr c10
                    have c10b1 : (a0 != 30) = true := bne_iff_ne.mpr c10
                    by_cases c11 : a0 = 31
                    · rw [if_pos c11] at H
                      have c11b0 : (a0 == 31) = true := beq_iff_eq.mpr c11
                      have c11b1 : (a0 != 31) = false := bne_eq_false_iff_eq.mpr c11
                      clear c11
                      have H' := Aside0.mk H
                      clear H
                      go_wp2
                      go_meet
                      case rel => exact ⟨_, (true), (by first | rfl | (simp; done) | (simp [*]; done)), H', ⟨by have := HJ1.out; first | omega | exact Nat.le_refl _⟩, by repeat (first | exact Drawn0.refl _ | apply Drawn0.step)⟩
                    · rw [if_neg c11] at H
                      have c11b0 : (a0 == 31) = false := beq_eq_false_iff_ne.mpr c11
                      have c11b1 : (a0 != 31) = true := bne_iff_ne.mpr c11
                      by_cases c12 : a0 = 32
                      · rw [if_pos c12] at H
                        have c12b0 : (a0 == 32) = true := beq_iff_eq.mpr c12
                        have c12b1 : (a0 != 32) = false := bne_eq_false_iff_eq.mpr c12
                        clear c12
                        have H' := Aside0.mk H
                        clear H
                        go_wp2
                        go_meet
                        case rel => exact ⟨_, (true), (by first | rfl | (simp; done) | (simp [*]; done)), H', ⟨by have := HJ1.out; first | omega | exact Nat.le_refl _⟩, by repeat (first | exact Drawn0.refl _ | apply Drawn0.step)⟩
                      · rw [if_neg c12] at H
                        have c12b0 : (a0 == 32) = false := beq_eq_false_iff_ne.mpr c12
                        have c12b1 : (a0 != 32) = true := bne_iff_ne.mpr c12
                        have H' := Aside0.mk H
                        clear H
                        go_wp2
                        go_meet
                        case rel => exact ⟨_, ((a0 == 33)), (by first | rfl | (simp; done) | (simp [*]; done)), H', ⟨by have := HJ1.out; first | omega | exact Nat.le_refl _⟩, by repeat (first | exact Drawn0.refl _ | apply Drawn0.step)⟩
          · rw [if_neg c6] at H
            have c6b0 : decide (6 ≤ a0) = false := decide_eq_false c6
            clear c6
            (first | rw [c6b0] | (simp only [i64_w, i32_w]; rw [c6b0]) | skip)
            by_cases c13 : a0 = 24
            · rw [if_pos c13] at H
              have c13b0 : (a0 == 24) = true := beq_iff_eq.mpr c13
              have c13b1 : (a0 != 24) = false := bne_eq_false_iff_eq.mpr c13
              clear c13
              have H' := Aside0.mk H
              clear H
              go_wp2
              go_meet
              case rel => exact ⟨_, (true), (by first | rfl | (simp; done) | (simp [*]; done)), H', ⟨by have := HJ1.out; first | omega | exact Nat.le_refl _⟩, by repeat (first | exact Drawn0.refl _ | apply Drawn0.step)⟩
            · rw [if_neg c13] at H
              have c13b0 : (a0 == 24) = false := beq_eq_false_iff_ne.mpr c13
              have c13b1 : (a0 != 24) = true := bne_iff_ne.mpr c13
              by_cases c14 : a0 = 28
              · rw [if_pos c14] at H
                have c14b0 : (a0 == 28) = true := beq_iff_eq.mpr c14
                have c14b1 : (a0 != 28) = false := bne_eq_false_iff_eq.mpr c14
                clear c14
                have H' := Aside0.mk H
                clear H
                go_wp2
                go_meet
                case rel => exact ⟨_, (true), (by first | rfl | (simp; done) | (simp [*]; done)), H', ⟨by have := HJ1.out; first | omega | exact Nat.le_refl _⟩, by repeat (first | exact Drawn0.refl _ | apply Drawn0.step)⟩
              · rw [if_neg c14] at H
                have c14b0 : (a0 == 28) = false := beq_eq_false_iff_ne.mpr c14
                have c14b1 : (a0 != 28) = true := bne_iff_ne.mpr c14
                by_cases c15 : a0 = 30
                · rw [if_pos c15] at H
                  have c15b0 : (a0 == 30) = true := beq_iff_eq.mpr c15
                  have c15b1 : (a0 != 30) = false := bne_eq_false_iff_eq.mpr c15
                  clear c15
                  have H' := Aside0.mk H
                  clear H
                  go_wp2
                  go_meet
                  case rel => exact ⟨_, (true), (by first | rfl | (simp; done) | (simp [*]; done)), H', ⟨by have := HJ1.out; first | omega | exact Nat.le_refl _⟩, by repeat (first | exact Drawn0.refl _ | apply Drawn0.step)⟩
                · rw [if_neg c15] at H
                  have c15b0 : (a0 == 30) = false := beq_eq_false_iff_ne.mpr c15
                  have c15b1 : (a0 != 30) = true := bne_iff_ne.mpr c15
                  by_cases c16 : a0 = 31
                  · rw [if_pos c16] at H
                    have c16b0 : (a0 == 31) = true := beq_iff_eq.mpr c16
                    have c16b1 : (a0 != 31) = false := bne_eq_false_iff_eq.mpr c16
                    clear c16
                    have H' := Aside0.mk H
                    clear H
                    go_wp2
                    go_meet
                    case rel => exact ⟨_, (true), (by first | rfl | (simp; done) | (simp [*]; done)), H', ⟨by have := HJ1.out; first | omega | exact Nat.le_refl _⟩, by repeat (first | exact Drawn0.refl _ | apply Drawn0.step)⟩
                  · rw [if_neg c16] at H
                    have c16b0 : (a0 == 31) = false := beq_eq_false_iff_ne.mpr c16
                    have c16b1 : (a0 != 31) = true := bne_iff_ne.mpr c16
                    by_cases c17 : a0 = 32
                    · rw [if_pos c17] at H
                      have c17b0 : (a0 == 32) = true := beq_iff_eq.mpr c17
                      have c17b1 : (a0 != 32) = false := bne_eq_false_iff_eq.mpr c17
                      clear c17
                      have H' := Aside0.mk H
                      clear H
                      go_wp2
                      go_meet
                      case rel => exact ⟨_, (true), (by first | rfl | (simp; done) | (simp [*]; done)), H', ⟨by have := HJ1.out; first | omega | exact Nat.le_refl _⟩, by repeat (first | exact Drawn0.refl _ | apply Drawn0.step)⟩
                    · rw [if_neg c17] at H
                      have c17b0 : (a0 == 32) = false := beq_eq_false_iff_ne.mpr c17
                      have c17b1 : (a0 != 32) = true := bne_iff_ne.mpr c17
                      have H' := Aside0.mk H
                      clear H
                      go_wp2
                      go_meet
                      case rel => exact ⟨_, ((a0 == 33)), (by first | rfl | (simp; done) | (simp [*]; done)), H', ⟨by have := HJ1.out; first | omega | exact Nat.le_refl _⟩, by repeat (first | exact Drawn0.refl _ | apply Drawn0.step)⟩
        case rest =>
          clear HC5
          try clear c1
          try clear p2
          try clear c3
          try clear c3b0
          try clear c4
          try clear c6
          try clear c6b0
          try clear c7
          try clear c7b0
          try clear c8
          try clear c8b0
          try clear c8b1
          try clear c9
          try clear c9b0
          try clear c9b1
          try clear c10
          try clear c10b0
          try clear c10b1
          try clear c11
          try clear c11b0
          try clear c11b1
          try clear c12
          try clear c12b0
          try clear c12b1
          try clear c13
          try clear c13b0
          try clear c13b1
          try clear c14
          try clear c14b0
          try clear c14b1
          try clear c15
          try clear c15b0
          try clear c15b1
          try clear c16
          try clear c16b0
          try clear c16b1
          try clear c17
          try clear c17b0
          try clear c17b1
          try clear p2
          obtain ⟨kq, x10_4, rfl, HA, HJ4, ⟨mc4, rfl⟩⟩ := hcut
          cases kq with
          | zero => exact absurd HA.out (by simp [capstanref23_Need.j1])
          | succ kj4 =>
            have H := HA.out
            clear HA
            simp only [capstanref23_Need.j1] at H
            by_cases c18 : x10_4 = true
            · subst c18
              have H1 : (some 1) = some r := by rw [if_pos rfl] at H; exact H
              clear H
              have H := H1
              clear H1
              obtain rfl := Option.some.inj H
              go_wp2
              go_ret
              exact ⟨by first | rfl | (simp; done) | (simp [*]; done), by repeat (first | exact Drawn0.refl _ | apply Drawn0.step)⟩
            · replace c18 := Bool.eq_false_iff.mpr c18
              subst c18
              have H1 : (if a0 ≥ 12 then (if a0 ≤ 22 then (some 2) else (some 0)) else (some 0)) = some r := by rw [if_neg (show ¬ (false = true) by decide)] at H; exact H
              clear H
              have H := H1
              clear H1
              by_cases c19 : a0 ≥ 12
              · rw [if_pos c19] at H
                have c19b0 : decide (12 ≤ a0) = true := decide_eq_true c19
                clear c19
                by_cases c20 : a0 ≤ 22
                · rw [if_pos c20] at H
                  have c20b0 : decide (a0 ≤ 22) = true := decide_eq_true c20
                  clear c20
                  obtain rfl := Option.some.inj H
                  go_wp2
                  go_ret
                  exact ⟨by first | rfl | (simp; done) | (simp [*]; done), by repeat (first | exact Drawn0.refl _ | apply Drawn0.step)⟩
                · rw [if_neg c20] at H
                  have c20b0 : decide (a0 ≤ 22) = false := decide_eq_false c20
                  clear c20
                  obtain rfl := Option.some.inj H
                  go_wp2
                  go_ret
                  exact ⟨by first | rfl | (simp; done) | (simp [*]; done), by repeat (first | exact Drawn0.refl _ | apply Drawn0.step)⟩
              · rw [if_neg c19] at H
                have c19b0 : decide (12 ≤ a0) = false := decide_eq_false c19
                clear c19
                obtain rfl := Option.some.inj H
                go_wp2
                go_ret
                exact ⟨by first | rfl | (simp; done) | (simp [*]; done), by repeat (first | exact Drawn0.refl _ | apply Drawn0.step)⟩

end Go.Proofs.YtdgljnidkhfgpaaDoor.XVer
