/-
  What the library's binary search comes to on numbers in rising order.
-/
import Derived.Test.YtfojfgnhblgckaaRankPure
namespace Go.Proofs.Ytfojfgnhblgckaa
open Go.RowKit Go.Proofs.YtfojfgnhblgckaaW.PrintWords Go.Proofs.YtfojfgnhblgckaaW.PrintLast Go.Proofs.YtfojfgnhblgckaaW.PrintMore

theorem cmp_nan (a : Int) (w : World) : Calls Try.prog 26 #[.int .i64 a] w fun e w' => e = .returned (.bool false) ∧ w = w' := by
  go_enter Try.func26, Try.ntmps26
  go_wp2
  go_ret
  exact ⟨by simp, rfl⟩
theorem slices_nan (a : Int) (w : World) : Calls Try.prog 24 #[.int .i64 a] w fun e w' => e = .returned (.bool false) ∧ w = w' := by
  go_enter Try.func24, Try.ntmps24
  go_wp2
  go_ret
  exact ⟨by simp, rfl⟩
set_option maxRecDepth 100000 in
theorem cmp_less (a b : Int) (w : World) : Calls Try.prog 23 #[.int .i64 a, .int .i64 b] w fun e w' => e = .returned (.bool (decide (a < b))) ∧ w = w' := by
  go_enter Try.func23, Try.ntmps23
  go_wp2_with fail
  refine (cmp_nan _ _).mono ?_
  rintro e w1 ⟨rfl, rfl⟩
  go_wp2
  go_ret
  exact ⟨by simp, rfl⟩
set_option maxHeartbeats 4000000 in
set_option maxRecDepth 100000 in
theorem search {w : World} {A : Option Addr} {c : Nat} {L : List Int} (v : Int) (hc : Kd.C (Kd.int .i64) w A L.length L) (hl : L.length ≤ 17592186044416) (hr : Rising L) :
    Calls Try.prog 20 #[.slice A L.length c, .int .i64 v] w fun e w' => e = .returned (.tuple #[.int .i64 (lower v L : Nat), .bool (hasL v L)]) ∧ w = w' := by
  have HC := Lib.hid hc
  have HR := Lib.hid hr
  have HL := Lib.hid hl
  have HLE := Lib.hid (lower_le v L)
  clear hc hr hl
  go_enter Try.func20, Try.ntmps20
  go_wp2
  go_loopg [7, 8] L.length (fun kq v7 v8 w' => ∃ (i j : Nat), v7 = .int .i64 i ∧ v8 = .int .i64 j ∧ Aside0 (j - i ≤ kq) ∧ Aside0 (i ≤ lower v L ∧ lower v L ≤ j ∧ j ≤ L.length) ∧ Aside0 (w = w'))
  case atStart => exact ⟨0, L.length, rfl, rfl, ⟨by omega⟩, ⟨Nat.zero_le _, HLE.out, Nat.le_refl _⟩, ⟨rfl⟩⟩
  case round =>
    obtain ⟨i, j, rfl, rfl, hk, hb, hw⟩ := hrel
    obtain rfl := hw.out
    by_cases hij : i < j
    · have c0 : decide (i < j) = true := decide_eq_true hij
      obtain ⟨h, hh⟩ : ∃ h : Nat, (i + j) / 2 = h := ⟨_, rfl⟩
      have hi1 : i ≤ h := by omega
      have hj1 : h < j := by omega
      have hjl := hb.out.2.2
      have hll := HL.out
      have hq : ((i : Int) + (j : Int)) / 2 = (h : Int) := by omega
      obtain ⟨ad, rfl, r0⟩ := Kd.at_int HC.out (h : Int) (by omega) (by omega)
      rw [Int.toNat_natCast] at r0
      have f1 := eq_true (show (0 : Int) ≤ (h : Int) by omega)
      have f2 : ((h : Int) < (L.length : Int)) = True := eq_true (by omega)
      have f3 := eq_true (show h < L.length by omega)
      obtain ⟨x, hx⟩ : ∃ x, rd L (h : Int) = x := ⟨_, rfl⟩
      rw [hx] at r0
      have hx2 : L.getD h 0 = x := by rw [← hx]; unfold rd; rw [Int.toNat_natCast]
      have HJ := Lib.hid (And.intro hi1 hj1)
      have Hij := Lib.hid hij
      by_cases hv : x < v
      · have hlo : h + 1 ≤ lower v L := lower_up HR.out (by omega) (by rw [hx2]; exact hv)
        have d1 : decide (x < v) = true := decide_eq_true hv
        have HLO := Lib.hid hlo
        have HW := Lib.hid (show wrap64 ((h : Int) + 1) = ((h + 1 : Nat) : Int) by unfold wrap64; omega)
        clear hlo hv hx hx2 hh hi1 hj1
        go_wp2_with fail
        refine (cmp_less _ _ _).mono ?_
        rintro e w1 ⟨rfl, rfl⟩
        rw [d1]
        clear hq
        go_wp2
        go_roundg (gk - 1)
        case measure => have := hk.out; have := Hij.out; omega
        case rel => exact ⟨h + 1, j, by first | rfl | rw [HW.out] | simp, rfl, ⟨by have := hk.out; have := HJ.out; omega⟩, ⟨HLO.out, hb.out.2.1, hb.out.2.2⟩, ⟨rfl⟩⟩
      · have hlo : lower v L ≤ h := lower_down HR.out (by omega) (by rw [hx2]; exact hv)
        have d1 : decide (x < v) = false := decide_eq_false hv
        have HLO := Lib.hid hlo
        clear hlo hv hx hx2 hh hi1 hj1
        have HJL := Lib.hid hjl
        go_wp2_with fail
        refine (cmp_less _ _ _).mono ?_
        rintro e w1 ⟨rfl, rfl⟩
        rw [d1]
        clear hq
        go_wp2
        go_roundg (gk - 1)
        case measure => have := hk.out; have := Hij.out; omega
        case rel => exact ⟨i, h, rfl, rfl, ⟨by have := hk.out; have := HJ.out; omega⟩, ⟨hb.out.1, HLO.out, by have := HJL.out; have := HJ.out; omega⟩, ⟨rfl⟩⟩
    · have c0 : decide (i < j) = false := decide_eq_false hij
      have hi : i = lower v L := by have := hb.out; omega
      have HI := Lib.hid hi
      have hle : i ≤ L.length := by have := hb.out; omega
      by_cases hil : i < L.length
      · obtain ⟨ad, rfl, r0⟩ := Kd.at_int HC.out (i : Int) (by omega) (by omega)
        rw [Int.toNat_natCast] at r0
        have f1 := eq_true (show (0 : Int) ≤ (i : Int) by omega)
        have f2 : ((i : Int) < (L.length : Int)) = True := eq_true (by omega)
        have f3 := eq_true hil
        have d2 : decide (i < L.length) = true := decide_eq_true hil
        obtain ⟨x, hx⟩ : ∃ x, rd L (i : Int) = x := ⟨_, rfl⟩
        rw [hx] at r0
        have hx2 : L.getD i 0 = x := by rw [← hx]; unfold rd; rw [Int.toNat_natCast]
        by_cases hv : x = v
        · have hh : hasL v L = true := by
            unfold hasL
            rw [← hi]
            exact decide_eq_true ⟨hil, hx2.trans hv⟩
          have HH := Lib.hid hh
          have d1 : (x == v) = true := by simp [hv]
          clear hv hx hx2 hij hi hh hle hil
          go_wp2
          go_ret2
          exact ⟨by rw [HH.out, ← HI.out]; simp, rfl⟩
        · have hh : hasL v L = false := by
            unfold hasL
            rw [← hi]
            exact decide_eq_false (fun hc => hv (hx2.symm.trans hc.2))
          have HH := Lib.hid hh
          have d1 : (x == v) = false := by simp [hv]
          clear hv hx hx2 hij hi hh hle hil
          go_wp2_with fail
          refine (slices_nan _ _).mono ?_
          rintro e w1 ⟨rfl, rfl⟩
          go_wp2
          go_ret2
          exact ⟨by rw [HH.out, ← HI.out]; simp, rfl⟩
      · have hh : hasL v L = false := by
          unfold hasL
          rw [← hi]
          exact decide_eq_false (fun hc => hil hc.1)
        have HH := Lib.hid hh
        have d2 : decide (i < L.length) = false := decide_eq_false hil
        clear hij hi hh hle hil
        go_wp2
        go_ret2
        exact ⟨by rw [HH.out, ← HI.out]; simp, rfl⟩
end Go.Proofs.Ytfojfgnhblgckaa
