/-
  RankBounds: the law's call answers true, for every list of numbers and every percent; nothing that was there is changed.
-/
import Derived.Test.YtfojfgnhblgckaaRankNilLaw
import Derived.Test.YtfojfgnhblgckaaRankSort
namespace Go.Proofs.Ytfojfgnhblgckaa
open Go.RowKit Go.Proofs.YtfojfgnhblgckaaW.PrintWords Go.Proofs.YtfojfgnhblgckaaW.PrintLast Go.Proofs.YtfojfgnhblgckaaW.PrintMore

theorem mx2_le (a b : Int) : mx2 a b = max a b := by
  show (if a < b then b else a) = max a b
  rw [Int.max_def]
  split <;> split <;> omega
set_option maxHeartbeats 8000000 in
set_option maxRecDepth 100000 in
theorem RankBounds_c (A : Option Addr) (c : Nat) (L : List Int) (p : Int) (W : World) (hc : Kd.C (Kd.int .i64) W A L.length L) :
    Calls Try.prog 3 #[.slice A L.length c, .int .i64 p] W fun e w' => e = .returned (.bool true) ∧ Below W.heap.size W w' := by
  have HC := Lib.hid hc
  clear hc
  go_enter Try.func3, Try.ntmps3
  go_wp2_with fail
  refine (awake07 _).mono ?_
  rintro e w1 ⟨rfl, b1⟩
  go_wp2_with fail
  refine (rinv_new W _ b1).mono ?_
  rintro e w2 ⟨g, rfl, h2⟩
  have HI := Lib.hid h2
  clear h2 b1
  by_cases hbig : 2000 < L.length
  · have d1 : decide (2000 < L.length) = true := decide_eq_true hbig
    have d2 : decide ((2000 : Int) < (L.length : Int)) = true := decide_eq_true (by omega)
    clear hbig
    go_wp2
    go_ret
    exact ⟨by simp, HI.out.bel⟩
  have d1 : decide (2000 < L.length) = false := decide_eq_false hbig
  have d2 : decide ((2000 : Int) < (L.length : Int)) = false := decide_eq_false (by omega)
  have HF := Lib.hid (show L.length ≤ 2000 by omega)
  clear hbig
  go_wp2
  clear d1 d2
  go_loopg [6] L.length (fun kq v6 w' => ∃ i : Nat, v6 = .int .i64 i ∧ Aside0 (i + kq = L.length) ∧ Aside0 (RInv W g (srt (L.take i)) w'))
  case atStart => exact ⟨0, rfl, ⟨by omega⟩, ⟨HI.out⟩⟩
  case round =>
    clear HI
    obtain ⟨i, rfl, hk, hI⟩ := hrel
    by_cases hi : i < L.length
    · have c0 : decide (i < L.length) = true := decide_eq_true hi
      obtain ⟨ad, rfl, q0⟩ := Kd.at_int HC.out (i : Int) (by omega) (by omega)
      rw [Int.toNat_natCast] at q0
      have r0 := (hI.out.bel.cell (World.block_lt_of_cell? W _ q0)).trans q0
      have f1 := eq_true (show (0 : Int) ≤ (i : Int) by omega)
      have f2 : ((i : Int) < (L.length : Int)) = True := eq_true (by omega)
      have f3 := eq_true hi
      obtain ⟨x, hx⟩ : ∃ x, rd L (i : Int) = x := ⟨_, rfl⟩
      rw [hx] at r0
      have HS := Lib.hid (show srt (L.take (i + 1)) = putL x (srt (L.take i)) by rw [srt_take hi, ← hx]; unfold rd; rw [Int.toNat_natCast])
      have Hi := Lib.hid hi
      have HW := Lib.hid (show wrap64 ((i : Int) + 1) = ((i + 1 : Nat) : Int) by have := HF.out; unfold wrap64; omega)
      clear q0 hx hi
      go_wp2_with fail
      refine (rinv_put x hI.out (by rw [srt_len, List.length_take]; have := HF.out; have := Hi.out; omega)).mono ?_
      rintro e w3 ⟨rfl, h3⟩
      have P3 := Lib.hid h3
      clear h3 r0
      go_wp2
      go_roundg (gk - 1)
      case measure => have := hk.out; have := Hi.out; omega
      case rel => exact ⟨i + 1, by first | rfl | rw [HW.out], ⟨by have := hk.out; have := Hi.out; omega⟩, ⟨by rw [HS.out]; exact P3.out⟩⟩
    · have c0 : decide (i < L.length) = false := decide_eq_false hi
      have hil : i = L.length := by have := hk.out; omega
      have PE := Lib.hid (show RInv W g (srt L) wr by have h := hI.out; rw [hil, List.take_length] at h; exact h)
      clear hi hil
      go_wp2_with fail
      refine (rinv_by p PE.out).mono ?_
      rintro e w4 ⟨rfl, b4⟩
      have P4 := Lib.hid (PE.out.below b4)
      clear b4
      by_cases hask : 1 ≤ p ∧ p ≤ 100000000 ∧ 0 < L.length
      · have ea : askB (srt L) p = true := decide_eq_true (by rw [srt_len]; exact hask)
        have d1 : decide (p < 1) = false := decide_eq_false (by omega)
        have d2 : decide (100000000 < p) = false := decide_eq_false (by omega)
        have d3 : ((L.length : Int) == 0) = false := beq_eq_false_iff_ne.2 (by omega)
        have d4 : ¬ L = [] := by rintro rfl; simp at hask
        have d5 : ¬ L.length = 0 := by omega
        have HASK := Lib.hid hask
        obtain ⟨ad, rfl, q0⟩ := Kd.at_int HC.out 0 (by omega) (by omega)
        have r0 := (P4.out.bel.cell (World.block_lt_of_cell? W _ q0)).trans q0
        have r0' : w4.cell? ad = some (.int .i64 (rd L 0)) := by simpa [Addr.add] using r0
        have f1 : ((0 : Int) < (L.length : Int)) = True := eq_true (by omega)
        have f2 := eq_true (show 0 < L.length by omega)
        obtain ⟨v, hv⟩ : ∃ v, byV (srt L) p = v := ⟨_, rfl⟩
        have HV := Lib.hid hv
        rw [ea, hv]
        clear hv ea hask q0
        go_wp2
        have HM0 := Lib.hid (show mxL L 0 = rd L 0 by unfold mxL rd; rfl)
        clear r0 r0' f1 f2 d3 d4 d5 d1 d2
        go_loopg [9, 10, 11, 12] L.length (fun kq v9 v10 v11 v12 w' => ∃ (i : Nat) (lo up : Nat) (m : Int), v9 = .int .i64 lo ∧ v10 = .int .i64 up ∧ v11 = .int .i64 m ∧ v12 = .int .i64 i ∧ Aside0 (i + kq = L.length) ∧ Aside0 (lo = lower v (L.take i) ∧ up = asLow v (L.take i) ∧ m = mxL L i) ∧ Aside0 (w4 = w'))
        case atStart => exact ⟨0, 0, 0, rd L 0, rfl, rfl, rfl, rfl, ⟨by omega⟩, ⟨by simp [lower], by simp [asLow], HM0.out.symm⟩, ⟨rfl⟩⟩
        case round =>
          obtain ⟨i, lo, up, m, rfl, rfl, rfl, rfl, hk, hx, hw⟩ := hrel
          obtain rfl := hw.out
          by_cases hi : i < L.length
          · have c0 : decide (i < L.length) = true := decide_eq_true hi
            obtain ⟨ad2, he, q0⟩ := Kd.at_int HC.out (i : Int) (by omega) (by omega)
            cases he
            rw [Int.toNat_natCast] at q0
            have r0 := (P4.out.bel.cell (World.block_lt_of_cell? W _ q0)).trans q0
            have f1 := eq_true (show (0 : Int) ≤ (i : Int) by omega)
            have f2 : ((i : Int) < (L.length : Int)) = True := eq_true (by omega)
            have f3 := eq_true hi
            obtain ⟨x, hxx⟩ : ∃ x, rd L (i : Int) = x := ⟨_, rfl⟩
            rw [hxx] at r0
            have hg : L.getD i 0 = x := by rw [← hxx]; unfold rd; rw [Int.toNat_natCast]
            have hlo : lo ≤ i := by
              rw [hx.out.1]
              have := lower_le v (L.take i)
              rw [List.length_take] at this
              omega
            have hup : up ≤ i := by
              rw [hx.out.2.1]
              have : asLow v (L.take i) ≤ (L.take i).length := List.length_filter_le _ _
              rw [List.length_take] at this
              omega
            have hll := lower_take (v := v) hi
            have hal := asLow_take (v := v) hi
            have hml := mxL_take hi
            rw [hg] at hll hal hml
            rw [← hx.out.1] at hll
            rw [← hx.out.2.1] at hal
            rw [← hx.out.2.2] at hml
            obtain ⟨m2, hm2⟩ : ∃ m2, max m x = m2 := ⟨_, rfl⟩
            rw [mx2_le, hm2] at hml
            have Hi := Lib.hid hi
            have HW := Lib.hid (show wrap64 ((i : Int) + 1) = ((i + 1 : Nat) : Int) ∧ wrap64 ((lo : Int) + 1) = ((lo + 1 : Nat) : Int) ∧ wrap64 ((up : Int) + 1) = ((up + 1 : Nat) : Int) by have := HF.out; unfold wrap64; omega)
            have HML := Lib.hid hml
            clear q0 hxx hi hlo hup hml
            by_cases hv1 : x < v
            · rw [if_pos hv1] at hll
              rw [if_pos (by omega)] at hal
              have d1 : decide (x < v) = true := decide_eq_true hv1
              have d2 : decide (x ≤ v) = true := decide_eq_true (by omega)
              have HLA := Lib.hid (And.intro hll hal)
              clear hll hal hg
              go_wp2
              go_roundg (gk - 1)
              case measure => have := hk.out; have := Hi.out; omega
              case rel => exact ⟨i + 1, lo + 1, up + 1, m2, by first | rfl | rw [HW.out.2.1], by first | rfl | rw [HW.out.2.2], by first | rw [← hm2] | rfl, by first | rfl | rw [HW.out.1], ⟨by have := hk.out; have := Hi.out; omega⟩, ⟨HLA.out.1.symm, HLA.out.2.symm, HML.out.symm⟩, ⟨rfl⟩⟩
            · rw [if_neg hv1] at hll
              by_cases hv2 : x ≤ v
              · rw [if_pos hv2] at hal
                have d1 : decide (x < v) = false := decide_eq_false hv1
                have d2 : decide (x ≤ v) = true := decide_eq_true hv2
                have HLA := Lib.hid (And.intro hll hal)
                clear hll hal hg
                go_wp2
                go_roundg (gk - 1)
                case measure => have := hk.out; have := Hi.out; omega
                case rel => exact ⟨i + 1, lo, up + 1, m2, rfl, by first | rfl | rw [HW.out.2.2], by first | rw [← hm2] | rfl, by first | rfl | rw [HW.out.1], ⟨by have := hk.out; have := Hi.out; omega⟩, ⟨HLA.out.1.symm, HLA.out.2.symm, HML.out.symm⟩, ⟨rfl⟩⟩
              · rw [if_neg hv2] at hal
                have d1 : decide (x < v) = false := decide_eq_false hv1
                have d2 : decide (x ≤ v) = false := decide_eq_false hv2
                have HLA := Lib.hid (And.intro hll hal)
                clear hll hal hg
                go_wp2
                go_roundg (gk - 1)
                case measure => have := hk.out; have := Hi.out; omega
                case rel => exact ⟨i + 1, lo, up, m2, rfl, rfl, by first | rw [← hm2] | rfl, by first | rfl | rw [HW.out.1], ⟨by have := hk.out; have := Hi.out; omega⟩, ⟨HLA.out.1.symm, HLA.out.2.symm, HML.out.symm⟩, ⟨rfl⟩⟩
          · have c0 : decide (i < L.length) = false := decide_eq_false hi
            have hil : i = L.length := by have := hk.out; omega
            obtain ⟨h1, h2, h3⟩ := HASK.out
            have hlaw := bounds_law h1 h2 h3
            have hxo := hx.out
            rw [hil, List.take_length] at hxo
            rw [HV.out, ← hxo.1, ← hxo.2.1, ← hxo.2.2] at hlaw
            have hlo : lo ≤ L.length := by rw [hxo.1]; exact lower_le v L
            have hup : up ≤ L.length := by rw [hxo.2.1]; exact List.length_filter_le _ _
            have ht := askB_yes (L := srt L) (p := 100000000) (by omega) (by omega) (by rw [srt_len]; exact h3)
            obtain ⟨P, hP⟩ : ∃ P, p * (L.length : Int) = P := ⟨_, rfl⟩
            have hPb : 0 ≤ P ∧ P ≤ 200000000000 := by
              have hf := HF.out
              have a1 : p * (L.length : Int) ≤ 100000000 * L.length := Int.mul_le_mul_of_nonneg_right h2 (by omega)
              have a2 : 0 ≤ p * (L.length : Int) := Int.mul_nonneg (by omega) (by omega)
              omega
            rw [hP] at hlaw
            obtain ⟨top, htop⟩ : ∃ top, byV (srt L) 100000000 = top := ⟨_, rfl⟩
            rw [htop] at hlaw
            have HT := Lib.hid (And.intro ht htop)
            have w1' : wrap64 P = P := by unfold wrap64; omega
            have w2' : wrap64 ((up : Int) * 100000000) = (up : Int) * 100000000 := by have := HF.out; unfold wrap64; omega
            have w3' : wrap64 ((lo : Int) * 100000000) = (lo : Int) * 100000000 := by have := HF.out; unfold wrap64; omega
            have g1 : decide (P ≤ (up : Int) * 100000000) = true := decide_eq_true hlaw.1
            have g2 : decide ((lo : Int) * 100000000 < P) = true := decide_eq_true hlaw.2.1
            have g3 : (top == m) = true := by simp [hlaw.2.2.1]
            have g4 : decide (v ≤ top) = true := decide_eq_true hlaw.2.2.2
            have HW := Lib.hid (And.intro w1' (And.intro w2' w3'))
            clear hi hil hlaw hxo hlo hup ht hPb htop h1 h2 h3 w1' w2' w3'
            go_wp2_with fail
            refine (rinv_by 100000000 P4.out).mono ?_
            rintro e w5 ⟨rfl, b5⟩
            rw [HT.out.1, HT.out.2]
            have P5 := Lib.hid (P4.out.below b5).bel
            clear b5
            have w1' := HW.out.1
            have w2' := HW.out.2.1
            have w3' := HW.out.2.2
            go_wp2
            go_ret
            exact ⟨by simp, P5.out⟩
      · have ea : askB (srt L) p = false := decide_eq_false (by rw [srt_len]; exact hask)
        have ev : byV (srt L) p = 0 := by unfold byV; rw [ea]; rfl
        rw [ea, ev]
        have P5 := Lib.hid P4.out.bel
        by_cases h1 : p < 1
        · have d1 : decide (p < 1) = true := decide_eq_true h1
          clear ea ev hask h1
          go_wp2
          go_ret
          exact ⟨by simp, P5.out⟩
        · have d1 : decide (p < 1) = false := decide_eq_false h1
          by_cases h2 : 100000000 < p
          · have d2 : decide (100000000 < p) = true := decide_eq_true h2
            clear ea ev hask h1 h2
            go_wp2
            go_ret
            exact ⟨by simp, P5.out⟩
          · have d2 : decide (100000000 < p) = false := decide_eq_false h2
            have hL : L = [] := List.eq_nil_of_length_eq_zero (by omega)
            clear ea ev hask h1 h2
            subst hL
            go_wp2
            go_ret
            exact ⟨by simp, P5.out⟩
end Go.Proofs.Ytfojfgnhblgckaa
