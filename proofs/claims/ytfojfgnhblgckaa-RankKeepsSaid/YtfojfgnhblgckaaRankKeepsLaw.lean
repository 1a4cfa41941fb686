/-
  RankKeeps: the law's call answers true, for every list of numbers and every number; nothing that was there is changed.
-/
import Derived.Test.YtfojfgnhblgckaaRankRefList
import Derived.Test.YtfojfgnhblgckaaRankNilLaw
namespace Go.Proofs.Ytfojfgnhblgckaa
open Go.RowKit Go.Proofs.Ytfojfgnhblgckaa.XRefs Go.Proofs.YtfojfgnhblgckaaW.PrintWords Go.Proofs.YtfojfgnhblgckaaW.PrintLast Go.Proofs.YtfojfgnhblgckaaW.PrintMore

theorem has_put {v : Int} {L : List Int} (h : Rising L) : hasL v (putL v L) = true := (has_iff (put_rising v L h)).2 (mem_put.2 (.inl rfl))
theorem take_put {v : Int} {L : List Int} (h : Rising L) : takeL v (putL v L) = L :=
  rising_eq (take_rising (put_rising v L h)) h (List.Perm.cons_inv ((take_perm (has_put h)).symm.trans (put_perm v L)))
set_option maxHeartbeats 8000000 in
set_option maxRecDepth 100000 in
theorem RankKeeps_c (A : Option Addr) (c : Nat) (L : List Int) (v : Int) (W : World) (hc : Kd.C (Kd.int .i64) W A L.length L) (hlc : L.length ≤ c) :
    Calls Try.prog 5 #[.slice A L.length c, .int .i64 v] W fun e w' => e = .returned (.bool true) ∧ Below W.heap.size W w' := by
  have HC := Lib.hid hc
  have HLC := Lib.hid hlc
  clear hc hlc
  go_enter Try.func5, Try.ntmps5
  go_wp2_with fail
  refine (awake07 _).mono ?_
  rintro e w1 ⟨rfl, b1⟩
  go_wp2_with fail
  refine (rinv_new W _ b1).mono ?_
  rintro e w2 ⟨g, rfl, h2⟩
  have HI := Lib.hid h2
  clear h2 b1
  by_cases hbig : 300 < L.length
  · have d1 : decide (300 < L.length) = true := decide_eq_true hbig
    have d2 : decide ((300 : Int) < (L.length : Int)) = true := decide_eq_true (by omega)
    clear hbig
    go_wp2
    go_ret
    exact ⟨by simp, HI.out.bel⟩
  have d1 : decide (300 < L.length) = false := decide_eq_false hbig
  have d2 : decide ((300 : Int) < (L.length : Int)) = false := decide_eq_false (by omega)
  have HF := Lib.hid (show L.length ≤ 300 by omega)
  clear hbig
  go_wp2
  clear d1 d2
  go_loopg [6] L.length (fun kq v6 w' => ∃ i : Nat, v6 = .int .i64 i ∧ Aside0 (i + kq = L.length) ∧ Aside0 (RInv W g (srt (L.take i)) w'))
  case atStart => exact ⟨0, rfl, ⟨by omega⟩, ⟨HI.out⟩⟩
  case round =>
    clear HI
    obtain ⟨i, rfl, hk, hI⟩ := hrel
    by_cases hi : i < L.length
    · have c0 : decide (i < L.length) = true := decide_eq_true hi
      obtain ⟨ad, rfl, q0⟩ := Kd.at_int HC.out (i : Int) (by omega) (by omega)
      rw [Int.toNat_natCast] at q0
      have r0 := (hI.out.bel.cell (World.block_lt_of_cell? W _ q0)).trans q0
      have f1 := eq_true (show (0 : Int) ≤ (i : Int) by omega)
      have f2 : ((i : Int) < (L.length : Int)) = True := eq_true (by omega)
      have f3 := eq_true hi
      obtain ⟨x, hx⟩ : ∃ x, rd L (i : Int) = x := ⟨_, rfl⟩
      rw [hx] at r0
      have HS := Lib.hid (show srt (L.take (i + 1)) = putL x (srt (L.take i)) by rw [srt_take hi, ← hx]; unfold rd; rw [Int.toNat_natCast])
      have Hi := Lib.hid hi
      have HW := Lib.hid (show wrap64 ((i : Int) + 1) = ((i + 1 : Nat) : Int) by have := HF.out; unfold wrap64; omega)
      clear q0 hx hi
      go_wp2_with fail
      refine (rinv_put x hI.out (by rw [srt_len, List.length_take]; have := HF.out; have := Hi.out; omega)).mono ?_
      rintro e w3 ⟨rfl, h3⟩
      have P3 := Lib.hid h3
      clear h3 r0
      go_wp2
      go_roundg (gk - 1)
      case measure => have := hk.out; have := Hi.out; omega
      case rel => exact ⟨i + 1, by first | rfl | rw [HW.out], ⟨by have := hk.out; have := Hi.out; omega⟩, ⟨by rw [HS.out]; exact P3.out⟩⟩
    · have c0 : decide (i < L.length) = false := decide_eq_false hi
      have hil : i = L.length := by have := hk.out; omega
      have PE := Lib.hid (show RInv W g (srt L) wr by have h := hI.out; rw [hil, List.take_length] at h; exact h)
      obtain ⟨S, hS⟩ : ∃ S, srt L = S := ⟨_, rfl⟩
      have HSL := Lib.hid (show S.length = L.length by rw [← hS]; exact srt_len L)
      rw [hS] at PE
      have HSS := Lib.hid hS
      clear hi hil hI hk hS
      obtain ⟨w3, rfl⟩ : ∃ w3, w3 = wr := ⟨_, rfl⟩
      obtain ⟨ok0, m0, m0'⟩ := PE.out.ex
      have M3 := Lib.hid m0.tight
      have M3' := Lib.hid (show ∀ k, ok0 k ∧ k < w3.heap.size → W.heap.size ≤ k from fun k hk => m0' k hk.1)
      obtain ⟨ok, hok⟩ : ∃ ok : Nat → Prop, (fun k => ok0 k ∧ k < w3.heap.size) = ok := ⟨_, rfl⟩
      have OK := Lib.hid (show ∀ k, ok k → W.heap.size ≤ k ∧ k < w3.heap.size by rw [← hok]; exact fun k hk => ⟨m0' k hk.1, hk.2⟩)
      rw [hok] at M3
      have HRS := Lib.hid PE.out.rise
      have HG := Lib.hid (show W.heap.size ≤ g ∧ g < w3.heap.size from ⟨PE.out.big, m0.lt⟩)
      have BE3 := Lib.hid PE.out.bel
      clear m0 m0' hok M3' PE
      go_wp2_with fail
      refine (rank_list M3.out).mono ?_
      rintro e w4 ⟨va, rfl, r4, b4⟩
      have R4 := Lib.hid r4
      have B4 := Lib.hid b4
      clear r4 b4
      go_wp2_with fail
      refine (rank_list (M3.out.below B4.out)).mono ?_
      rintro e w5 ⟨vb, rfl, r5, b5⟩
      have B5 := Lib.hid b5
      have RA := Lib.hid (Kd.R_mono (ok' := fun k => w3.heap.size ≤ k ∧ k < w4.heap.size) (Kd.R_below (Kd.R_bound R4.out) b5) (fun k hk => ⟨hk.2.1, hk.2.2.1⟩))
      obtain ⟨Aa, ca, rfl⟩ := Kd.R_slice RA.out
      obtain ⟨Ab, cb, rfl⟩ := Kd.R_slice r5
      have RB := Lib.hid (Kd.R_mono (ok' := fun k => w4.heap.size ≤ k ∧ k < w5.heap.size) (Kd.R_bound r5) (fun k hk => ⟨hk.2.1, hk.2.2.1⟩))
      clear r5 b5 R4
      go_wp2
      go_loopg [9] S.length (fun kq v9 w' => ∃ (j : Nat) (xs : List Int), v9 = .int .i64 j ∧ Aside0 (j + kq = S.length) ∧ Aside0 (xs.length = S.length) ∧ Aside0 (Kd.R (Kd.int .i64) 2 w' w3.heap.size (fun k => w3.heap.size ≤ k ∧ k < w4.heap.size) (.slice Aa S.length ca) xs) ∧ Aside0 (Below w3.heap.size w5 w') ∧ Aside0 (Kept w5 w' (fun k => w3.heap.size ≤ k ∧ k < w4.heap.size)))
      case atStart => exact ⟨0, S, rfl, ⟨by omega⟩, ⟨rfl⟩, ⟨RA.out⟩, ⟨Below.refl _ _⟩, ⟨Kept.refl _ _⟩⟩
      case round =>
        clear RA
        obtain ⟨j, xs, rfl, hj, hxl, hr, hb, hkp⟩ := hrel
        by_cases hjn : j < S.length
        · have d0 : decide (j < S.length) = true := decide_eq_true hjn
          obtain ⟨inner, ho⟩ := Kd.R_own hr.out
          rcases ho.2 with ⟨he, h0⟩ | ⟨ga, cap, cur, he, hbg, hh, hnc, hcm, hcs, ht⟩
          · exact absurd h0 (by have := hxl.out; omega)
          injection he with he1 he2 he3
          subst he1
          clear he2 he3
          obtain ⟨ad2, hA2, q2⟩ := Kd.at_int (Kd.R_reads' hr.out).2.2 (j : Int) (by omega) (by have := hxl.out; omega)
          cases hA2
          rw [Int.toNat_natCast, add_plain] at q2
          have qf := blk_frozen hh j
          have Hj := Lib.hid hjn
          have HGA := Lib.hid (show w3.heap.size ≤ ga ∧ ga < w4.heap.size from hr.out.1 ga rfl)
          have f1 := eq_true (show (0 : Int) ≤ (j : Int) by omega)
          have f2 : ((j : Int) < (S.length : Int)) = True := eq_true (by omega)
          have f3 := eq_true hjn
          have hwj : wrap64 ((j : Int) + 1) = ((j + 1 : Nat) : Int) := by have := hjn; have := HSL.out; have := HF.out; unfold wrap64; omega
          clear ho hh hnc hcm hcs ht hbg hjn
          go_wp2
          go_roundg (gk - 1)
          case measure => have := hj.out; have := Hj.out; omega
          case rel => exact ⟨j + 1, xs.set (j : Int).toNat 77, by first | rfl | simp [hwj], ⟨by have := hj.out; have := Hj.out; omega⟩, ⟨by rw [List.length_set]; exact hxl.out⟩, ⟨Kd.R_putn hr.out (j : Int) 77⟩, ⟨hb.out.setCell (p := ⟨ga, (j : Int).toNat, none⟩) HGA.out.1 _⟩, ⟨Kept.setCell (S := fun k => w3.heap.size ≤ k ∧ k < w4.heap.size) (p := ⟨ga, (j : Int).toNat, none⟩) hkp.out (.inl HGA.out) _⟩⟩
        · have d0 : decide (j < S.length) = false := decide_eq_false hjn
          clear hjn
          go_wp2
          clear d0
          go_loopg [7, 10] 9 (fun kq v7 v10 w' => ∃ (j : Nat) (ys : List Int), v10 = .int .i64 j ∧ Aside0 (j + kq = 9) ∧ Aside0 (ys.length ≤ 1048576 + j) ∧ Aside0 (Kd.R (Kd.int .i64) 2 w' w3.heap.size (fun k => (w3.heap.size ≤ k ∧ k < w4.heap.size) ∨ w5.heap.size ≤ k) v7 ys) ∧ Aside0 (Below w3.heap.size w5 w') ∧ Aside0 (Kept w5 w' (fun k => w3.heap.size ≤ k ∧ k < w4.heap.size)))
          case atStart => exact ⟨0, xs, rfl, ⟨rfl⟩, ⟨by have := hxl.out; have := HSL.out; have := HF.out; omega⟩, ⟨Kd.R_mono hr.out (fun k hk => .inl hk)⟩, hb, hkp⟩
          case round =>
            clear hr hb hkp hj hxl
            obtain ⟨j2, ys, rfl, hj2, hyl, hr2, hb2, hkp2⟩ := hrel
            obtain ⟨A7, c7, rfl⟩ := Kd.R_slice hr2.out
            by_cases hjn : j2 < 9
            · have d0 : decide (j2 < 9) = true := decide_eq_true hjn
              have d1 : decide ((j2 : Int) < 9) = true := decide_eq_true (by omega)
              have Hj := Lib.hid hjn
              have hwj : wrap64 ((j2 : Int) + 1) = ((j2 + 1 : Nat) : Int) := by unfold wrap64; omega
              have Hz := Lib.hid (show w3.heap.size ≤ wr.heap.size ∧ w5.heap.size ≤ wr.heap.size by have := B4.out.size; have := B5.out.size; have := hb2.out.size; omega)
              clear hjn
              go_wp2_with (first | ((with_reducible refine gate_builtin (b := .append) (xs := #[.tmp 54, .tmp 55]) rfl ?_); at_builtin; refine Kd.R_append (Kd.int .i64) (w0 := w5) w3.heap.size rfl (.tmp 54) (.tmp 55) 22 2 (.int .i64 0) 8 rfl Try.underlying22 info64 rfl (by decide) (by decide) (.slice A7 ys.length c7) ys 78 [.int .i64 78] (fun k => (w3.heap.size ≤ k ∧ k < w4.heap.size) ∨ w5.heap.size ≤ k) (fun _ => False) (by rfl) (by rfl) ?aP (fun _ hk => hk.elim) (fun k hk => .inr (Nat.le_trans Hz.out.2 hk)) hr2.out hb2.out Hz.out.1 ?aL ?_; (case aP => exact rfl); (case aL => have := hyl.out; have := Hj.out; omega); intro v108 w9 ho hb9 hg9 hat; have HO := Lib.hid ho; have HB9 := Lib.hid hb9; have HG9 := Lib.hid (Kept.of_grown hg9 hkp2.out (fun k hk => hr2.out.1 k hk)); clear ho hb9 hg9 hat))
              go_roundg (gk - 1)
              case measure => have := hj2.out; have := Hj.out; omega
              case rel => exact ⟨j2 + 1, ys ++ [78], by first | rfl | simp [hwj], ⟨by have := hj2.out; have := Hj.out; omega⟩, ⟨by have := hyl.out; simp; omega⟩, ⟨HO.out⟩, ⟨HB9.out⟩, ⟨HG9.out⟩⟩
            · have d0 : decide (j2 < 9) = false := decide_eq_false hjn
              have d1 : decide ((j2 : Int) < 9) = false := decide_eq_false (by omega)
              clear hjn hj2 hyl hr2
              obtain ⟨w9, rfl⟩ : ∃ w9, w9 = wr := ⟨_, rfl⟩
              have B9 := Lib.hid (show Below w3.heap.size w3 w9 from (B4.out.trans (B5.out.mono B4.out.size)).trans hb2.out)
              have Z9 := Lib.hid (show w3.heap.size ≤ w4.heap.size ∧ w5.heap.size ≤ w9.heap.size from ⟨B4.out.size, hb2.out.size⟩)
              have RB9 := Lib.hid (Kd.R_kept RB.out hkp2.out (fun k hk h => by have := h.2; omega))
              have M9 := Lib.hid (M3.out.below B9.out)
              have BE9 := Lib.hid (BE3.out.trans (B9.out.mono BE3.out.size))
              clear hb2 hkp2 RB M3 B4 B5
              go_wp2_with fail
              refine (rank_put v M9.out (by have := HSL.out; have := HF.out; omega)).mono ?_
              rintro e w10 ⟨rfl, b10, k10, m10⟩
              have RB10 := Lib.hid (Kd.R_kept RB9.out k10 (fun k hk h => by
                have := Z9.out; have := HG.out
                rcases h with h | h
                · omega
                · have := OK.out k h; omega))
              have BE10 := Lib.hid (below_kept BE9.out b10 k10 (fun k hk h => by
                rcases h with h | h
                · have := HG.out; omega
                · have := OK.out k h; omega))
              have M10 := Lib.hid m10
              clear b10 k10 m10
              go_wp2_with fail
              refine (rank_list M10.out).mono ?_
              rintro e w11 ⟨vc, rfl, r11, b11⟩
              obtain ⟨Ac, cc, rfl⟩ := Kd.R_slice r11
              have RB11 := Lib.hid (Kd.R_below RB10.out b11)
              have BE11 := Lib.hid (BE10.out.trans (b11.mono BE10.out.size))
              have M11 := Lib.hid (M10.out.below b11)
              clear r11 b11
              have HPL := Lib.hid (show ((putL v S).length : Int) = (L.length : Int) + 1 by rw [put_len, HSL.out]; omega)
              go_wp2_with fail
              refine (rank_take v M11.out (has_put HRS.out)).mono ?_
              rintro e w12 ⟨rfl, b12, k12, m12⟩
              rw [take_put HRS.out] at m12
              have RB12 := Lib.hid (Kd.R_kept RB11.out k12 (fun k hk h => by
                have := Z9.out; have := HG.out
                rcases h with h | h | h
                · omega
                · have := OK.out k h; omega
                · omega))
              have BE12 := Lib.hid (below_kept BE11.out b12 k12 (fun k hk h => by
                have := BE9.out.size
                rcases h with h | h | h
                · have := HG.out; omega
                · have := OK.out k h; omega
                · omega))
              have M12 := Lib.hid m12
              clear b12 k12 m12 RB11 RB10 RB9
              have e1 : ((putL v S).length : Int) = (L.length : Int) + 1 := HPL.out
              have e2 : (putL v S).length = L.length + 1 := by omega
              have HE2 := Lib.hid e2
              have hw : wrap64 ((L.length : Int) + 1) = (L.length : Int) + 1 := by have := HF.out; unfold wrap64; omega
              clear e2
              go_wp2_with fail
              refine (ref_list rfl (by have := HF.out; omega) (Kd.C_below HC.out BE12.out) HLC.out).mono ?_
              rintro e w13 ⟨vr, rfl, r13, b13⟩
              rw [HSS.out] at r13
              obtain ⟨Ar, cr, rfl⟩ := Kd.R_slice r13
              have C13 := Lib.hid (Kd.R_reads' r13)
              have CB13 := Lib.hid (Kd.R_reads' (Kd.R_below RB12.out b13))
              have M13 := Lib.hid (M12.out.below b13)
              have BE13 := Lib.hid (BE12.out.trans (b13.mono BE12.out.size))
              clear r13 b13 e1 hw
              go_wp2_with fail
              refine (ref_same (L := S) rfl rfl rfl (by have := HSL.out; have := HF.out; omega) CB13.out.2.2 CB13.out.2.1 C13.out.2.2 C13.out.2.1).mono ?_
              rintro e w14 ⟨rfl, b14⟩
              have C14 := Lib.hid (Kd.C_below C13.out.2.2 b14)
              have M14 := Lib.hid (M13.out.below b14)
              have BE14 := Lib.hid (BE13.out.trans (b14.mono BE13.out.size))
              clear b14
              go_wp2_with fail
              refine (rank_list M14.out).mono ?_
              rintro e w15 ⟨vd, rfl, r15, b15⟩
              obtain ⟨Ad, cd, rfl⟩ := Kd.R_slice r15
              have C15 := Lib.hid (Kd.C_below C14.out b15)
              have D15 := Lib.hid (Kd.R_reads' r15)
              have BE15 := Lib.hid (BE14.out.trans (b15.mono BE14.out.size))
              clear r15 b15
              go_wp2_with fail
              refine (ref_same (L := S) rfl rfl rfl (by have := HSL.out; have := HF.out; omega) D15.out.2.2 D15.out.2.1 C15.out C13.out.2.1).mono ?_
              rintro e w16 ⟨rfl, b16⟩
              have BE16 := Lib.hid (BE15.out.trans (b16.mono BE15.out.size))
              clear b16
              go_wp2
              go_ret
              exact ⟨by simp, BE16.out⟩
end Go.Proofs.Ytfojfgnhblgckaa
