/-
  The law VerifyDown answers true.
-/
import Derived.Test.YtdgljnidkhfgpaaDoorVerDownPlain
namespace Go.Proofs.YtdgljnidkhfgpaaDoor
set_option linter.unusedVariables false
set_option linter.unusedSimpArgs false
open Go.RowKit Go.Proofs.YtdgljnidkhfgpaaDoor.XVer Go.Proofs.YtdgljnidkhfgpaaDoorW.PrintWords Go.Proofs.YtdgljnidkhfgpaaDoorW.PrintLast Go.Proofs.YtdgljnidkhfgpaaDoorW.PrintMore

theorem rd_H {Q : List Pl} {j : Nat} (hj : j < Q.length) : (Q.map (·.h)).getD j 0 = (Q.getD j Pl.z).h := by
  simp [List.getD_eq_getElem?_getD, List.getElem?_eq_getElem hj]
/-- A height's cell. -/
theorem h_cell {w : World} {ad : Addr} {Q : List Pl} (hC : Kd.C (Kd.int .i64) w (some ad) Q.length (Q.map (·.h))) {j : Nat} (hj : j < Q.length) : w.cell? (ad.add j) = some (.int .i64 (Q.getD j Pl.z).h) := by
  obtain ⟨ad', e, q⟩ := hC.2.2 (by omega)
  injection e with e
  subst e
  obtain ⟨cs, hl, hk, hc⟩ := q j (Q.getD j Pl.z).h (by simp [List.getD_eq_getElem?_getD, List.getElem?_eq_getElem hj])
  obtain rfl : cs = [.int .i64 (Q.getD j Pl.z).h] := hk
  have := hc 0 _ rfl
  rw [show j * (Kd.int .i64).sz + 0 = j by show j * 1 + 0 = j; omega] at this
  exact this
section
variable {w : World} {p : Pg} {d : Hd}
set_option maxHeartbeats 8000000 in
set_option maxRecDepth 100000 in
theorem down_calls (hp : PgIn w p d) (hF : FieldsAt w) (hT : TabAt w) (hA : ∀ x ∈ p.code, -9223372036854775808 ≤ x.f1 ∧ x.f1 ≤ 9223372036854775807) :
    Calls Tryd.prog 4 #[.agg #[.int .i64 p.m, .int .i64 p.r0, .int .i64 p.r1, .int .i64 p.r2, .int .i64 p.r3, .int .i64 p.r4, .slice d.a6 p.consts.length d.c6, .slice d.a7 p.wins.length d.c7, .slice d.a8 p.crons.length d.c8, .int .i64 p.locals, .int .i64 p.height, .slice d.a11 p.code.length d.c11]] w fun e w' => e = .returned (.bool true) ∧ Below w.heap.size w w' := by
  have HP := Lib.hid hp
  have HF := Lib.hid hF
  have HT := Lib.hid hT
  have HA := Lib.hid hA
  have HLT := Lib.hid (show 1 < w.heap.size from World.block_lt_of_cell? w _ (hF 0 (by decide)).1)
  clear hp hF hT hA
  obtain ⟨wb, hwb⟩ : ∃ wb, w.alloc (.cells #[.int .i64 p.m, .int .i64 p.r0, .int .i64 p.r1, .int .i64 p.r2, .int .i64 p.r3, .int .i64 p.r4, .slice d.a6 p.consts.length d.c6, .slice d.a7 p.wins.length d.c7, .slice d.a8 p.crons.length d.c8, .int .i64 p.locals, .int .i64 p.height, .slice d.a11 p.code.length d.c11] 38) = wb := ⟨_, rfl⟩
  have HBB := Lib.hid (show Below w.heap.size w wb by rw [← hwb]; exact below_alloc (Below.refl _ w) _)
  have KB := Lib.hid (show wb.heap[w.heap.size]? = some (.cells #[.int .i64 p.m, .int .i64 p.r0, .int .i64 p.r1, .int .i64 p.r2, .int .i64 p.r3, .int .i64 p.r4, .slice d.a6 p.consts.length d.c6, .slice d.a7 p.wins.length d.c7, .slice d.a8 p.crons.length d.c8, .int .i64 p.locals, .int .i64 p.height, .slice d.a11 p.code.length d.c11] 38 (0, 0)) by rw [← hwb]; exact blk_new _ _)
  have HWB := Lib.hid hwb
  clear hwb
  go_enter Tryd.func4, Tryd.ntmps4
  go_wp2_with fail
  rw [HWB.out]
  obtain ⟨g, hg⟩ : ∃ g, w.heap.size = g := ⟨_, rfl⟩
  have HG := Lib.hid hg
  have kg := KB.out
  rw [hg] at kg
  have KG := Lib.hid kg
  simp only [hg]
  clear KB hg kg
  refine (awake23 (HF.out.below HBB.out HLT.out) (HT.out.below HBB.out (by have := HLT.out; omega))).mono ?_
  rintro e w1 ⟨rfl, b1⟩
  have B1 := Lib.hid (HBB.out.trans (b1.mono HBB.out.size))
  have K1 := Lib.hid (blk_below KG.out b1)
  have q0 := (blk_cell K1.out 0).trans rfl
  have q1 := (blk_cell K1.out 1).trans rfl
  have q2 := (blk_cell K1.out 2).trans rfl
  have q3 := (blk_cell K1.out 3).trans rfl
  have q4 := (blk_cell K1.out 4).trans rfl
  have q5 := (blk_cell K1.out 5).trans rfl
  have q6 := (blk_cell K1.out 6).trans rfl
  have q7 := (blk_cell K1.out 7).trans rfl
  have q8 := (blk_cell K1.out 8).trans rfl
  have q9 := (blk_cell K1.out 9).trans rfl
  have q10 := (blk_cell K1.out 10).trans rfl
  have q11 := (blk_cell K1.out 11).trans rfl
  clear b1
  go_wp2_with fail
  refine (heights_calls (HP.out.below B1.out) (HF.out.below B1.out HLT.out) (HT.out.below B1.out (by have := HLT.out; omega)) HA.out).mono ?_
  rintro e w2 ⟨b2, ⟨i, hi, rfl⟩ | ⟨P, A, c, h1, h2, h3, rfl, h5, h6⟩⟩
  · have B2 := Lib.hid (B1.out.trans (b2.mono B1.out.size))
    have K2 := Lib.hid (blk_below K1.out b2)
    have HV := Lib.hid (show checkV p = ((i : Int), 41) by unfold checkV; rw [hi])
    clear b2 hi q0 q1 q2 q3 q4 q5 q6 q7 q8 q9 q10 q11
    have q0 := (blk_cell K2.out 0).trans rfl
    have q1 := (blk_cell K2.out 1).trans rfl
    have q2 := (blk_cell K2.out 2).trans rfl
    have q3 := (blk_cell K2.out 3).trans rfl
    have q4 := (blk_cell K2.out 4).trans rfl
    have q5 := (blk_cell K2.out 5).trans rfl
    have q6 := (blk_cell K2.out 6).trans rfl
    have q7 := (blk_cell K2.out 7).trans rfl
    have q8 := (blk_cell K2.out 8).trans rfl
    have q9 := (blk_cell K2.out 9).trans rfl
    have q10 := (blk_cell K2.out 10).trans rfl
    have q11 := (blk_cell K2.out 11).trans rfl
    go_wp2_with fail
    refine (verCheck_calls (HP.out.below B2.out) (HF.out.below B2.out HLT.out) (HT.out.below B2.out (by have := HLT.out; omega)) HA.out).mono ?_
    rintro e w3 ⟨rfl, b3⟩
    rw [HV.out]
    have B3 := Lib.hid (B2.out.trans (b3.mono B2.out.size))
    clear b3 q0 q1 q2 q3 q4 q5 q6 q7 q8 q9 q10 q11
    go_wp2
    go_ret
    exact ⟨by simp, by first | exact B3.out | exact pw_below_drewN B3.out _ | exact below_drew B3.out⟩
  · have B2 := Lib.hid (B1.out.trans (b2.mono B1.out.size))
    have K2 := Lib.hid (blk_below K1.out b2)
    obtain ⟨hb, hl, hz, hr, hD⟩ := down_law h1
    have HC := Lib.hid h5
    have HR := Lib.hid hr
    have HD := Lib.hid hD
    obtain ⟨n, hn⟩ : ∃ n, p.code.length = n := ⟨_, rfl⟩
    have HN := Lib.hid hn
    have HNB := Lib.hid (show 1 ≤ n ∧ n ≤ 16384 by unfold Bounds at hb; omega)
    have HM := Lib.hid (show 0 ≤ p.height ∧ p.height ≤ 4096 by unfold Bounds at hb; omega)
    have HLn := Lib.hid (show P.length = n from h3.trans hn)
    obtain ⟨ad, e, _⟩ := h5.2.2 (by have := HNB.out; have := HLn.out; omega)
    subst e
    have q11 := (blk_cell K2.out 11).trans rfl
    have q10 := (blk_cell K2.out 10).trans rfl
    have k0 : w2.cell? ad = some (.int .i64 0) := by
      have := h_cell HC.out (j := 0) (by have := HNB.out; have := HLn.out; omega)
      rw [hz] at this
      exact this
    rw [hn] at q11
    rw [HLn.out]
    have c1 : ¬ n = 0 := by have := HNB.out; omega
    have c2 : (0 : Int) < (n : Int) := by have := HNB.out; omega
    have c3 : decide (n = 0) = false := decide_eq_false c1
    have c4 : ((n : Int) == 0) = false := by simp; omega
    clear b2 q0 q1 q2 q3 q4 q5 q6 q7 q8 q9 hb hl hz hr hD h1 h2 h3 h5 h6 hn
    go_wp2
    have HG2 := Lib.hid (show g < w2.heap.size from blk_lt K2.out)
    go_loopg [8] n (fun kq v8 w' => ∃ i : Nat, v8 = .int .i64 i ∧ Aside0 (i + kq = n) ∧ Aside0 (Below w2.heap.size w2 w'))
    case atStart => exact ⟨0, rfl, ⟨by omega⟩, ⟨Below.refl _ _⟩⟩
    case round =>
      clear k0 c1 c2 c3 c4 q10 q11
      obtain ⟨i, rfl, hk, hb⟩ := hrel
      by_cases hi : i < n
      · have c0 : decide (i < n) = true := decide_eq_true hi
        have q11 := (hb.out.cell (p := ⟨g, 11, none⟩) HG2.out).trans ((blk_cell K2.out 11).trans rfl)
        rw [HN.out] at q11
        have q10 := (hb.out.cell (p := ⟨g, 10, none⟩) HG2.out).trans ((blk_cell K2.out 10).trans rfl)
        have kc' := h_cell HC.out (j := i) (by have := HLn.out; omega)
        have kc := (hb.out.cell (World.block_lt_of_cell? w2 _ kc')).trans kc'
        obtain ⟨ac, ha, r0', r1'⟩ := atInstrS (HP.out.below B2.out).r11 (i : Int) (by omega) (by have := HN.out; omega)
        rw [Int.toNat_natCast] at r0' r1'
        have r0 := (hb.out.cell (World.block_lt_of_cell? w2 _ r0')).trans r0'
        have r1 := (hb.out.cell (World.block_lt_of_cell? w2 _ r1')).trans r1'
        rw [ha] at q11
        obtain ⟨k, hk0, hk1, hk2, hk3, hk4⟩ := HD.out i (by have := HN.out; omega)
        have HH := Lib.hid (HR.out i)
        have HW := Lib.hid hk4
        have HK := Lib.hid (show 1 ≤ k ∧ k ≤ 33 from ⟨hk1, hk2⟩)
        have HNd := Lib.hid hk3
        rw [hk0] at r0
        obtain ⟨xk, hxk⟩ : ∃ x : Int, (k : Int) = x := ⟨_, rfl⟩
        have HXK := Lib.hid hxk
        rw [hxk] at r0
        obtain ⟨a, hha⟩ : ∃ a, (rdInstrS p.code i).f1 = a := ⟨_, rfl⟩
        rw [hha] at r1
        have HWa := HW.out
        rw [hha] at HWa
        obtain ⟨h, hh⟩ : ∃ h, (P.getD i Pl.z).h = h := ⟨_, rfl⟩
        have HHH := Lib.hid hh
        rw [hh] at kc HWa
        have HWW := Lib.hid HWa
        have Hi := Lib.hid hi
        have e1 := eq_true (show (0 : Int) ≤ (i : Int) by omega)
        have e2 : ((i : Int) < (n : Int)) = True := eq_true (by omega)
        have e3 := eq_true hi
        have d1 : decide (h < 0) = false := decide_eq_false (by have := HH.out; omega)
        have d2 : decide (p.height < h) = false := decide_eq_false (by have := HH.out; omega)
        have HHB := Lib.hid (show 0 ≤ h ∧ h ≤ p.height ∧ needT k ≤ h by have := HH.out; have := HNd.out; rw [← hh]; omega)
        clear kc' r0' r1' hk0 hk1 hk2 hk3 hk4 hha hh HWa hi ha
        go_wp2
        go_quiet (fail)
        go_wp2
        obtain ⟨w3, hw3⟩ : ∃ w3, wr.drewN nq = w3 := ⟨_, rfl⟩
        have b3 : Below wr.heap.size wr w3 := by rw [← hw3]; exact pw_below_drewN (Below.refl _ _) _
        simp only [hw3]
        have s0 := (b3.cell (World.block_lt_of_cell? wr _ q11)).trans q11
        have s1 := (b3.cell (World.block_lt_of_cell? wr _ r0)).trans r0
        have s2 := (b3.cell (World.block_lt_of_cell? wr _ r1)).trans r1
        have s3 := (b3.cell (World.block_lt_of_cell? wr _ kc)).trans kc
        have B3 := Lib.hid (hb.out.trans (b3.mono hb.out.size))
        obtain ⟨b, hwy, hlast⟩ := ways_plain (i := (i : Int)) (a := a) (h := h) (k := k) (by omega) (by have := HNB.out; have := Hi.out; omega) HK.out.1 HK.out.2 HHB.out.2.2 (by have := HHB.out; have := HM.out; omega)
        rw [hxk] at hwy hlast
        have HLast := Lib.hid hlast
        obtain ⟨L, hL⟩ : ∃ L, waysL i xk a h = L := ⟨_, rfl⟩
        rw [hL] at hwy
        have HL := Lib.hid hL
        have HWY := Lib.hid hwy
        have HALL := Lib.hid (show ∀ w' : World, Below w3.heap.size w3 w' → w'.cell? ⟨g, 11, none⟩ = some (.slice (some ac) n d.c11) ∧ w'.cell? (ac.add (i * 2)) = some (.int .i64 xk) ∧ w'.cell? ⟨(ac.add (i * 2)).block, (ac.add (i * 2)).off + 1, none⟩ = some (.int .i64 a) ∧ w'.cell? (ad.add i) = some (.int .i64 h) from
          fun w' hb' => ⟨(hb'.cell (World.block_lt_of_cell? w3 _ s0)).trans s0, (hb'.cell (World.block_lt_of_cell? w3 _ s1)).trans s1, (hb'.cell (World.block_lt_of_cell? w3 _ s2)).trans s2, (hb'.cell (World.block_lt_of_cell? w3 _ s3)).trans s3⟩)
        clear hw3 b3 q11 r0 r1 kc q10 hlast hL hwy hb hxk
        go_region_held3 (fun w' => w'.cell? ⟨g, 11, none⟩ = some (.slice (some ac) n d.c11) ∧ w'.cell? (ac.add (i * 2)) = some (.int .i64 xk) ∧ w'.cell? ⟨(ac.add (i * 2)).block, (ac.add (i * 2)).off + 1, none⟩ = some (.int .i64 a) ∧ w'.cell? (ad.add i) = some (.int .i64 h)) (first | exact kk1 | (simp [go_sem, s0, s1, s2, s3]; done))
          (first
            | (go_at_call 11; refine (capstanref23_Ways.calls 5 _ _ _ _ _ L b _ HWY.out).mono ?_; rintro e w4 ⟨v1, rfl, rr, bb⟩; obtain ⟨A1, d1, rfl⟩ := Kd.R_slice rr; have kk1 := HALL.out _ (Below.trans (by first | exact Below.refl _ _ | exact below_drew (Below.refl _ _) | exact pw_below_drewN (Below.refl _ _) _) bb); have HCL := Lib.hid (Kd.R_reads' rr); have B4 := Lib.hid (B3.out.trans ((Below.trans (show Below w3.heap.size w3 _ by first | exact Below.refl _ _ | exact below_drew (Below.refl _ _) | exact pw_below_drewN (Below.refl _ _) _) bb).mono B3.out.size))))
        obtain ⟨m0, m1, m2, m3⟩ := kk1
        clear s0 s1 s2 s3 bb rr
        have hxk := HXK.out
        have hwr : wrap64 ((i : Int) + 1) = ((i + 1 : Nat) : Int) := by have := Hi.out; have := HNB.out; unfold wrap64; omega
        by_cases hla : xk = 29 ∨ xk = 30 ∨ xk = 31
        · have hL0 : L = [] := by
            rw [← HL.out]
            unfold waysL
            rcases hla with rfl | rfl | rfl <;> rfl
          subst hL0
          clear hxk
          rcases hla with rfl | rfl | rfl
          all_goals go_wp2
          all_goals
            go_loopg [12] 0 (fun kq v12 w' => v12 = .int .i64 0 ∧ Aside0 (Below w2.heap.size w2 w'))
            case atStart => exact ⟨rfl, ⟨B4.out⟩⟩
            case round =>
              obtain ⟨rfl, hbb⟩ := hrel
              go_wp2
              go_roundg (n - (i + 1))
              case measure => have := hk.out; have := Hi.out; omega
              case rel => exact ⟨i + 1, by first | rfl | simp [hwr], ⟨by have := hk.out; have := Hi.out; omega⟩, ⟨hbb.out⟩⟩
        · have f29 : ¬ xk = 29 := fun h => hla (.inl h)
          have f30 : ¬ xk = 30 := fun h => hla (.inr (.inl h))
          have f31 : ¬ xk = 31 := fun h => hla (.inr (.inr h))
          obtain ⟨hb1, hne⟩ := HLast.out (by unfold lastB; exact decide_eq_false hla)
          subst hb1
          rw [HL.out] at hne
          obtain ⟨m, hm⟩ : ∃ m, L.length = m := ⟨_, rfl⟩
          have g0 : ¬ m = 0 := by
            intro h0
            rw [h0] at hm
            exact hne (List.eq_nil_of_length_eq_zero hm)
          have g1 : decide (xk = 29) = false := decide_eq_false f29
          have g2 : decide (xk = 30) = false := decide_eq_false f30
          have g3 : decide (xk = 31) = false := decide_eq_false f31
          have g4 : decide (m = 0) = false := decide_eq_false g0
          have g5 : (xk == 29) = false := by simp [f29]
          have g6 : (xk == 30) = false := by simp [f30]
          have g7 : (xk == 31) = false := by simp [f31]
          have g8 : (m == 0) = false := by simp [g0]
          have HM2 := Lib.hid hm
          rw [hm]
          clear hne hla hxk hm
          go_wp2
          clear f29 f30 f31 g0 g1 g2 g3 g4 g5 g6 g7 g8 m0 m1 m2 m3
          go_loopg [12] m (fun kq v12 w' => ∃ j : Nat, v12 = .int .i64 j ∧ Aside0 (j + kq = m) ∧ Aside0 (Below w4.heap.size w4 w'))
          case atStart => exact ⟨0, rfl, ⟨by omega⟩, ⟨Below.refl _ _⟩⟩
          case round =>
            obtain ⟨j, rfl, hkj, hbb⟩ := hrel
            by_cases hj : j < m
            · have c5 : decide (j < m) = true := decide_eq_true hj
              obtain ⟨aw, hA1, t0', t1', _⟩ := at_T54 HCL.out.2.2 (j : Int) (by omega) (by have := HM2.out; omega)
              subst hA1
              rw [Int.toNat_natCast] at t0' t1'
              have hmem : rd_T54 L (j : Int) ∈ waysL i (k : Int) a h := by
                rw [HXK.out, HL.out]
                unfold rd_T54
                have hl : j < L.length := by rw [HM2.out]; exact hj
                rw [Int.toNat_natCast, List.getD_eq_getElem?_getD, List.getElem?_eq_getElem hl]
                exact List.getElem_mem hl
              obtain ⟨y1, y2, y3, y4, y5⟩ := HWW.out _ hmem
              obtain ⟨tg, htg⟩ := Int.eq_ofNat_of_zero_le y3
              obtain ⟨v, hv⟩ : ∃ v, (rd_T54 L (j : Int)).f1 = v := ⟨_, rfl⟩
              rw [htg] at y1 y2 y5 t0'
              rw [hv] at y5 t1'
              rw [Int.toNat_natCast] at y5
              rw [HLn.out] at y2
              have t0 := (hbb.out.cell (World.block_lt_of_cell? w4 _ t0')).trans t0'
              have t1 := (hbb.out.cell (World.block_lt_of_cell? w4 _ t1')).trans t1'
              have u0' := h_cell HC.out (j := tg) (by have := HLn.out; omega)
              rw [y5] at u0'
              have u0 := (hbb.out.cell (Nat.lt_of_lt_of_le (World.block_lt_of_cell? w2 _ u0') B4.out.size)).trans ((B4.out.cell (World.block_lt_of_cell? w2 _ u0')).trans u0')
              have e4 := eq_true (show (0 : Int) ≤ (j : Int) by omega)
              have e5 : ((j : Int) < (m : Int)) = True := eq_true (by omega)
              have e6 := eq_true hj
              have e7 := eq_true (show (0 : Int) ≤ (tg : Int) by omega)
              have e8 : ((tg : Int) < (n : Int)) = True := eq_true y2
              have e9 := eq_true (show tg < n by omega)
              have d3 : decide (tg ≤ i) = false := decide_eq_false (by omega)
              have d4 : decide (n ≤ tg) = false := decide_eq_false (by omega)
              have hwj : wrap64 ((j : Int) + 1) = ((j + 1 : Nat) : Int) := by
                have : m ≤ 9223372036854775806 := by
                  rw [← HM2.out, ← HL.out]
                  unfold waysL
                  repeat' split
                  all_goals simp
                unfold wrap64; omega
              have Hj := Lib.hid hj
              clear t0' t1' u0' y1 y2 y3 y4 y5 hj hmem htg hv
              go_wp2
              go_quiet (fail)
              go_wp2
              go_roundg (gk - 1)
              case measure => have := hkj.out; have := Hj.out; omega
              case rel => exact ⟨j + 1, by first | rfl | simp [hwj], ⟨by have := hkj.out; have := Hj.out; omega⟩, ⟨pw_below_drewN hbb.out _⟩⟩
            · have c5 : decide (j < m) = false := decide_eq_false hj
              clear hj
              go_wp2
              go_roundg (n - (i + 1))
              case measure => have := hk.out; have := Hi.out; omega
              case rel => exact ⟨i + 1, by first | rfl | simp [hwr], ⟨by have := hk.out; have := Hi.out; omega⟩, ⟨B4.out.trans (hbb.out.mono B4.out.size)⟩⟩
      · have c0 : decide (i < n) = false := decide_eq_false hi
        have B5 := Lib.hid (B2.out.trans (hb.out.mono B2.out.size))
        clear hi
        go_wp2
        go_ret
        exact ⟨by simp, by first | exact B5.out | exact pw_below_drewN B5.out _ | exact below_drew B5.out⟩
end
end Go.Proofs.YtdgljnidkhfgpaaDoor
