/-
  The verifier's step, walked: what a local holds already.
-/
import Derived.Test.YtdgljnidkhfgpaaDoorVerStep0
namespace Go.Proofs.YtdgljnidkhfgpaaDoor
set_option linter.unusedVariables false
set_option linter.unusedSimpArgs false
open Go.RowKit Go.Proofs.YtdgljnidkhfgpaaDoorW.PrintWords Go.Proofs.YtdgljnidkhfgpaaDoorW.PrintLast Go.Proofs.YtdgljnidkhfgpaaDoorW.PrintMore
theorem div_small {xa : Int} (hx : -9223372036854775808 ≤ xa ∧ xa ≤ 9223372036854775807) : -9223372036854775808 ≤ xa.tdiv 16384 ∧ xa.tdiv 16384 ≤ 9223372036854775807 ∧ -16384 < xa.tmod 16384 ∧ xa.tmod 16384 < 16384 := by
  rcases Int.le_total 0 xa with h | h
  · rw [Int.tdiv_eq_ediv_of_nonneg h, Int.tmod_eq_emod_of_nonneg h]; omega
  · obtain ⟨y, rfl⟩ : ∃ y, xa = -y := ⟨-xa, by omega⟩
    rw [Int.neg_tdiv, Int.neg_tmod, Int.tdiv_eq_ediv_of_nonneg (by omega), Int.tmod_eq_emod_of_nonneg (by omega)]; omega
section
variable {w0 w : World} {g ga : Nat} {p : Pg} {d : Hd} {P : List Pl}
set_option maxHeartbeats 16000000 in
set_option maxRecDepth 100000 in
theorem step_k10a {n k : Nat} {xa sh st nd gr hg n1 q r sh1 : Int} {Q R : List Pl} {lb : Bool} (i : ChkAt w0 w g ga p d P) (hn : n < P.length) (hnp : P.length = p.code.length) (hl : P.length ≤ 16384) (hxo : (rdInstrS p.code (n : Int)).f0 = (k : Int)) (hxa : (rdInstrS p.code (n : Int)).f1 = xa) (hs : P.getD n Pl.z = ⟨sh, st, true⟩) (hk1 : 1 ≤ k) (hk2 : k ≤ 33) (ht : TabAt w) (hlow : ¬ sh < nd) (hcl : p.consts.length ≤ 16384) (harg : argP p 10 xa = true) (hf : 0 ≤ sh ∧ sh ≤ 4096 ∧ 0 ≤ st ∧ st ≤ 4096)
    (hnd : needT k = nd) (hgr : growT k = gr) (hkd : argT k = 10) (hhg : sh + gr = hg) (hn1 : (n : Int) + 1 = n1) (hq : xa.tdiv 16384 = q) (hr : xa.tmod 16384 = r) (hsh1 : sh + 1 = sh1) (hx : -9223372036854775808 ≤ xa ∧ xa ≤ 9223372036854775807) (hst : ¬ 0 ≤ xa) :
    Calls Tryd.prog 31 #[.pointer (some ⟨g, 0, none⟩), .int .i64 (n : Int)] w fun e w' => e = .returned (.bool false) ∧ ChkAt w0 w' g ga p d P := by
  have HTA := Lib.hid (tab_all k (by omega))
  rw [hnd, hgr] at HTA
  have HW1 := Lib.hid (show wrap64 (sh + gr) = hg by rw [hhg]; have := HTA.out; exact wrap_small (by omega) (by omega))
  have HW2 := Lib.hid (show wrap64 ((n : Int) + 1) = n1 by rw [hn1]; exact wrap_small (by omega) (by omega))
  obtain ⟨-, c12⟩ := i.cells
  obtain ⟨-, -, -, -, -, -, -, -, -, -, -, c11⟩ := i.prog
  obtain ⟨q0, q1, q2⟩ := i.cell hn
  obtain ⟨ad, hA, r0, r1⟩ := atInstrS i.now.r11 (n : Int) (by omega) (by omega)
  rw [Int.toNat_natCast] at r0 r1
  rw [hA] at c11
  have lt1 := blk_lt i.hb
  have lt2 := blk_lt i.ha
  have bl := World.block_lt_of_cell? w _ r0
  rw [add_block] at bl
  have e1 := eq_true (show (0 : Int) ≤ (n : Int) by omega)
  have e2 : ((n : Int) < (P.length : Int)) = True := eq_true (by omega)
  have e3 := eq_true hn
  have e4 : ((n : Int) < (p.code.length : Int)) = True := eq_true (by omega)
  have e5 : (n < p.code.length) = True := eq_true (by omega)
  rw [hxo] at r0
  rw [hxa] at r1
  rw [hs] at q0 q1 q2
  simp only at q0 q1 q2
  have z1 := World.new_ne w _ c11
  have z2 := World.new_ne w _ c12
  have z3 := World.new_ne w _ q0
  have z4 := World.new_ne w _ q1
  have z5 := World.new_ne w _ q2
  have z6 := World.new_ne w _ r0
  have z7 := World.new_ne w _ r1
  have HT := Lib.hid ht
  have HI := Lib.hid i
  have HCL := Lib.hid hcl
  have HND := Lib.hid hnd
  have HGR := Lib.hid hgr
  have HKD := Lib.hid hkd
  have HARG := Lib.hid harg
  have g0 : decide (0 ≤ xa) = false := decide_eq_false hst
  clear hst
  have hqr := div_small hx
  rw [hq, hr] at hqr
  have HQW := Lib.hid (show IntKind.i64.wrap q = q by rw [i64_w]; unfold wrap64; omega)
  have HRW := Lib.hid (show IntKind.i64.wrap r = r by rw [i64_w]; unfold wrap64; omega)
  have HSW1 := Lib.hid (show IntKind.i64.wrap (sh + 1) = sh1 by rw [i64_w, hsh1]; exact wrap_small (by omega) (by omega))
  have HC9 := Lib.hid i.prog.2.2.2.2.2.2.2.2.2.1
  have HLT := Lib.hid (blk_lt i.hb)
  have HQ := Lib.hid hq
  have HR := Lib.hid hr
  clear hqr hq hr hsh1 hx
  clear hxo hxa hs hn hnp hl i ht hf hcl hnd hgr hkd hhg hn1 harg
  go_enter Tryd.func31, Tryd.ntmps31
  go_upto_region 1 with fail
  go_cut [5, 6] (fun v5 v6 wx => ∃ b5 b6 : Nat, v5 = .pointer (some ⟨b5, 0, none⟩) ∧ v6 = .pointer (some ⟨b6, 0, none⟩) ∧ Aside0 (b5 ≠ b6 ∧ w.heap.size ≤ b5 ∧ w.heap.size ≤ b6) ∧ Aside0 (wx.heap[b5]? = some (.cells #[.int .i64 (k : Int), .int .i64 xa] 52 (0, 0))) ∧ Aside0 (wx.heap[b6]? = some (.cells #[.int .i64 sh, .int .i64 st] 71 (0, 0))) ∧ Aside0 (Below w.heap.size w wx))
  case first =>
    go_region_held3 (fun w' => w'.cell? ⟨g, 11, none⟩ = some (.slice (some ad) p.code.length d.c11) ∧ w'.cell? ⟨g, 12, none⟩ = some (.slice (some ⟨ga, 0, none⟩) P.length P.length) ∧ w'.cell? (ad.add (n * 2)) = some (.int .i64 (k : Int)) ∧ w'.cell? ⟨(ad.add (n * 2)).block, (ad.add (n * 2)).off + 1, none⟩ = some (.int .i64 xa) ∧ w'.cell? ⟨ga, n * 3, none⟩ = some (.int .i64 sh) ∧ w'.cell? ⟨ga, n * 3 + 1, none⟩ = some (.int .i64 st)) (go_keep) (fail)
    all_goals
      go_wp2_with fail
      go_meet
      have T1 := two_new w #[.int .i64 (k : Int), .int .i64 xa] #[.int .i64 sh, .int .i64 st] 52 71
      have T2 := two_new w #[.int .i64 sh, .int .i64 st] #[.int .i64 (k : Int), .int .i64 xa] 71 52
      first
        | exact ⟨w.heap.size, w.heap.size + 1, rfl, rfl, ⟨by omega⟩, ⟨T1.1⟩, ⟨T1.2.1⟩, ⟨T1.2.2⟩⟩
        | exact ⟨w.heap.size + 1, w.heap.size, rfl, rfl, ⟨by omega⟩, ⟨T2.2.1⟩, ⟨T2.1⟩, ⟨T2.2.2⟩⟩
  case rest =>
    obtain ⟨b5, b6, rfl, rfl, hbb, h5, h6, hbel⟩ := hcut
    have c50 := (blk_cell h5.out 0).trans rfl
    have c51 := (blk_cell h5.out 1).trans rfl
    have c60 := (blk_cell h6.out 0).trans rfl
    have c61 := (blk_cell h6.out 1).trans rfl
    have c12' := (hbel.out.cell (p := ⟨g, 12, none⟩) lt1).trans c12
    have q2' := (hbel.out.cell (p := ⟨ga, n * 3 + 2, none⟩) lt2).trans q2
    clear z1 z2 z3 z4 z5 z6 z7 r0 r1 q0 q1 q2 c11 c12 hA bl e4 e5
    have d0 : decide ((k : Int) < 1) = false := decide_eq_false (by omega)
    have d1 : decide ((33 : Int) < (k : Int)) = false := decide_eq_false (by omega)
    have d2 : decide (k < 1) = false := decide_eq_false (by omega)
    have d3 : decide (33 < k) = false := decide_eq_false (by omega)
    have d4 : decide (k = 0) = false := decide_eq_false (by omega)
    have d5 : ¬ k = 0 := by omega
    obtain ⟨t0, t1, t2⟩ := (HT.out.below hbel.out (by omega)) k (by omega)
    rw [HND.out] at t0
    rw [HGR.out] at t1
    rw [HKD.out] at t2
    have u1 := eq_true (show (0 : Int) ≤ (k : Int) by omega)
    have u2 : ((k : Int) < 34) = True := eq_true (by omega)
    have u3 : (k < 34) = True := eq_true (by omega)
    have u4 : ¬ (0 : Nat) = b5 := by have := hbb.out; omega
    have u5 : ¬ (0 : Nat) = b6 := by have := hbb.out; omega
    have u6 : (0 : Nat) < wc.heap.size := by have := hbel.out.size; omega
    have u7 : ¬ (0 : Nat) = wc.heap.size := by omega
    have l5 := blk_lt h5.out
    have l6 := blk_lt h6.out
    have v0 : decide (sh < nd) = false := decide_eq_false hlow
    have H4 := Lib.hid ((HI.out.below hbel.out).below (below_alloc (Below.refl _ wc) (.cells #[.int .i64 nd, .int .i64 gr, .int .i64 10] 104)))
    clear hlow hk1 hk2
    go_wp2_with fail
    refine (arg_calls HCL.out H4.out).mono ?_
    rintro e w5 ⟨rfl, b5'⟩
    rw [HARG.out]
    have H5 := Lib.hid (H4.out.below b5')
    have k5 := blk_below (blk_alloc h5.out (.cells #[.int .i64 nd, .int .i64 gr, .int .i64 10] 104)) b5'
    have k6 := blk_below (blk_alloc h6.out (.cells #[.int .i64 nd, .int .i64 gr, .int .i64 10] 104)) b5'
    have k7 := blk_below (blk_new wc (.cells #[.int .i64 nd, .int .i64 gr, .int .i64 10] 104)) b5'
    have m50 := (blk_cell k5 0).trans rfl
    have m51 := (blk_cell k5 1).trans rfl
    have m60 := (blk_cell k6 0).trans rfl
    have m61 := (blk_cell k6 1).trans rfl
    have m70 := (blk_cell k7 0).trans rfl
    have m71 := (blk_cell k7 1).trans rfl
    have m72 := (blk_cell k7 2).trans rfl
    have s5 := blk_lt k5
    have s6 := blk_lt k6
    have s7 := blk_lt k7
    have s8 : ¬ b5 = w5.heap.size := by omega
    have s9 : ¬ b6 = w5.heap.size := by omega
    have s10 : ¬ wc.heap.size = w5.heap.size := by omega
    have s11 : ¬ w5.heap.size = b5 := by omega
    have s12 : ¬ w5.heap.size = b6 := by omega
    have s13 : ¬ w5.heap.size = wc.heap.size := by omega
    have K5 := Lib.hid k5
    have K6 := Lib.hid k6
    have HH9 := Lib.hid (H5.out.below (below_alloc (Below.refl _ w5) (.cells #[.int .i64 hg, .int .i64 st] 71)))
    have HSG := Lib.hid (show w.heap.size ≤ b5 ∧ w.heap.size ≤ b6 ∧ ga < w.heap.size from ⟨hbb.out.2.1, hbb.out.2.2, lt2⟩)
    have HSW := Lib.hid (show w.heap.size ≤ w5.heap.size by have := hbel.out.size; have := b5'.size; simp at this; omega)
    clear b5' k5 k6 k7 l5 l6 hbb t0 t1 t2 c50 c51 c60 c61 c12' q2' u4 u5 u6 u7 lt1 lt2
    have x1 := HW1.out
    have x2 := HW2.out
    have m9 := (H5.out.prog).2.2.2.2.2.2.2.2.2.1
    have lt9 := blk_lt H5.out.hb
    have s14 : ¬ g = w5.heap.size := by omega
    have s15 : ¬ w5.heap.size = g := by omega
    have y1 := HQW.out
    have y2 := HRW.out
    have y3 := HSW1.out
    have y4 := HQ.out
    have y5 := HR.out
    go_wp2
    go_quiet (fail)
    go_wp2
    go_ret
    exact ⟨by simp, HH9.out.below (pw_below_drewN (Below.refl _ _) _)⟩
set_option maxHeartbeats 16000000 in
set_option maxRecDepth 100000 in
theorem step_k10b {n k : Nat} {xa sh st nd gr hg n1 q r sh1 : Int} {Q R : List Pl} {lb : Bool} (i : ChkAt w0 w g ga p d P) (hn : n < P.length) (hnp : P.length = p.code.length) (hl : P.length ≤ 16384) (hxo : (rdInstrS p.code (n : Int)).f0 = (k : Int)) (hxa : (rdInstrS p.code (n : Int)).f1 = xa) (hs : P.getD n Pl.z = ⟨sh, st, true⟩) (hk1 : 1 ≤ k) (hk2 : k ≤ 33) (ht : TabAt w) (hlow : ¬ sh < nd) (hcl : p.consts.length ≤ 16384) (harg : argP p 10 xa = true) (hf : 0 ≤ sh ∧ sh ≤ 4096 ∧ 0 ≤ st ∧ st ≤ 4096)
    (hnd : needT k = nd) (hgr : growT k = gr) (hkd : argT k = 10) (hhg : sh + gr = hg) (hn1 : (n : Int) + 1 = n1) (hq : xa.tdiv 16384 = q) (hr : xa.tmod 16384 = r) (hsh1 : sh + 1 = sh1) (hx : -9223372036854775808 ≤ xa ∧ xa ≤ 9223372036854775807) (hst : 0 ≤ xa) (hql : ¬ q < p.locals) :
    Calls Tryd.prog 31 #[.pointer (some ⟨g, 0, none⟩), .int .i64 (n : Int)] w fun e w' => e = .returned (.bool false) ∧ ChkAt w0 w' g ga p d P := by
  have HTA := Lib.hid (tab_all k (by omega))
  rw [hnd, hgr] at HTA
  have HW1 := Lib.hid (show wrap64 (sh + gr) = hg by rw [hhg]; have := HTA.out; exact wrap_small (by omega) (by omega))
  have HW2 := Lib.hid (show wrap64 ((n : Int) + 1) = n1 by rw [hn1]; exact wrap_small (by omega) (by omega))
  obtain ⟨-, c12⟩ := i.cells
  obtain ⟨-, -, -, -, -, -, -, -, -, -, -, c11⟩ := i.prog
  obtain ⟨q0, q1, q2⟩ := i.cell hn
  obtain ⟨ad, hA, r0, r1⟩ := atInstrS i.now.r11 (n : Int) (by omega) (by omega)
  rw [Int.toNat_natCast] at r0 r1
  rw [hA] at c11
  have lt1 := blk_lt i.hb
  have lt2 := blk_lt i.ha
  have bl := World.block_lt_of_cell? w _ r0
  rw [add_block] at bl
  have e1 := eq_true (show (0 : Int) ≤ (n : Int) by omega)
  have e2 : ((n : Int) < (P.length : Int)) = True := eq_true (by omega)
  have e3 := eq_true hn
  have e4 : ((n : Int) < (p.code.length : Int)) = True := eq_true (by omega)
  have e5 : (n < p.code.length) = True := eq_true (by omega)
  rw [hxo] at r0
  rw [hxa] at r1
  rw [hs] at q0 q1 q2
  simp only at q0 q1 q2
  have z1 := World.new_ne w _ c11
  have z2 := World.new_ne w _ c12
  have z3 := World.new_ne w _ q0
  have z4 := World.new_ne w _ q1
  have z5 := World.new_ne w _ q2
  have z6 := World.new_ne w _ r0
  have z7 := World.new_ne w _ r1
  have HT := Lib.hid ht
  have HI := Lib.hid i
  have HCL := Lib.hid hcl
  have HND := Lib.hid hnd
  have HGR := Lib.hid hgr
  have HKD := Lib.hid hkd
  have HARG := Lib.hid harg
  have g0 : decide (0 ≤ xa) = true := decide_eq_true hst
  have g1 : decide (q < p.locals) = false := decide_eq_false hql
  clear hst hql
  have hqr := div_small hx
  rw [hq, hr] at hqr
  have HQW := Lib.hid (show IntKind.i64.wrap q = q by rw [i64_w]; unfold wrap64; omega)
  have HRW := Lib.hid (show IntKind.i64.wrap r = r by rw [i64_w]; unfold wrap64; omega)
  have HSW1 := Lib.hid (show IntKind.i64.wrap (sh + 1) = sh1 by rw [i64_w, hsh1]; exact wrap_small (by omega) (by omega))
  have HC9 := Lib.hid i.prog.2.2.2.2.2.2.2.2.2.1
  have HLT := Lib.hid (blk_lt i.hb)
  have HQ := Lib.hid hq
  have HR := Lib.hid hr
  clear hqr hq hr hsh1 hx
  clear hxo hxa hs hn hnp hl i ht hf hcl hnd hgr hkd hhg hn1 harg
  go_enter Tryd.func31, Tryd.ntmps31
  go_upto_region 1 with fail
  go_cut [5, 6] (fun v5 v6 wx => ∃ b5 b6 : Nat, v5 = .pointer (some ⟨b5, 0, none⟩) ∧ v6 = .pointer (some ⟨b6, 0, none⟩) ∧ Aside0 (b5 ≠ b6 ∧ w.heap.size ≤ b5 ∧ w.heap.size ≤ b6) ∧ Aside0 (wx.heap[b5]? = some (.cells #[.int .i64 (k : Int), .int .i64 xa] 52 (0, 0))) ∧ Aside0 (wx.heap[b6]? = some (.cells #[.int .i64 sh, .int .i64 st] 71 (0, 0))) ∧ Aside0 (Below w.heap.size w wx))
  case first =>
    go_region_held3 (fun w' => w'.cell? ⟨g, 11, none⟩ = some (.slice (some ad) p.code.length d.c11) ∧ w'.cell? ⟨g, 12, none⟩ = some (.slice (some ⟨ga, 0, none⟩) P.length P.length) ∧ w'.cell? (ad.add (n * 2)) = some (.int .i64 (k : Int)) ∧ w'.cell? ⟨(ad.add (n * 2)).block, (ad.add (n * 2)).off + 1, none⟩ = some (.int .i64 xa) ∧ w'.cell? ⟨ga, n * 3, none⟩ = some (.int .i64 sh) ∧ w'.cell? ⟨ga, n * 3 + 1, none⟩ = some (.int .i64 st)) (go_keep) (fail)
    all_goals
      go_wp2_with fail
      go_meet
      have T1 := two_new w #[.int .i64 (k : Int), .int .i64 xa] #[.int .i64 sh, .int .i64 st] 52 71
      have T2 := two_new w #[.int .i64 sh, .int .i64 st] #[.int .i64 (k : Int), .int .i64 xa] 71 52
      first
        | exact ⟨w.heap.size, w.heap.size + 1, rfl, rfl, ⟨by omega⟩, ⟨T1.1⟩, ⟨T1.2.1⟩, ⟨T1.2.2⟩⟩
        | exact ⟨w.heap.size + 1, w.heap.size, rfl, rfl, ⟨by omega⟩, ⟨T2.2.1⟩, ⟨T2.1⟩, ⟨T2.2.2⟩⟩
  case rest =>
    obtain ⟨b5, b6, rfl, rfl, hbb, h5, h6, hbel⟩ := hcut
    have c50 := (blk_cell h5.out 0).trans rfl
    have c51 := (blk_cell h5.out 1).trans rfl
    have c60 := (blk_cell h6.out 0).trans rfl
    have c61 := (blk_cell h6.out 1).trans rfl
    have c12' := (hbel.out.cell (p := ⟨g, 12, none⟩) lt1).trans c12
    have q2' := (hbel.out.cell (p := ⟨ga, n * 3 + 2, none⟩) lt2).trans q2
    clear z1 z2 z3 z4 z5 z6 z7 r0 r1 q0 q1 q2 c11 c12 hA bl e4 e5
    have d0 : decide ((k : Int) < 1) = false := decide_eq_false (by omega)
    have d1 : decide ((33 : Int) < (k : Int)) = false := decide_eq_false (by omega)
    have d2 : decide (k < 1) = false := decide_eq_false (by omega)
    have d3 : decide (33 < k) = false := decide_eq_false (by omega)
    have d4 : decide (k = 0) = false := decide_eq_false (by omega)
    have d5 : ¬ k = 0 := by omega
    obtain ⟨t0, t1, t2⟩ := (HT.out.below hbel.out (by omega)) k (by omega)
    rw [HND.out] at t0
    rw [HGR.out] at t1
    rw [HKD.out] at t2
    have u1 := eq_true (show (0 : Int) ≤ (k : Int) by omega)
    have u2 : ((k : Int) < 34) = True := eq_true (by omega)
    have u3 : (k < 34) = True := eq_true (by omega)
    have u4 : ¬ (0 : Nat) = b5 := by have := hbb.out; omega
    have u5 : ¬ (0 : Nat) = b6 := by have := hbb.out; omega
    have u6 : (0 : Nat) < wc.heap.size := by have := hbel.out.size; omega
    have u7 : ¬ (0 : Nat) = wc.heap.size := by omega
    have l5 := blk_lt h5.out
    have l6 := blk_lt h6.out
    have v0 : decide (sh < nd) = false := decide_eq_false hlow
    have H4 := Lib.hid ((HI.out.below hbel.out).below (below_alloc (Below.refl _ wc) (.cells #[.int .i64 nd, .int .i64 gr, .int .i64 10] 104)))
    clear hlow hk1 hk2
    go_wp2_with fail
    refine (arg_calls HCL.out H4.out).mono ?_
    rintro e w5 ⟨rfl, b5'⟩
    rw [HARG.out]
    have H5 := Lib.hid (H4.out.below b5')
    have k5 := blk_below (blk_alloc h5.out (.cells #[.int .i64 nd, .int .i64 gr, .int .i64 10] 104)) b5'
    have k6 := blk_below (blk_alloc h6.out (.cells #[.int .i64 nd, .int .i64 gr, .int .i64 10] 104)) b5'
    have k7 := blk_below (blk_new wc (.cells #[.int .i64 nd, .int .i64 gr, .int .i64 10] 104)) b5'
    have m50 := (blk_cell k5 0).trans rfl
    have m51 := (blk_cell k5 1).trans rfl
    have m60 := (blk_cell k6 0).trans rfl
    have m61 := (blk_cell k6 1).trans rfl
    have m70 := (blk_cell k7 0).trans rfl
    have m71 := (blk_cell k7 1).trans rfl
    have m72 := (blk_cell k7 2).trans rfl
    have s5 := blk_lt k5
    have s6 := blk_lt k6
    have s7 := blk_lt k7
    have s8 : ¬ b5 = w5.heap.size := by omega
    have s9 : ¬ b6 = w5.heap.size := by omega
    have s10 : ¬ wc.heap.size = w5.heap.size := by omega
    have s11 : ¬ w5.heap.size = b5 := by omega
    have s12 : ¬ w5.heap.size = b6 := by omega
    have s13 : ¬ w5.heap.size = wc.heap.size := by omega
    have K5 := Lib.hid k5
    have K6 := Lib.hid k6
    have HH9 := Lib.hid (H5.out.below (below_alloc (Below.refl _ w5) (.cells #[.int .i64 hg, .int .i64 st] 71)))
    have HSG := Lib.hid (show w.heap.size ≤ b5 ∧ w.heap.size ≤ b6 ∧ ga < w.heap.size from ⟨hbb.out.2.1, hbb.out.2.2, lt2⟩)
    have HSW := Lib.hid (show w.heap.size ≤ w5.heap.size by have := hbel.out.size; have := b5'.size; simp at this; omega)
    clear b5' k5 k6 k7 l5 l6 hbb t0 t1 t2 c50 c51 c60 c61 c12' q2' u4 u5 u6 u7 lt1 lt2
    have x1 := HW1.out
    have x2 := HW2.out
    have m9 := (H5.out.prog).2.2.2.2.2.2.2.2.2.1
    have lt9 := blk_lt H5.out.hb
    have s14 : ¬ g = w5.heap.size := by omega
    have s15 : ¬ w5.heap.size = g := by omega
    have y1 := HQW.out
    have y2 := HRW.out
    have y3 := HSW1.out
    have y4 := HQ.out
    have y5 := HR.out
    go_wp2
    go_quiet (fail)
    go_wp2
    go_ret
    exact ⟨by simp, HH9.out.below (pw_below_drewN (Below.refl _ _) _)⟩
set_option maxHeartbeats 16000000 in
set_option maxRecDepth 100000 in
theorem step_k10n {n k : Nat} {xa sh st nd gr hg n1 q r sh1 : Int} {Q R : List Pl} {lb : Bool} (i : ChkAt w0 w g ga p d P) (hn : n < P.length) (hnp : P.length = p.code.length) (hl : P.length ≤ 16384) (hxo : (rdInstrS p.code (n : Int)).f0 = (k : Int)) (hxa : (rdInstrS p.code (n : Int)).f1 = xa) (hs : P.getD n Pl.z = ⟨sh, st, true⟩) (hk1 : 1 ≤ k) (hk2 : k ≤ 33) (ht : TabAt w) (hlow : ¬ sh < nd) (hcl : p.consts.length ≤ 16384) (harg : argP p 10 xa = true) (hf : 0 ≤ sh ∧ sh ≤ 4096 ∧ 0 ≤ st ∧ st ≤ 4096)
    (hnd : needT k = nd) (hgr : growT k = gr) (hkd : argT k = 10) (hhg : sh + gr = hg) (hn1 : (n : Int) + 1 = n1) (hq : xa.tdiv 16384 = q) (hr : xa.tmod 16384 = r) (hsh1 : sh + 1 = sh1) (hx : -9223372036854775808 ≤ xa ∧ xa ≤ 9223372036854775807) (hst : 0 ≤ xa) (hql : q < p.locals) (hJ : ∀ w9, ChkAt w0 w9 g ga p d P → Calls Tryd.prog 48 #[.pointer (some ⟨g, 0, none⟩), .int .i64 n, .int .i64 r, .agg #[.int .i64 sh1, .int .i64 st]] w9 fun e w' => e = .returned (.bool false) ∧ ChkAt w0 w' g ga p d Q ∧ Kept w9 w' (fun k => k = ga)) :
    Calls Tryd.prog 31 #[.pointer (some ⟨g, 0, none⟩), .int .i64 (n : Int)] w fun e w' => e = .returned (.bool false) ∧ ChkAt w0 w' g ga p d Q := by
  have HTA := Lib.hid (tab_all k (by omega))
  rw [hnd, hgr] at HTA
  have HW1 := Lib.hid (show wrap64 (sh + gr) = hg by rw [hhg]; have := HTA.out; exact wrap_small (by omega) (by omega))
  have HW2 := Lib.hid (show wrap64 ((n : Int) + 1) = n1 by rw [hn1]; exact wrap_small (by omega) (by omega))
  obtain ⟨-, c12⟩ := i.cells
  obtain ⟨-, -, -, -, -, -, -, -, -, -, -, c11⟩ := i.prog
  obtain ⟨q0, q1, q2⟩ := i.cell hn
  obtain ⟨ad, hA, r0, r1⟩ := atInstrS i.now.r11 (n : Int) (by omega) (by omega)
  rw [Int.toNat_natCast] at r0 r1
  rw [hA] at c11
  have lt1 := blk_lt i.hb
  have lt2 := blk_lt i.ha
  have bl := World.block_lt_of_cell? w _ r0
  rw [add_block] at bl
  have e1 := eq_true (show (0 : Int) ≤ (n : Int) by omega)
  have e2 : ((n : Int) < (P.length : Int)) = True := eq_true (by omega)
  have e3 := eq_true hn
  have e4 : ((n : Int) < (p.code.length : Int)) = True := eq_true (by omega)
  have e5 : (n < p.code.length) = True := eq_true (by omega)
  rw [hxo] at r0
  rw [hxa] at r1
  rw [hs] at q0 q1 q2
  simp only at q0 q1 q2
  have z1 := World.new_ne w _ c11
  have z2 := World.new_ne w _ c12
  have z3 := World.new_ne w _ q0
  have z4 := World.new_ne w _ q1
  have z5 := World.new_ne w _ q2
  have z6 := World.new_ne w _ r0
  have z7 := World.new_ne w _ r1
  have HT := Lib.hid ht
  have HI := Lib.hid i
  have HCL := Lib.hid hcl
  have HND := Lib.hid hnd
  have HGR := Lib.hid hgr
  have HKD := Lib.hid hkd
  have HARG := Lib.hid harg
  have HJJ := Lib.hid hJ
  clear hJ
  have g0 : decide (0 ≤ xa) = true := decide_eq_true hst
  have g1 : decide (q < p.locals) = true := decide_eq_true hql
  clear hst hql
  have hqr := div_small hx
  rw [hq, hr] at hqr
  have HQW := Lib.hid (show IntKind.i64.wrap q = q by rw [i64_w]; unfold wrap64; omega)
  have HRW := Lib.hid (show IntKind.i64.wrap r = r by rw [i64_w]; unfold wrap64; omega)
  have HSW1 := Lib.hid (show IntKind.i64.wrap (sh + 1) = sh1 by rw [i64_w, hsh1]; exact wrap_small (by omega) (by omega))
  have HC9 := Lib.hid i.prog.2.2.2.2.2.2.2.2.2.1
  have HLT := Lib.hid (blk_lt i.hb)
  have HQ := Lib.hid hq
  have HR := Lib.hid hr
  clear hqr hq hr hsh1 hx
  clear hxo hxa hs hn hnp hl i ht hf hcl hnd hgr hkd hhg hn1 harg
  go_enter Tryd.func31, Tryd.ntmps31
  go_upto_region 1 with fail
  go_cut [5, 6] (fun v5 v6 wx => ∃ b5 b6 : Nat, v5 = .pointer (some ⟨b5, 0, none⟩) ∧ v6 = .pointer (some ⟨b6, 0, none⟩) ∧ Aside0 (b5 ≠ b6 ∧ w.heap.size ≤ b5 ∧ w.heap.size ≤ b6) ∧ Aside0 (wx.heap[b5]? = some (.cells #[.int .i64 (k : Int), .int .i64 xa] 52 (0, 0))) ∧ Aside0 (wx.heap[b6]? = some (.cells #[.int .i64 sh, .int .i64 st] 71 (0, 0))) ∧ Aside0 (Below w.heap.size w wx))
  case first =>
    go_region_held3 (fun w' => w'.cell? ⟨g, 11, none⟩ = some (.slice (some ad) p.code.length d.c11) ∧ w'.cell? ⟨g, 12, none⟩ = some (.slice (some ⟨ga, 0, none⟩) P.length P.length) ∧ w'.cell? (ad.add (n * 2)) = some (.int .i64 (k : Int)) ∧ w'.cell? ⟨(ad.add (n * 2)).block, (ad.add (n * 2)).off + 1, none⟩ = some (.int .i64 xa) ∧ w'.cell? ⟨ga, n * 3, none⟩ = some (.int .i64 sh) ∧ w'.cell? ⟨ga, n * 3 + 1, none⟩ = some (.int .i64 st)) (go_keep) (fail)
    all_goals
      go_wp2_with fail
      go_meet
      have T1 := two_new w #[.int .i64 (k : Int), .int .i64 xa] #[.int .i64 sh, .int .i64 st] 52 71
      have T2 := two_new w #[.int .i64 sh, .int .i64 st] #[.int .i64 (k : Int), .int .i64 xa] 71 52
      first
        | exact ⟨w.heap.size, w.heap.size + 1, rfl, rfl, ⟨by omega⟩, ⟨T1.1⟩, ⟨T1.2.1⟩, ⟨T1.2.2⟩⟩
        | exact ⟨w.heap.size + 1, w.heap.size, rfl, rfl, ⟨by omega⟩, ⟨T2.2.1⟩, ⟨T2.1⟩, ⟨T2.2.2⟩⟩
  case rest =>
    obtain ⟨b5, b6, rfl, rfl, hbb, h5, h6, hbel⟩ := hcut
    have c50 := (blk_cell h5.out 0).trans rfl
    have c51 := (blk_cell h5.out 1).trans rfl
    have c60 := (blk_cell h6.out 0).trans rfl
    have c61 := (blk_cell h6.out 1).trans rfl
    have c12' := (hbel.out.cell (p := ⟨g, 12, none⟩) lt1).trans c12
    have q2' := (hbel.out.cell (p := ⟨ga, n * 3 + 2, none⟩) lt2).trans q2
    clear z1 z2 z3 z4 z5 z6 z7 r0 r1 q0 q1 q2 c11 c12 hA bl e4 e5
    have d0 : decide ((k : Int) < 1) = false := decide_eq_false (by omega)
    have d1 : decide ((33 : Int) < (k : Int)) = false := decide_eq_false (by omega)
    have d2 : decide (k < 1) = false := decide_eq_false (by omega)
    have d3 : decide (33 < k) = false := decide_eq_false (by omega)
    have d4 : decide (k = 0) = false := decide_eq_false (by omega)
    have d5 : ¬ k = 0 := by omega
    obtain ⟨t0, t1, t2⟩ := (HT.out.below hbel.out (by omega)) k (by omega)
    rw [HND.out] at t0
    rw [HGR.out] at t1
    rw [HKD.out] at t2
    have u1 := eq_true (show (0 : Int) ≤ (k : Int) by omega)
    have u2 : ((k : Int) < 34) = True := eq_true (by omega)
    have u3 : (k < 34) = True := eq_true (by omega)
    have u4 : ¬ (0 : Nat) = b5 := by have := hbb.out; omega
    have u5 : ¬ (0 : Nat) = b6 := by have := hbb.out; omega
    have u6 : (0 : Nat) < wc.heap.size := by have := hbel.out.size; omega
    have u7 : ¬ (0 : Nat) = wc.heap.size := by omega
    have l5 := blk_lt h5.out
    have l6 := blk_lt h6.out
    have v0 : decide (sh < nd) = false := decide_eq_false hlow
    have H4 := Lib.hid ((HI.out.below hbel.out).below (below_alloc (Below.refl _ wc) (.cells #[.int .i64 nd, .int .i64 gr, .int .i64 10] 104)))
    clear hlow hk1 hk2
    go_wp2_with fail
    refine (arg_calls HCL.out H4.out).mono ?_
    rintro e w5 ⟨rfl, b5'⟩
    rw [HARG.out]
    have H5 := Lib.hid (H4.out.below b5')
    have k5 := blk_below (blk_alloc h5.out (.cells #[.int .i64 nd, .int .i64 gr, .int .i64 10] 104)) b5'
    have k6 := blk_below (blk_alloc h6.out (.cells #[.int .i64 nd, .int .i64 gr, .int .i64 10] 104)) b5'
    have k7 := blk_below (blk_new wc (.cells #[.int .i64 nd, .int .i64 gr, .int .i64 10] 104)) b5'
    have m50 := (blk_cell k5 0).trans rfl
    have m51 := (blk_cell k5 1).trans rfl
    have m60 := (blk_cell k6 0).trans rfl
    have m61 := (blk_cell k6 1).trans rfl
    have m70 := (blk_cell k7 0).trans rfl
    have m71 := (blk_cell k7 1).trans rfl
    have m72 := (blk_cell k7 2).trans rfl
    have s5 := blk_lt k5
    have s6 := blk_lt k6
    have s7 := blk_lt k7
    have s8 : ¬ b5 = w5.heap.size := by omega
    have s9 : ¬ b6 = w5.heap.size := by omega
    have s10 : ¬ wc.heap.size = w5.heap.size := by omega
    have s11 : ¬ w5.heap.size = b5 := by omega
    have s12 : ¬ w5.heap.size = b6 := by omega
    have s13 : ¬ w5.heap.size = wc.heap.size := by omega
    have K5 := Lib.hid k5
    have K6 := Lib.hid k6
    have HH9 := Lib.hid (H5.out.below (below_alloc (Below.refl _ w5) (.cells #[.int .i64 hg, .int .i64 st] 71)))
    have HSG := Lib.hid (show w.heap.size ≤ b5 ∧ w.heap.size ≤ b6 ∧ ga < w.heap.size from ⟨hbb.out.2.1, hbb.out.2.2, lt2⟩)
    have HSW := Lib.hid (show w.heap.size ≤ w5.heap.size by have := hbel.out.size; have := b5'.size; simp at this; omega)
    clear b5' k5 k6 k7 l5 l6 hbb t0 t1 t2 c50 c51 c60 c61 c12' q2' u4 u5 u6 u7 lt1 lt2
    have x1 := HW1.out
    have x2 := HW2.out
    have m9 := (H5.out.prog).2.2.2.2.2.2.2.2.2.1
    have lt9 := blk_lt H5.out.hb
    have s14 : ¬ g = w5.heap.size := by omega
    have s15 : ¬ w5.heap.size = g := by omega
    have y1 := HQW.out
    have y2 := HRW.out
    have y3 := HSW1.out
    have y4 := HQ.out
    have y5 := HR.out
    go_wp2
    refine wp_region_held_drew (S := (fun w' => w'.cell? ⟨b5, 1, none⟩ = some (.int .i64 xa) ∧ w'.cell? ⟨g, 9, none⟩ = some (.int .i64 p.locals) ∧ w'.cell? ⟨b6, 0, none⟩ = some (.int .i64 sh) ∧ w'.cell? ⟨b6, 1, none⟩ = some (.int .i64 st))) (by kernel_rfl) ?_ (fun hHeld => ?_)
    · (first | exact ⟨u51, u9g, u60, u61⟩ | exact ⟨v51, v9g, v60, v61⟩ | (simp [go_sem, m51, m9, m60, m61, s5, s6, s8, s9, s14, lt9]; done))
    refine' wpAnyH_take (i := 0) (oi := ?oi_0) (v := ?vv_0) ?hi_0 ?hs_0 ?hf_0 ?hr_0 ?hq_0 ?hy_0 ?hS_0 ?hZ_0
    case hi_0 => (simp only [List.getElem?_toArray, List.getElem?_cons_succ, List.getElem?_cons_zero]; rfl)
    case hq_0 => exact fun _ _ _ h => h
    case hs_0 => kernel_rfl
    case hS_0 => assumption
    case hf_0 => kernel_rfl
    case hr_0 => kernel_rfl
    case hy_0 => (refine Or.inl ⟨by rfl, ?_⟩; intro w hSw; (try dsimp only at hSw); go_simp; (try with_reducible rfl))
    try simp only [Act.put, List.setIfInBounds_toArray, List.set_cons_zero, List.set_cons_succ]
    refine' wpAnyH_take (i := 1) (oi := ?oi_1) (v := ?vv_1) ?hi_1 ?hs_1 ?hf_1 ?hr_1 ?hq_1 ?hy_1 ?hS_1 ?hZ_1
    case hi_1 => (simp only [List.getElem?_toArray, List.getElem?_cons_succ, List.getElem?_cons_zero]; rfl)
    case hq_1 => exact fun _ _ _ h => h
    case hs_1 => kernel_rfl
    case hS_1 => assumption
    case hf_1 => kernel_rfl
    case hr_1 => kernel_rfl
    case hy_1 => (refine Or.inl ⟨by rfl, ?_⟩; intro w hSw; (try dsimp only at hSw); go_simp; (try with_reducible rfl))
    try simp only [Act.put, List.setIfInBounds_toArray, List.set_cons_zero, List.set_cons_succ]
    refine' wpAnyH_take (i := 2) (oi := ?oi_2) (v := ?vv_2) ?hi_2 ?hs_2 ?hf_2 ?hr_2 ?hq_2 ?hy_2 ?hS_2 ?hZ_2
    case hi_2 => (simp only [List.getElem?_toArray, List.getElem?_cons_succ, List.getElem?_cons_zero]; rfl)
    case hq_2 => exact fun _ _ _ h => h
    case hs_2 => kernel_rfl
    case hS_2 => assumption
    case hf_2 => kernel_rfl
    case hr_2 => kernel_rfl
    case hy_2 => (refine Or.inl ⟨by rfl, ?_⟩; intro w hSw; (try dsimp only at hSw); go_simp; (try with_reducible rfl))
    try simp only [Act.put, List.setIfInBounds_toArray, List.set_cons_zero, List.set_cons_succ]
    refine' wpAnyH_take (i := 3) (oi := ?oi_3) (v := ?vv_3) ?hi_3 ?hs_3 ?hf_3 ?hr_3 ?hq_3 ?hy_3 ?hS_3 ?hZ_3
    case hi_3 => (simp only [List.getElem?_toArray, List.getElem?_cons_succ, List.getElem?_cons_zero]; rfl)
    case hq_3 => exact fun _ _ _ h => h
    case hs_3 => kernel_rfl
    case hS_3 => assumption
    case hf_3 => kernel_rfl
    case hr_3 => kernel_rfl
    case hy_3 => (refine Or.inl ⟨by rfl, ?_⟩; intro w hSw; (try dsimp only at hSw); go_simp; (try with_reducible rfl))
    try simp only [Act.put, List.setIfInBounds_toArray, List.set_cons_zero, List.set_cons_succ]
    refine' wpAnyH_take (i := 4) (oi := ?oi_4) (v := ?vv_4) ?hi_4 ?hs_4 ?hf_4 ?hr_4 ?hq_4 ?hy_4 ?hS_4 ?hZ_4
    case hi_4 => (simp only [List.getElem?_toArray, List.getElem?_cons_succ, List.getElem?_cons_zero]; rfl)
    case hq_4 => exact fun _ _ _ h => h
    case hs_4 => kernel_rfl
    case hS_4 => assumption
    case hf_4 => kernel_rfl
    case hr_4 => kernel_rfl
    case hy_4 => (refine Or.inl ⟨by rfl, ?_⟩; intro w hSw; (try dsimp only at hSw); go_simp; (try with_reducible rfl))
    try simp only [Act.put, List.setIfInBounds_toArray, List.set_cons_zero, List.set_cons_succ]
    refine' wpAnyH_take (i := 5) (oi := ?oi_5) (v := ?vv_5) ?hi_5 ?hs_5 ?hf_5 ?hr_5 ?hq_5 ?hy_5 ?hS_5 ?hZ_5
    case hi_5 => (simp only [List.getElem?_toArray, List.getElem?_cons_succ, List.getElem?_cons_zero]; rfl)
    case hq_5 => exact fun _ _ _ h => h
    case hs_5 => kernel_rfl
    case hS_5 => assumption
    case hf_5 => kernel_rfl
    case hr_5 => kernel_rfl
    case hy_5 => (refine Or.inl ⟨by rfl, ?_⟩; intro w hSw; (try dsimp only at hSw); go_simp; (try with_reducible rfl))
    try simp only [Act.put, List.setIfInBounds_toArray, List.set_cons_zero, List.set_cons_succ]
    refine' wpAnyH_take (i := 6) (oi := ?oi_6) (v := ?vv_6) ?hi_6 ?hs_6 ?hf_6 ?hr_6 ?hq_6 ?hy_6 ?hS_6 ?hZ_6
    case hi_6 => (simp only [List.getElem?_toArray, List.getElem?_cons_succ, List.getElem?_cons_zero]; rfl)
    case hq_6 => exact fun _ _ _ h => h
    case hs_6 => kernel_rfl
    case hS_6 => assumption
    case hf_6 => kernel_rfl
    case hr_6 => kernel_rfl
    case hy_6 => (refine Or.inl ⟨by rfl, ?_⟩; intro w hSw; (try dsimp only at hSw); go_simp; (try with_reducible rfl))
    try simp only [Act.put, List.setIfInBounds_toArray, List.set_cons_zero, List.set_cons_succ]
    refine' wpAnyH_take (i := 7) (oi := ?oi_7) (v := ?vv_7) ?hi_7 ?hs_7 ?hf_7 ?hr_7 ?hq_7 ?hy_7 ?hS_7 ?hZ_7
    case hi_7 => (simp only [List.getElem?_toArray, List.getElem?_cons_succ, List.getElem?_cons_zero]; rfl)
    case hq_7 => exact fun _ _ _ h => h
    case hs_7 => kernel_rfl
    case hS_7 => assumption
    case hf_7 => kernel_rfl
    case hr_7 => kernel_rfl
    case hy_7 => (refine Or.inl ⟨by rfl, ?_⟩; intro w hSw; (try dsimp only at hSw); go_simp; (try with_reducible rfl))
    try simp only [Act.put, List.setIfInBounds_toArray, List.set_cons_zero, List.set_cons_succ]
    refine' wpAnyH_take (i := 8) (oi := ?oi_8) (v := ?vv_8) ?hi_8 ?hs_8 ?hf_8 ?hr_8 ?hq_8 ?hy_8 ?hS_8 ?hZ_8
    case hi_8 => (simp only [List.getElem?_toArray, List.getElem?_cons_succ, List.getElem?_cons_zero]; rfl)
    case hq_8 => exact fun _ _ _ h => h
    case hs_8 => kernel_rfl
    case hS_8 => assumption
    case hf_8 => kernel_rfl
    case hr_8 => kernel_rfl
    case hy_8 => (refine Or.inl ⟨by rfl, ?_⟩; intro w hSw; (try dsimp only at hSw); go_simp; (try with_reducible rfl))
    try simp only [Act.put, List.setIfInBounds_toArray, List.set_cons_zero, List.set_cons_succ]
    refine' wpAnyH_take (i := 9) (oi := ?oi_9) (v := ?vv_9) ?hi_9 ?hs_9 ?hf_9 ?hr_9 ?hq_9 ?hy_9 ?hS_9 ?hZ_9
    case hi_9 => (simp only [List.getElem?_toArray, List.getElem?_cons_succ, List.getElem?_cons_zero]; rfl)
    case hq_9 => exact fun _ _ _ h => h
    case hs_9 => kernel_rfl
    case hS_9 => assumption
    case hf_9 => kernel_rfl
    case hr_9 => kernel_rfl
    case hy_9 => (refine Or.inl ⟨by rfl, ?_⟩; intro w hSw; (try dsimp only at hSw); go_simp; (try with_reducible rfl))
    try simp only [Act.put, List.setIfInBounds_toArray, List.set_cons_zero, List.set_cons_succ]
    refine' wpAnyH_take (i := 10) (oi := ?oi_10) (v := ?vv_10) ?hi_10 ?hs_10 ?hf_10 ?hr_10 ?hq_10 ?hy_10 ?hS_10 ?hZ_10
    case hi_10 => (simp only [List.getElem?_toArray, List.getElem?_cons_succ, List.getElem?_cons_zero]; rfl)
    case hq_10 => exact fun _ _ _ h => h
    case hs_10 => kernel_rfl
    case hS_10 => assumption
    case hf_10 => kernel_rfl
    case hr_10 => kernel_rfl
    case hy_10 => (refine Or.inl ⟨by rfl, ?_⟩; intro w hSw; (try dsimp only at hSw); go_simp; (try with_reducible rfl))
    try simp only [Act.put, List.setIfInBounds_toArray, List.set_cons_zero, List.set_cons_succ]
    refine' wpAnyH_take (i := 11) (oi := ?oi_11) (v := ?vv_11) ?hi_11 ?hs_11 ?hf_11 ?hr_11 ?hq_11 ?hy_11 ?hS_11 ?hZ_11
    case hi_11 => (simp only [List.getElem?_toArray, List.getElem?_cons_succ, List.getElem?_cons_zero]; rfl)
    case hq_11 => exact fun _ _ _ h => h
    case hs_11 => kernel_rfl
    case hS_11 => assumption
    case hf_11 => kernel_rfl
    case hr_11 => kernel_rfl
    case hy_11 => (refine Or.inl ⟨by rfl, ?_⟩; intro w hSw; (try dsimp only at hSw); go_simp; (try with_reducible rfl))
    try simp only [Act.put, List.setIfInBounds_toArray, List.set_cons_zero, List.set_cons_succ]
    refine' wpAnyH_take (i := 12) (oi := ?oi_12) (v := ?vv_12) ?hi_12 ?hs_12 ?hf_12 ?hr_12 ?hq_12 ?hy_12 ?hS_12 ?hZ_12
    case hi_12 => (simp only [List.getElem?_toArray, List.getElem?_cons_succ, List.getElem?_cons_zero]; rfl)
    case hq_12 => exact fun _ _ _ h => h
    case hs_12 => kernel_rfl
    case hS_12 => assumption
    case hf_12 => kernel_rfl
    case hr_12 => kernel_rfl
    case hy_12 => (refine Or.inl ⟨by rfl, ?_⟩; intro w hSw; (try dsimp only at hSw); go_simp; (try with_reducible rfl))
    try simp only [Act.put, List.setIfInBounds_toArray, List.set_cons_zero, List.set_cons_succ]
    refine' wpAnyH_take (i := 13) (oi := ?oi_13) (v := ?vv_13) ?hi_13 ?hs_13 ?hf_13 ?hr_13 ?hq_13 ?hy_13 ?hS_13 ?hZ_13
    case hi_13 => (simp only [List.getElem?_toArray, List.getElem?_cons_succ, List.getElem?_cons_zero]; rfl)
    case hq_13 => exact fun _ _ _ h => h
    case hs_13 => kernel_rfl
    case hS_13 => assumption
    case hf_13 => kernel_rfl
    case hr_13 => kernel_rfl
    case hy_13 => (refine Or.inl ⟨by rfl, ?_⟩; intro w hSw; (try dsimp only at hSw); go_simp; (try with_reducible rfl))
    try simp only [Act.put, List.setIfInBounds_toArray, List.set_cons_zero, List.set_cons_succ]
    refine' wpAnyH_take (i := 14) (oi := ?oi_14) (v := ?vv_14) ?hi_14 ?hs_14 ?hf_14 ?hr_14 ?hq_14 ?hy_14 ?hS_14 ?hZ_14
    case hi_14 => (simp only [List.getElem?_toArray, List.getElem?_cons_succ, List.getElem?_cons_zero]; rfl)
    case hq_14 => exact fun _ _ _ h => h
    case hs_14 => kernel_rfl
    case hS_14 => assumption
    case hf_14 => kernel_rfl
    case hr_14 => kernel_rfl
    case hy_14 => (refine Or.inl ⟨by rfl, ?_⟩; intro w hSw; (try dsimp only at hSw); go_simp; (try with_reducible rfl))
    try simp only [Act.put, List.setIfInBounds_toArray, List.set_cons_zero, List.set_cons_succ]
    refine' wpAnyH_take (i := 15) (oi := ?oi_15) (v := ?vv_15) ?hi_15 ?hs_15 ?hf_15 ?hr_15 ?hq_15 ?hy_15 ?hS_15 ?hZ_15
    case hi_15 => (simp only [List.getElem?_toArray, List.getElem?_cons_succ, List.getElem?_cons_zero]; rfl)
    case hq_15 => exact fun _ _ _ h => h
    case hs_15 => kernel_rfl
    case hS_15 => assumption
    case hf_15 => kernel_rfl
    case hr_15 => kernel_rfl
    case hy_15 => (refine Or.inl ⟨by rfl, ?_⟩; intro w hSw; (try dsimp only at hSw); go_simp; (try with_reducible rfl))
    try simp only [Act.put, List.setIfInBounds_toArray, List.set_cons_zero, List.set_cons_succ]
    refine' wpAnyH_take (i := 16) (oi := ?oi_16) (v := ?vv_16) ?hi_16 ?hs_16 ?hf_16 ?hr_16 ?hq_16 ?hy_16 ?hS_16 ?hZ_16
    case hi_16 => (simp only [List.getElem?_toArray, List.getElem?_cons_succ, List.getElem?_cons_zero]; rfl)
    case hq_16 => exact fun _ _ _ h => h
    case hs_16 => kernel_rfl
    case hS_16 => assumption
    case hf_16 => kernel_rfl
    case hr_16 => kernel_rfl
    case hy_16 => (refine Or.inl ⟨by rfl, ?_⟩; intro w hSw; (try dsimp only at hSw); go_simp; (try with_reducible rfl))
    try simp only [Act.put, List.setIfInBounds_toArray, List.set_cons_zero, List.set_cons_succ]
    refine' wpAnyH_take (i := 17) (oi := ?oi_17) (v := ?vv_17) ?hi_17 ?hs_17 ?hf_17 ?hr_17 ?hq_17 ?hy_17 ?hS_17 ?hZ_17
    case hi_17 => (simp only [List.getElem?_toArray, List.getElem?_cons_succ, List.getElem?_cons_zero]; rfl)
    case hq_17 => exact fun _ _ _ h => h
    case hs_17 => kernel_rfl
    case hS_17 => assumption
    case hf_17 => kernel_rfl
    case hr_17 => kernel_rfl
    case hy_17 => (refine Or.inl ⟨by rfl, ?_⟩; intro w hSw; (try dsimp only at hSw); go_simp; (try with_reducible rfl))
    try simp only [Act.put, List.setIfInBounds_toArray, List.set_cons_zero, List.set_cons_succ]
    refine' wpAnyH_take (i := 18) (oi := ?oi_18) (v := ?vv_18) ?hi_18 ?hs_18 ?hf_18 ?hr_18 ?hq_18 ?hy_18 ?hS_18 ?hZ_18
    case hi_18 => (simp only [List.getElem?_toArray, List.getElem?_cons_succ, List.getElem?_cons_zero]; rfl)
    case hq_18 => exact fun _ _ _ h => h
    case hs_18 => kernel_rfl
    case hS_18 => assumption
    case hf_18 => kernel_rfl
    case hr_18 => kernel_rfl
    case hy_18 => (refine Or.inl ⟨by rfl, ?_⟩; intro w hSw; (try dsimp only at hSw); go_simp; (try with_reducible rfl))
    try simp only [Act.put, List.setIfInBounds_toArray, List.set_cons_zero, List.set_cons_succ]
    refine' wpAnyH_take (i := 19) (oi := ?oi_19) (v := ?vv_19) ?hi_19 ?hs_19 ?hf_19 ?hr_19 ?hq_19 ?hy_19 ?hS_19 ?hZ_19
    case hi_19 => (simp only [List.getElem?_toArray, List.getElem?_cons_succ, List.getElem?_cons_zero]; rfl)
    case hq_19 => exact fun _ _ _ h => h
    case hs_19 => kernel_rfl
    case hS_19 => assumption
    case hf_19 => kernel_rfl
    case hr_19 => kernel_rfl
    case hy_19 => (refine Or.inl ⟨by rfl, ?_⟩; intro w hSw; (try dsimp only at hSw); go_simp; (try with_reducible rfl))
    try simp only [Act.put, List.setIfInBounds_toArray, List.set_cons_zero, List.set_cons_succ]
    refine' wpAnyH_take (i := 20) (oi := ?oi_20) (v := ?vv_20) ?hi_20 ?hs_20 ?hf_20 ?hr_20 ?hq_20 ?hy_20 ?hS_20 ?hZ_20
    case hi_20 => (simp only [List.getElem?_toArray, List.getElem?_cons_succ, List.getElem?_cons_zero]; rfl)
    case hq_20 => exact fun _ _ _ h => h
    case hs_20 => kernel_rfl
    case hS_20 => assumption
    case hf_20 => kernel_rfl
    case hr_20 => kernel_rfl
    case hy_20 => (refine Or.inl ⟨by rfl, ?_⟩; intro w hSw; (try dsimp only at hSw); go_simp; (try with_reducible rfl))
    try simp only [Act.put, List.setIfInBounds_toArray, List.set_cons_zero, List.set_cons_succ]
    refine' wpAnyH_take (i := 21) (oi := ?oi_21) (v := ?vv_21) ?hi_21 ?hs_21 ?hf_21 ?hr_21 ?hq_21 ?hy_21 ?hS_21 ?hZ_21
    case hi_21 => (simp only [List.getElem?_toArray, List.getElem?_cons_succ, List.getElem?_cons_zero]; rfl)
    case hq_21 => exact fun _ _ _ h => h
    case hs_21 => kernel_rfl
    case hS_21 => assumption
    case hf_21 => kernel_rfl
    case hr_21 => kernel_rfl
    case hy_21 => (refine Or.inl ⟨by rfl, ?_⟩; intro w hSw; (try dsimp only at hSw); go_simp; (try with_reducible rfl))
    try simp only [Act.put, List.setIfInBounds_toArray, List.set_cons_zero, List.set_cons_succ]
    refine' wpAnyH_take (i := 22) (oi := ?oi_22) (v := ?vv_22) ?hi_22 ?hs_22 ?hf_22 ?hr_22 ?hq_22 ?hy_22 ?hS_22 ?hZ_22
    case hi_22 => (simp only [List.getElem?_toArray, List.getElem?_cons_succ, List.getElem?_cons_zero]; rfl)
    case hq_22 => exact fun _ _ _ h => h
    case hs_22 => kernel_rfl
    case hS_22 => assumption
    case hf_22 => kernel_rfl
    case hr_22 => kernel_rfl
    case hy_22 => (refine Or.inl ⟨by rfl, ?_⟩; intro w hSw; (try dsimp only at hSw); go_simp; (try with_reducible rfl))
    try simp only [Act.put, List.setIfInBounds_toArray, List.set_cons_zero, List.set_cons_succ]
    refine' wpAnyH_take (i := 23) (oi := ?oi_23) (v := ?vv_23) ?hi_23 ?hs_23 ?hf_23 ?hr_23 ?hq_23 ?hy_23 ?hS_23 ?hZ_23
    case hi_23 => (simp only [List.getElem?_toArray, List.getElem?_cons_succ, List.getElem?_cons_zero]; rfl)
    case hq_23 => exact fun _ _ _ h => h
    case hs_23 => kernel_rfl
    case hS_23 => assumption
    case hf_23 => kernel_rfl
    case hr_23 => kernel_rfl
    case hy_23 => (refine Or.inl ⟨by rfl, ?_⟩; intro w hSw; (try dsimp only at hSw); go_simp; (try with_reducible rfl))
    try simp only [Act.put, List.setIfInBounds_toArray, List.set_cons_zero, List.set_cons_succ]
    refine' wpAnyH_take (i := 24) (oi := ?oi_24) (v := ?vv_24) ?hi_24 ?hs_24 ?hf_24 ?hr_24 ?hq_24 ?hy_24 ?hS_24 ?hZ_24
    case hi_24 => (simp only [List.getElem?_toArray, List.getElem?_cons_succ, List.getElem?_cons_zero]; rfl)
    case hq_24 => exact fun _ _ _ h => h
    case hs_24 => kernel_rfl
    case hS_24 => assumption
    case hf_24 => kernel_rfl
    case hr_24 => kernel_rfl
    case hy_24 => (refine Or.inl ⟨by rfl, ?_⟩; intro w hSw; (try dsimp only at hSw); go_simp; (try with_reducible rfl))
    try simp only [Act.put, List.setIfInBounds_toArray, List.set_cons_zero, List.set_cons_succ]
    refine' wpAnyH_take (i := 25) (oi := ?oi_25) (v := ?vv_25) ?hi_25 ?hs_25 ?hf_25 ?hr_25 ?hq_25 ?hy_25 ?hS_25 ?hZ_25
    case hi_25 => (simp only [List.getElem?_toArray, List.getElem?_cons_succ, List.getElem?_cons_zero]; rfl)
    case hq_25 => exact fun _ _ _ h => h
    case hs_25 => kernel_rfl
    case hS_25 => assumption
    case hf_25 => kernel_rfl
    case hr_25 => kernel_rfl
    case hy_25 => (refine Or.inl ⟨by rfl, ?_⟩; intro w hSw; (try dsimp only at hSw); go_simp; (try with_reducible rfl))
    try simp only [Act.put, List.setIfInBounds_toArray, List.set_cons_zero, List.set_cons_succ]
    refine wpAnyH_ready (rs := [26]) (by kernel_rfl) (by simp) ?_
    refine AllReadyH.cons (o := ?oi_c) ?hi_c (fun K hK => ?kk_c) AllReadyH.nil
    case hi_c => (simp only [List.getElem?_toArray, List.getElem?_cons_succ, List.getElem?_cons_zero]; rfl)
    go_simp
    go_at_call 48; refine (HJJ.out _ (by first | exact HH9.out | exact HH9.out.below (below_drew (Below.refl _ _)) | exact HH9.out.below (pw_below_drewN (Below.refl _ _) _))).mono ?_; rintro e w10 ⟨rfl, j1, j2⟩; have kk : ∀ {b : Nat} {o : Obj}, w.heap.size ≤ b → (w5.alloc (.cells #[.int .i64 hg, .int .i64 st] 71)).heap[b]? = some o → w10.heap[b]? = some o := (fun {b o} hb ho => blk_kept (by first | exact ho | exact blk_drew ho | exact blk_drewN ho _) j2 (by have := HSG.out; omega)); have y5' := kk HSG.out.1 (blk_alloc K5.out (.cells #[.int .i64 hg, .int .i64 st] 71)); have y6' := kk HSG.out.2.1 (blk_alloc K6.out (.cells #[.int .i64 hg, .int .i64 st] 71)); have v51 := (blk_cell y5' 1).trans rfl; have v60 := (blk_cell y6' 0).trans rfl; have v61 := (blk_cell y6' 1).trans rfl; have v9g := j1.prog.2.2.2.2.2.2.2.2.2.1
    (try go_wp2_with fail)
    refine hK.out _ _ ?_ (fun hHeld2 => ?_)
    · (first | exact ⟨u51, u9g, u60, u61⟩ | exact ⟨v51, v9g, v60, v61⟩ | (simp [go_sem, m51, m9, m60, m61, s5, s6, s8, s9, s14, lt9]; done))
    clear hK K
    try simp only [Act.put, List.setIfInBounds_toArray, List.set_cons_zero, List.set_cons_succ]
    refine' wpAnyH_take (i := 27) (oi := ?oi_27) (v := ?vv_27) ?hi_27 ?hs_27 ?hf_27 ?hr_27 ?hq_27 ?hy_27 ?hS_27 ?hZ_27
    case hi_27 => (simp only [List.getElem?_toArray, List.getElem?_cons_succ, List.getElem?_cons_zero]; rfl)
    case hq_27 => exact fun _ _ _ h => h
    case hs_27 => kernel_rfl
    case hS_27 => assumption
    case hf_27 => kernel_rfl
    case hr_27 => kernel_rfl
    case hy_27 => (refine Or.inl ⟨by rfl, ?_⟩; intro w hSw; (try dsimp only at hSw); go_simp; (try with_reducible rfl))
    try simp only [Act.put, List.setIfInBounds_toArray, List.set_cons_zero, List.set_cons_succ]
    refine' wpAnyH_take (i := 28) (oi := ?oi_28) (v := ?vv_28) ?hi_28 ?hs_28 ?hf_28 ?hr_28 ?hq_28 ?hy_28 ?hS_28 ?hZ_28
    case hi_28 => (simp only [List.getElem?_toArray, List.getElem?_cons_succ, List.getElem?_cons_zero]; rfl)
    case hq_28 => exact fun _ _ _ h => h
    case hs_28 => kernel_rfl
    case hS_28 => assumption
    case hf_28 => kernel_rfl
    case hr_28 => kernel_rfl
    case hy_28 => (refine Or.inl ⟨by rfl, ?_⟩; intro w hSw; (try dsimp only at hSw); go_simp; (try with_reducible rfl))
    try simp only [Act.put, List.setIfInBounds_toArray, List.set_cons_zero, List.set_cons_succ]
    refine' wpAnyH_take (i := 29) (oi := ?oi_29) (v := undef) ?hi_29 ?hs_29 ?hf_29 ?hr_29 ?hq_29 ?hy_29 ?hS_29 ?hZ_29
    case hi_29 => (simp only [List.getElem?_toArray, List.getElem?_cons_succ, List.getElem?_cons_zero]; rfl)
    case hq_29 => exact fun _ _ _ h => h
    case hs_29 => kernel_rfl
    case hS_29 => assumption
    case hf_29 => kernel_rfl
    case hr_29 => kernel_rfl
    case hy_29 => (exact Or.inr ⟨by rfl, rfl⟩)
    try simp only [Act.put, List.setIfInBounds_toArray, List.set_cons_zero, List.set_cons_succ]
    refine' wpAnyH_take (i := 30) (oi := ?oi_30) (v := undef) ?hi_30 ?hs_30 ?hf_30 ?hr_30 ?hq_30 ?hy_30 ?hS_30 ?hZ_30
    case hi_30 => (simp only [List.getElem?_toArray, List.getElem?_cons_succ, List.getElem?_cons_zero]; rfl)
    case hq_30 => exact fun _ _ _ h => h
    case hs_30 => kernel_rfl
    case hS_30 => assumption
    case hf_30 => kernel_rfl
    case hr_30 => kernel_rfl
    case hy_30 => (exact Or.inr ⟨by rfl, rfl⟩)
    try simp only [Act.put, List.setIfInBounds_toArray, List.set_cons_zero, List.set_cons_succ]
    refine' wpAnyH_take (i := 31) (oi := ?oi_31) (v := undef) ?hi_31 ?hs_31 ?hf_31 ?hr_31 ?hq_31 ?hy_31 ?hS_31 ?hZ_31
    case hi_31 => (simp only [List.getElem?_toArray, List.getElem?_cons_succ, List.getElem?_cons_zero]; rfl)
    case hq_31 => exact fun _ _ _ h => h
    case hs_31 => kernel_rfl
    case hS_31 => assumption
    case hf_31 => kernel_rfl
    case hr_31 => kernel_rfl
    case hy_31 => (exact Or.inr ⟨by rfl, rfl⟩)
    try simp only [Act.put, List.setIfInBounds_toArray, List.set_cons_zero, List.set_cons_succ]
    refine' wpAnyH_take (i := 32) (oi := ?oi_32) (v := undef) ?hi_32 ?hs_32 ?hf_32 ?hr_32 ?hq_32 ?hy_32 ?hS_32 ?hZ_32
    case hi_32 => (simp only [List.getElem?_toArray, List.getElem?_cons_succ, List.getElem?_cons_zero]; rfl)
    case hq_32 => exact fun _ _ _ h => h
    case hs_32 => kernel_rfl
    case hS_32 => assumption
    case hf_32 => kernel_rfl
    case hr_32 => kernel_rfl
    case hy_32 => (exact Or.inr ⟨by rfl, rfl⟩)
    try simp only [Act.put, List.setIfInBounds_toArray, List.set_cons_zero, List.set_cons_succ]
    refine' wpAnyH_take (i := 33) (oi := ?oi_33) (v := ?vv_33) ?hi_33 ?hs_33 ?hf_33 ?hr_33 ?hq_33 ?hy_33 ?hS_33 ?hZ_33
    case hi_33 => (simp only [List.getElem?_toArray, List.getElem?_cons_succ, List.getElem?_cons_zero]; rfl)
    case hq_33 => exact fun _ _ _ h => h
    case hs_33 => kernel_rfl
    case hS_33 => assumption
    case hf_33 => kernel_rfl
    case hr_33 => kernel_rfl
    case hy_33 => (refine Or.inl ⟨by rfl, ?_⟩; intro w hSw; (try dsimp only at hSw); go_simp; (try with_reducible rfl))
    try simp only [Act.put, List.setIfInBounds_toArray, List.set_cons_zero, List.set_cons_succ]
    refine' wpAnyH_take (i := 34) (oi := ?oi_34) (v := ?vv_34) ?hi_34 ?hs_34 ?hf_34 ?hr_34 ?hq_34 ?hy_34 ?hS_34 ?hZ_34
    case hi_34 => (simp only [List.getElem?_toArray, List.getElem?_cons_succ, List.getElem?_cons_zero]; rfl)
    case hq_34 => exact fun _ _ _ h => h
    case hs_34 => kernel_rfl
    case hS_34 => assumption
    case hf_34 => kernel_rfl
    case hr_34 => kernel_rfl
    case hy_34 => (refine Or.inl ⟨by rfl, ?_⟩; intro w hSw; (try dsimp only at hSw); go_simp; (try with_reducible rfl))
    try simp only [Act.put, List.setIfInBounds_toArray, List.set_cons_zero, List.set_cons_succ]
    refine wpAnyH_done (by kernel_rfl) ?_ _
    go_wp2
    go_ret
    exact ⟨by simp, j1⟩
set_option maxHeartbeats 16000000 in
set_option maxRecDepth 100000 in
theorem step_k10y {n k : Nat} {xa sh st nd gr hg n1 q r sh1 : Int} {Q R : List Pl} {lb : Bool} (i : ChkAt w0 w g ga p d P) (hn : n < P.length) (hnp : P.length = p.code.length) (hl : P.length ≤ 16384) (hxo : (rdInstrS p.code (n : Int)).f0 = (k : Int)) (hxa : (rdInstrS p.code (n : Int)).f1 = xa) (hs : P.getD n Pl.z = ⟨sh, st, true⟩) (hk1 : 1 ≤ k) (hk2 : k ≤ 33) (ht : TabAt w) (hlow : ¬ sh < nd) (hcl : p.consts.length ≤ 16384) (harg : argP p 10 xa = true) (hf : 0 ≤ sh ∧ sh ≤ 4096 ∧ 0 ≤ st ∧ st ≤ 4096)
    (hnd : needT k = nd) (hgr : growT k = gr) (hkd : argT k = 10) (hhg : sh + gr = hg) (hn1 : (n : Int) + 1 = n1) (hq : xa.tdiv 16384 = q) (hr : xa.tmod 16384 = r) (hsh1 : sh + 1 = sh1) (hx : -9223372036854775808 ≤ xa ∧ xa ≤ 9223372036854775807) (hst : 0 ≤ xa) (hql : q < p.locals) (hJ : ∀ w9, ChkAt w0 w9 g ga p d P → Calls Tryd.prog 48 #[.pointer (some ⟨g, 0, none⟩), .int .i64 n, .int .i64 r, .agg #[.int .i64 sh1, .int .i64 st]] w9 fun e w' => e = .returned (.bool true) ∧ ChkAt w0 w' g ga p d Q ∧ Kept w9 w' (fun k => k = ga)) (hL : ∀ w9, ChkAt w0 w9 g ga p d Q → Calls Tryd.prog 49 #[.pointer (some ⟨g, 0, none⟩), .int .i64 n1, .agg #[.int .i64 sh, .int .i64 st]] w9 fun e w' => e = .returned (.bool lb) ∧ ChkAt w0 w' g ga p d R ∧ Kept w9 w' (fun k => k = ga)) :
    Calls Tryd.prog 31 #[.pointer (some ⟨g, 0, none⟩), .int .i64 (n : Int)] w fun e w' => e = .returned (.bool lb) ∧ ChkAt w0 w' g ga p d R := by
  have HTA := Lib.hid (tab_all k (by omega))
  rw [hnd, hgr] at HTA
  have HW1 := Lib.hid (show wrap64 (sh + gr) = hg by rw [hhg]; have := HTA.out; exact wrap_small (by omega) (by omega))
  have HW2 := Lib.hid (show wrap64 ((n : Int) + 1) = n1 by rw [hn1]; exact wrap_small (by omega) (by omega))
  obtain ⟨-, c12⟩ := i.cells
  obtain ⟨-, -, -, -, -, -, -, -, -, -, -, c11⟩ := i.prog
  obtain ⟨q0, q1, q2⟩ := i.cell hn
  obtain ⟨ad, hA, r0, r1⟩ := atInstrS i.now.r11 (n : Int) (by omega) (by omega)
  rw [Int.toNat_natCast] at r0 r1
  rw [hA] at c11
  have lt1 := blk_lt i.hb
  have lt2 := blk_lt i.ha
  have bl := World.block_lt_of_cell? w _ r0
  rw [add_block] at bl
  have e1 := eq_true (show (0 : Int) ≤ (n : Int) by omega)
  have e2 : ((n : Int) < (P.length : Int)) = True := eq_true (by omega)
  have e3 := eq_true hn
  have e4 : ((n : Int) < (p.code.length : Int)) = True := eq_true (by omega)
  have e5 : (n < p.code.length) = True := eq_true (by omega)
  rw [hxo] at r0
  rw [hxa] at r1
  rw [hs] at q0 q1 q2
  simp only at q0 q1 q2
  have z1 := World.new_ne w _ c11
  have z2 := World.new_ne w _ c12
  have z3 := World.new_ne w _ q0
  have z4 := World.new_ne w _ q1
  have z5 := World.new_ne w _ q2
  have z6 := World.new_ne w _ r0
  have z7 := World.new_ne w _ r1
  have HT := Lib.hid ht
  have HI := Lib.hid i
  have HCL := Lib.hid hcl
  have HND := Lib.hid hnd
  have HGR := Lib.hid hgr
  have HKD := Lib.hid hkd
  have HARG := Lib.hid harg
  have HJJ := Lib.hid hJ
  have HLL := Lib.hid hL
  clear hJ hL
  have g0 : decide (0 ≤ xa) = true := decide_eq_true hst
  have g1 : decide (q < p.locals) = true := decide_eq_true hql
  clear hst hql
  have hqr := div_small hx
  rw [hq, hr] at hqr
  have HQW := Lib.hid (show IntKind.i64.wrap q = q by rw [i64_w]; unfold wrap64; omega)
  have HRW := Lib.hid (show IntKind.i64.wrap r = r by rw [i64_w]; unfold wrap64; omega)
  have HSW1 := Lib.hid (show IntKind.i64.wrap (sh + 1) = sh1 by rw [i64_w, hsh1]; exact wrap_small (by omega) (by omega))
  have HC9 := Lib.hid i.prog.2.2.2.2.2.2.2.2.2.1
  have HLT := Lib.hid (blk_lt i.hb)
  have HQ := Lib.hid hq
  have HR := Lib.hid hr
  clear hqr hq hr hsh1 hx
  clear hxo hxa hs hn hnp hl i ht hf hcl hnd hgr hkd hhg hn1 harg
  go_enter Tryd.func31, Tryd.ntmps31
  go_upto_region 1 with fail
  go_cut [5, 6] (fun v5 v6 wx => ∃ b5 b6 : Nat, v5 = .pointer (some ⟨b5, 0, none⟩) ∧ v6 = .pointer (some ⟨b6, 0, none⟩) ∧ Aside0 (b5 ≠ b6 ∧ w.heap.size ≤ b5 ∧ w.heap.size ≤ b6) ∧ Aside0 (wx.heap[b5]? = some (.cells #[.int .i64 (k : Int), .int .i64 xa] 52 (0, 0))) ∧ Aside0 (wx.heap[b6]? = some (.cells #[.int .i64 sh, .int .i64 st] 71 (0, 0))) ∧ Aside0 (Below w.heap.size w wx))
  case first =>
    go_region_held3 (fun w' => w'.cell? ⟨g, 11, none⟩ = some (.slice (some ad) p.code.length d.c11) ∧ w'.cell? ⟨g, 12, none⟩ = some (.slice (some ⟨ga, 0, none⟩) P.length P.length) ∧ w'.cell? (ad.add (n * 2)) = some (.int .i64 (k : Int)) ∧ w'.cell? ⟨(ad.add (n * 2)).block, (ad.add (n * 2)).off + 1, none⟩ = some (.int .i64 xa) ∧ w'.cell? ⟨ga, n * 3, none⟩ = some (.int .i64 sh) ∧ w'.cell? ⟨ga, n * 3 + 1, none⟩ = some (.int .i64 st)) (go_keep) (fail)
    all_goals
      go_wp2_with fail
      go_meet
      have T1 := two_new w #[.int .i64 (k : Int), .int .i64 xa] #[.int .i64 sh, .int .i64 st] 52 71
      have T2 := two_new w #[.int .i64 sh, .int .i64 st] #[.int .i64 (k : Int), .int .i64 xa] 71 52
      first
        | exact ⟨w.heap.size, w.heap.size + 1, rfl, rfl, ⟨by omega⟩, ⟨T1.1⟩, ⟨T1.2.1⟩, ⟨T1.2.2⟩⟩
        | exact ⟨w.heap.size + 1, w.heap.size, rfl, rfl, ⟨by omega⟩, ⟨T2.2.1⟩, ⟨T2.1⟩, ⟨T2.2.2⟩⟩
  case rest =>
    obtain ⟨b5, b6, rfl, rfl, hbb, h5, h6, hbel⟩ := hcut
    have c50 := (blk_cell h5.out 0).trans rfl
    have c51 := (blk_cell h5.out 1).trans rfl
    have c60 := (blk_cell h6.out 0).trans rfl
    have c61 := (blk_cell h6.out 1).trans rfl
    have c12' := (hbel.out.cell (p := ⟨g, 12, none⟩) lt1).trans c12
    have q2' := (hbel.out.cell (p := ⟨ga, n * 3 + 2, none⟩) lt2).trans q2
    clear z1 z2 z3 z4 z5 z6 z7 r0 r1 q0 q1 q2 c11 c12 hA bl e4 e5
    have d0 : decide ((k : Int) < 1) = false := decide_eq_false (by omega)
    have d1 : decide ((33 : Int) < (k : Int)) = false := decide_eq_false (by omega)
    have d2 : decide (k < 1) = false := decide_eq_false (by omega)
    have d3 : decide (33 < k) = false := decide_eq_false (by omega)
    have d4 : decide (k = 0) = false := decide_eq_false (by omega)
    have d5 : ¬ k = 0 := by omega
    obtain ⟨t0, t1, t2⟩ := (HT.out.below hbel.out (by omega)) k (by omega)
    rw [HND.out] at t0
    rw [HGR.out] at t1
    rw [HKD.out] at t2
    have u1 := eq_true (show (0 : Int) ≤ (k : Int) by omega)
    have u2 : ((k : Int) < 34) = True := eq_true (by omega)
    have u3 : (k < 34) = True := eq_true (by omega)
    have u4 : ¬ (0 : Nat) = b5 := by have := hbb.out; omega
    have u5 : ¬ (0 : Nat) = b6 := by have := hbb.out; omega
    have u6 : (0 : Nat) < wc.heap.size := by have := hbel.out.size; omega
    have u7 : ¬ (0 : Nat) = wc.heap.size := by omega
    have l5 := blk_lt h5.out
    have l6 := blk_lt h6.out
    have v0 : decide (sh < nd) = false := decide_eq_false hlow
    have H4 := Lib.hid ((HI.out.below hbel.out).below (below_alloc (Below.refl _ wc) (.cells #[.int .i64 nd, .int .i64 gr, .int .i64 10] 104)))
    clear hlow hk1 hk2
    go_wp2_with fail
    refine (arg_calls HCL.out H4.out).mono ?_
    rintro e w5 ⟨rfl, b5'⟩
    rw [HARG.out]
    have H5 := Lib.hid (H4.out.below b5')
    have k5 := blk_below (blk_alloc h5.out (.cells #[.int .i64 nd, .int .i64 gr, .int .i64 10] 104)) b5'
    have k6 := blk_below (blk_alloc h6.out (.cells #[.int .i64 nd, .int .i64 gr, .int .i64 10] 104)) b5'
    have k7 := blk_below (blk_new wc (.cells #[.int .i64 nd, .int .i64 gr, .int .i64 10] 104)) b5'
    have m50 := (blk_cell k5 0).trans rfl
    have m51 := (blk_cell k5 1).trans rfl
    have m60 := (blk_cell k6 0).trans rfl
    have m61 := (blk_cell k6 1).trans rfl
    have m70 := (blk_cell k7 0).trans rfl
    have m71 := (blk_cell k7 1).trans rfl
    have m72 := (blk_cell k7 2).trans rfl
    have s5 := blk_lt k5
    have s6 := blk_lt k6
    have s7 := blk_lt k7
    have s8 : ¬ b5 = w5.heap.size := by omega
    have s9 : ¬ b6 = w5.heap.size := by omega
    have s10 : ¬ wc.heap.size = w5.heap.size := by omega
    have s11 : ¬ w5.heap.size = b5 := by omega
    have s12 : ¬ w5.heap.size = b6 := by omega
    have s13 : ¬ w5.heap.size = wc.heap.size := by omega
    have K5 := Lib.hid k5
    have K6 := Lib.hid k6
    have HH9 := Lib.hid (H5.out.below (below_alloc (Below.refl _ w5) (.cells #[.int .i64 hg, .int .i64 st] 71)))
    have HSG := Lib.hid (show w.heap.size ≤ b5 ∧ w.heap.size ≤ b6 ∧ ga < w.heap.size from ⟨hbb.out.2.1, hbb.out.2.2, lt2⟩)
    have HSW := Lib.hid (show w.heap.size ≤ w5.heap.size by have := hbel.out.size; have := b5'.size; simp at this; omega)
    clear b5' k5 k6 k7 l5 l6 hbb t0 t1 t2 c50 c51 c60 c61 c12' q2' u4 u5 u6 u7 lt1 lt2
    have x1 := HW1.out
    have x2 := HW2.out
    have m9 := (H5.out.prog).2.2.2.2.2.2.2.2.2.1
    have lt9 := blk_lt H5.out.hb
    have s14 : ¬ g = w5.heap.size := by omega
    have s15 : ¬ w5.heap.size = g := by omega
    have y1 := HQW.out
    have y2 := HRW.out
    have y3 := HSW1.out
    have y4 := HQ.out
    have y5 := HR.out
    go_wp2
    go_region_held3 (fun w' => w'.cell? ⟨b5, 1, none⟩ = some (.int .i64 xa) ∧ w'.cell? ⟨g, 9, none⟩ = some (.int .i64 p.locals) ∧ w'.cell? ⟨b6, 0, none⟩ = some (.int .i64 sh) ∧ w'.cell? ⟨b6, 1, none⟩ = some (.int .i64 st)) (first | exact ⟨u51, u9g, u60, u61⟩ | exact ⟨v51, v9g, v60, v61⟩ | (simp [go_sem, m51, m9, m60, m61, s5, s6, s8, s9, s14, lt9]; done))
      (first
        | (go_at_call 48; refine (HJJ.out _ (by first | exact HH9.out | exact HH9.out.below (below_drew (Below.refl _ _)) | exact HH9.out.below (pw_below_drewN (Below.refl _ _) _))).mono ?_; rintro e w10 ⟨rfl, j1, j2⟩; have kk : ∀ {b : Nat} {o : Obj}, w.heap.size ≤ b → (w5.alloc (.cells #[.int .i64 hg, .int .i64 st] 71)).heap[b]? = some o → w10.heap[b]? = some o := (fun {b o} hb ho => blk_kept (by first | exact ho | exact blk_drew ho | exact blk_drewN ho _) j2 (by have := HSG.out; omega)); have y5' := kk HSG.out.1 (blk_alloc K5.out (.cells #[.int .i64 hg, .int .i64 st] 71)); have y6' := kk HSG.out.2.1 (blk_alloc K6.out (.cells #[.int .i64 hg, .int .i64 st] 71)); have v51 := (blk_cell y5' 1).trans rfl; have v60 := (blk_cell y6' 0).trans rfl; have v61 := (blk_cell y6' 1).trans rfl; have v9g := j1.prog.2.2.2.2.2.2.2.2.2.1)
        | (go_at_call 49; refine (HLL.out _ j1).mono ?_; rintro e w11 ⟨rfl, l1, l2⟩; have y5'' := blk_kept y5' l2 (by have := HSG.out; omega); have y6'' := blk_kept y6' l2 (by have := HSG.out; omega); have u51 := (blk_cell y5'' 1).trans rfl; have u60 := (blk_cell y6'' 0).trans rfl; have u61 := (blk_cell y6'' 1).trans rfl; have u9g := l1.prog.2.2.2.2.2.2.2.2.2.1))
    go_wp2
    go_ret
    exact ⟨by simp, l1⟩
end
end Go.Proofs.YtdgljnidkhfgpaaDoor
