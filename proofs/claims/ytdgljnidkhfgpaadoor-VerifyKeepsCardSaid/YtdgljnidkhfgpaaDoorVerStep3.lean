/-
  The verifier's step, walked: tries.
-/
import Derived.Test.YtdgljnidkhfgpaaDoorVerStep0
namespace Go.Proofs.YtdgljnidkhfgpaaDoor
set_option linter.unusedVariables false
set_option linter.unusedSimpArgs false
open Go.RowKit Go.Proofs.YtdgljnidkhfgpaaDoorW.PrintWords Go.Proofs.YtdgljnidkhfgpaaDoorW.PrintLast Go.Proofs.YtdgljnidkhfgpaaDoorW.PrintMore
section
variable {w0 w : World} {g ga : Nat} {p : Pg} {d : Hd} {P : List Pl}
set_option maxHeartbeats 16000000 in
set_option maxRecDepth 100000 in
theorem step_k8y {n k : Nat} {xa sh st nd gr hg n1 st1 : Int} {Q R : List Pl} {lb : Bool} (i : ChkAt w0 w g ga p d P) (hn : n < P.length) (hnp : P.length = p.code.length) (hl : P.length ≤ 16384) (hxo : (rdInstrS p.code (n : Int)).f0 = (k : Int)) (hxa : (rdInstrS p.code (n : Int)).f1 = xa) (hs : P.getD n Pl.z = ⟨sh, st, true⟩) (hk1 : 1 ≤ k) (hk2 : k ≤ 33) (ht : TabAt w) (hlow : ¬ sh < nd) (hcl : p.consts.length ≤ 16384) (harg : argP p 8 xa = true) (hf : 0 ≤ sh ∧ sh ≤ 4096 ∧ 0 ≤ st ∧ st ≤ 4096)
    (hnd : needT k = nd) (hgr : growT k = gr) (hkd : argT k = 8) (hhg : sh + gr = hg) (hn1 : (n : Int) + 1 = n1) (hst : st < 4096) (hst1 : st + 1 = st1) (hJ : ∀ w9, ChkAt w0 w9 g ga p d P → Calls Tryd.prog 48 #[.pointer (some ⟨g, 0, none⟩), .int .i64 n, .int .i64 xa, .agg #[.int .i64 sh, .int .i64 st]] w9 fun e w' => e = .returned (.bool true) ∧ ChkAt w0 w' g ga p d Q ∧ Kept w9 w' (fun k => k = ga)) (hL : ∀ w9, ChkAt w0 w9 g ga p d Q → Calls Tryd.prog 49 #[.pointer (some ⟨g, 0, none⟩), .int .i64 n1, .agg #[.int .i64 sh, .int .i64 st1]] w9 fun e w' => e = .returned (.bool lb) ∧ ChkAt w0 w' g ga p d R ∧ Kept w9 w' (fun k => k = ga)) :
    Calls Tryd.prog 31 #[.pointer (some ⟨g, 0, none⟩), .int .i64 (n : Int)] w fun e w' => e = .returned (.bool lb) ∧ ChkAt w0 w' g ga p d R := by
  have HTA := Lib.hid (tab_all k (by omega))
  rw [hnd, hgr] at HTA
  have HW1 := Lib.hid (show wrap64 (sh + gr) = hg by rw [hhg]; have := HTA.out; exact wrap_small (by omega) (by omega))
  have HW2 := Lib.hid (show wrap64 ((n : Int) + 1) = n1 by rw [hn1]; exact wrap_small (by omega) (by omega))
  obtain ⟨-, c12⟩ := i.cells
  obtain ⟨-, -, -, -, -, -, -, -, -, -, -, c11⟩ := i.prog
  obtain ⟨q0, q1, q2⟩ := i.cell hn
  obtain ⟨ad, hA, r0, r1⟩ := atInstrS i.now.r11 (n : Int) (by omega) (by omega)
  rw [Int.toNat_natCast] at r0 r1
  rw [hA] at c11
  have lt1 := blk_lt i.hb
  have lt2 := blk_lt i.ha
  have bl := World.block_lt_of_cell? w _ r0
  rw [add_block] at bl
  have e1 := eq_true (show (0 : Int) ≤ (n : Int) by omega)
  have e2 : ((n : Int) < (P.length : Int)) = True := eq_true (by omega)
  have e3 := eq_true hn
  have e4 : ((n : Int) < (p.code.length : Int)) = True := eq_true (by omega)
  have e5 : (n < p.code.length) = True := eq_true (by omega)
  rw [hxo] at r0
  rw [hxa] at r1
  rw [hs] at q0 q1 q2
  simp only at q0 q1 q2
  have z1 := World.new_ne w _ c11
  have z2 := World.new_ne w _ c12
  have z3 := World.new_ne w _ q0
  have z4 := World.new_ne w _ q1
  have z5 := World.new_ne w _ q2
  have z6 := World.new_ne w _ r0
  have z7 := World.new_ne w _ r1
  have HT := Lib.hid ht
  have HI := Lib.hid i
  have HCL := Lib.hid hcl
  have HND := Lib.hid hnd
  have HGR := Lib.hid hgr
  have HKD := Lib.hid hkd
  have HARG := Lib.hid harg
  have HJJ := Lib.hid hJ
  have HLL := Lib.hid hL
  clear hJ hL
  have g0 : decide (st < 4096) = true := decide_eq_true hst
  have HW4 := Lib.hid (show wrap64 (st + 1) = st1 by rw [hst1]; exact wrap_small (by omega) (by omega))
  have x3 := HW4.out
  clear hst hst1
  clear hxo hxa hs hn hnp hl i ht hf hcl hnd hgr hkd hhg hn1 harg
  go_enter Tryd.func31, Tryd.ntmps31
  go_upto_region 1 with fail
  go_cut [5, 6] (fun v5 v6 wx => ∃ b5 b6 : Nat, v5 = .pointer (some ⟨b5, 0, none⟩) ∧ v6 = .pointer (some ⟨b6, 0, none⟩) ∧ Aside0 (b5 ≠ b6 ∧ w.heap.size ≤ b5 ∧ w.heap.size ≤ b6) ∧ Aside0 (wx.heap[b5]? = some (.cells #[.int .i64 (k : Int), .int .i64 xa] 52 (0, 0))) ∧ Aside0 (wx.heap[b6]? = some (.cells #[.int .i64 sh, .int .i64 st] 71 (0, 0))) ∧ Aside0 (Below w.heap.size w wx))
  case first =>
    go_region_held3 (fun w' => w'.cell? ⟨g, 11, none⟩ = some (.slice (some ad) p.code.length d.c11) ∧ w'.cell? ⟨g, 12, none⟩ = some (.slice (some ⟨ga, 0, none⟩) P.length P.length) ∧ w'.cell? (ad.add (n * 2)) = some (.int .i64 (k : Int)) ∧ w'.cell? ⟨(ad.add (n * 2)).block, (ad.add (n * 2)).off + 1, none⟩ = some (.int .i64 xa) ∧ w'.cell? ⟨ga, n * 3, none⟩ = some (.int .i64 sh) ∧ w'.cell? ⟨ga, n * 3 + 1, none⟩ = some (.int .i64 st)) (go_keep) (fail)
    all_goals
      go_wp2_with fail
      go_meet
      have T1 := two_new w #[.int .i64 (k : Int), .int .i64 xa] #[.int .i64 sh, .int .i64 st] 52 71
      have T2 := two_new w #[.int .i64 sh, .int .i64 st] #[.int .i64 (k : Int), .int .i64 xa] 71 52
      first
        | exact ⟨w.heap.size, w.heap.size + 1, rfl, rfl, ⟨by omega⟩, ⟨T1.1⟩, ⟨T1.2.1⟩, ⟨T1.2.2⟩⟩
        | exact ⟨w.heap.size + 1, w.heap.size, rfl, rfl, ⟨by omega⟩, ⟨T2.2.1⟩, ⟨T2.1⟩, ⟨T2.2.2⟩⟩
  case rest =>
    obtain ⟨b5, b6, rfl, rfl, hbb, h5, h6, hbel⟩ := hcut
    have c50 := (blk_cell h5.out 0).trans rfl
    have c51 := (blk_cell h5.out 1).trans rfl
    have c60 := (blk_cell h6.out 0).trans rfl
    have c61 := (blk_cell h6.out 1).trans rfl
    have c12' := (hbel.out.cell (p := ⟨g, 12, none⟩) lt1).trans c12
    have q2' := (hbel.out.cell (p := ⟨ga, n * 3 + 2, none⟩) lt2).trans q2
    clear z1 z2 z3 z4 z5 z6 z7 r0 r1 q0 q1 q2 c11 c12 hA bl e4 e5
    have d0 : decide ((k : Int) < 1) = false := decide_eq_false (by omega)
    have d1 : decide ((33 : Int) < (k : Int)) = false := decide_eq_false (by omega)
    have d2 : decide (k < 1) = false := decide_eq_false (by omega)
    have d3 : decide (33 < k) = false := decide_eq_false (by omega)
    have d4 : decide (k = 0) = false := decide_eq_false (by omega)
    have d5 : ¬ k = 0 := by omega
    obtain ⟨t0, t1, t2⟩ := (HT.out.below hbel.out (by omega)) k (by omega)
    rw [HND.out] at t0
    rw [HGR.out] at t1
    rw [HKD.out] at t2
    have u1 := eq_true (show (0 : Int) ≤ (k : Int) by omega)
    have u2 : ((k : Int) < 34) = True := eq_true (by omega)
    have u3 : (k < 34) = True := eq_true (by omega)
    have u4 : ¬ (0 : Nat) = b5 := by have := hbb.out; omega
    have u5 : ¬ (0 : Nat) = b6 := by have := hbb.out; omega
    have u6 : (0 : Nat) < wc.heap.size := by have := hbel.out.size; omega
    have u7 : ¬ (0 : Nat) = wc.heap.size := by omega
    have l5 := blk_lt h5.out
    have l6 := blk_lt h6.out
    have v0 : decide (sh < nd) = false := decide_eq_false hlow
    have H4 := Lib.hid ((HI.out.below hbel.out).below (below_alloc (Below.refl _ wc) (.cells #[.int .i64 nd, .int .i64 gr, .int .i64 8] 104)))
    clear hlow hk1 hk2
    go_wp2_with fail
    refine (arg_calls HCL.out H4.out).mono ?_
    rintro e w5 ⟨rfl, b5'⟩
    rw [HARG.out]
    have H5 := Lib.hid (H4.out.below b5')
    have k5 := blk_below (blk_alloc h5.out (.cells #[.int .i64 nd, .int .i64 gr, .int .i64 8] 104)) b5'
    have k6 := blk_below (blk_alloc h6.out (.cells #[.int .i64 nd, .int .i64 gr, .int .i64 8] 104)) b5'
    have k7 := blk_below (blk_new wc (.cells #[.int .i64 nd, .int .i64 gr, .int .i64 8] 104)) b5'
    have m50 := (blk_cell k5 0).trans rfl
    have m51 := (blk_cell k5 1).trans rfl
    have m60 := (blk_cell k6 0).trans rfl
    have m61 := (blk_cell k6 1).trans rfl
    have m70 := (blk_cell k7 0).trans rfl
    have m71 := (blk_cell k7 1).trans rfl
    have m72 := (blk_cell k7 2).trans rfl
    have s5 := blk_lt k5
    have s6 := blk_lt k6
    have s7 := blk_lt k7
    have s8 : ¬ b5 = w5.heap.size := by omega
    have s9 : ¬ b6 = w5.heap.size := by omega
    have s10 : ¬ wc.heap.size = w5.heap.size := by omega
    have s11 : ¬ w5.heap.size = b5 := by omega
    have s12 : ¬ w5.heap.size = b6 := by omega
    have s13 : ¬ w5.heap.size = wc.heap.size := by omega
    have K5 := Lib.hid k5
    have K6 := Lib.hid k6
    have HH9 := Lib.hid (H5.out.below (below_alloc (Below.refl _ w5) (.cells #[.int .i64 hg, .int .i64 st] 71)))
    have HSG := Lib.hid (show w.heap.size ≤ b5 ∧ w.heap.size ≤ b6 ∧ ga < w.heap.size from ⟨hbb.out.2.1, hbb.out.2.2, lt2⟩)
    have HSW := Lib.hid (show w.heap.size ≤ w5.heap.size by have := hbel.out.size; have := b5'.size; simp at this; omega)
    clear b5' k5 k6 k7 l5 l6 hbb t0 t1 t2 c50 c51 c60 c61 c12' q2' u4 u5 u6 u7 lt1 lt2
    have x1 := HW1.out
    have x2 := HW2.out
    go_wp2_with fail
    refine (HJJ.out _ HH9.out).mono ?_
    rintro e w10 ⟨rfl, j1, j2⟩
    have kk : ∀ {b : Nat} {o : Obj}, w.heap.size ≤ b → (w5.alloc (.cells #[.int .i64 hg, .int .i64 st] 71)).heap[b]? = some o → w10.heap[b]? = some o := fun {b o} hb ho => blk_kept ho j2 (by have := HSG.out; omega)
    have y5 := kk HSG.out.1 (blk_alloc K5.out (.cells #[.int .i64 hg, .int .i64 st] 71))
    have y6 := kk HSG.out.2.1 (blk_alloc K6.out (.cells #[.int .i64 hg, .int .i64 st] 71))
    have y9 := kk HSW.out (blk_new w5 (.cells #[.int .i64 hg, .int .i64 st] 71))
    have v50 := (blk_cell y5 0).trans rfl
    have v51 := (blk_cell y5 1).trans rfl
    have v60 := (blk_cell y6 0).trans rfl
    have v61 := (blk_cell y6 1).trans rfl
    have v90 := (blk_cell y9 0).trans rfl
    have v91 := (blk_cell y9 1).trans rfl
    have J1 := Lib.hid j1
    clear j1 j2 y5 y6 y9 kk
    go_wp2_with fail
    refine (HLL.out _ J1.out).mono ?_
    rintro e w11 ⟨rfl, l1, -⟩
    have L1 := Lib.hid l1
    clear l1
    go_wp2
    go_ret
    exact ⟨by simp, L1.out⟩
set_option maxHeartbeats 16000000 in
set_option maxRecDepth 100000 in
theorem step_k8n {n k : Nat} {xa sh st nd gr hg n1 : Int} {Q R : List Pl} {lb : Bool} (i : ChkAt w0 w g ga p d P) (hn : n < P.length) (hnp : P.length = p.code.length) (hl : P.length ≤ 16384) (hxo : (rdInstrS p.code (n : Int)).f0 = (k : Int)) (hxa : (rdInstrS p.code (n : Int)).f1 = xa) (hs : P.getD n Pl.z = ⟨sh, st, true⟩) (hk1 : 1 ≤ k) (hk2 : k ≤ 33) (ht : TabAt w) (hlow : ¬ sh < nd) (hcl : p.consts.length ≤ 16384) (harg : argP p 8 xa = true) (hf : 0 ≤ sh ∧ sh ≤ 4096 ∧ 0 ≤ st ∧ st ≤ 4096)
    (hnd : needT k = nd) (hgr : growT k = gr) (hkd : argT k = 8) (hhg : sh + gr = hg) (hn1 : (n : Int) + 1 = n1) (hst : st < 4096) (hJ : ∀ w9, ChkAt w0 w9 g ga p d P → Calls Tryd.prog 48 #[.pointer (some ⟨g, 0, none⟩), .int .i64 n, .int .i64 xa, .agg #[.int .i64 sh, .int .i64 st]] w9 fun e w' => e = .returned (.bool false) ∧ ChkAt w0 w' g ga p d Q ∧ Kept w9 w' (fun k => k = ga)) :
    Calls Tryd.prog 31 #[.pointer (some ⟨g, 0, none⟩), .int .i64 (n : Int)] w fun e w' => e = .returned (.bool false) ∧ ChkAt w0 w' g ga p d Q := by
  have HTA := Lib.hid (tab_all k (by omega))
  rw [hnd, hgr] at HTA
  have HW1 := Lib.hid (show wrap64 (sh + gr) = hg by rw [hhg]; have := HTA.out; exact wrap_small (by omega) (by omega))
  have HW2 := Lib.hid (show wrap64 ((n : Int) + 1) = n1 by rw [hn1]; exact wrap_small (by omega) (by omega))
  obtain ⟨-, c12⟩ := i.cells
  obtain ⟨-, -, -, -, -, -, -, -, -, -, -, c11⟩ := i.prog
  obtain ⟨q0, q1, q2⟩ := i.cell hn
  obtain ⟨ad, hA, r0, r1⟩ := atInstrS i.now.r11 (n : Int) (by omega) (by omega)
  rw [Int.toNat_natCast] at r0 r1
  rw [hA] at c11
  have lt1 := blk_lt i.hb
  have lt2 := blk_lt i.ha
  have bl := World.block_lt_of_cell? w _ r0
  rw [add_block] at bl
  have e1 := eq_true (show (0 : Int) ≤ (n : Int) by omega)
  have e2 : ((n : Int) < (P.length : Int)) = True := eq_true (by omega)
  have e3 := eq_true hn
  have e4 : ((n : Int) < (p.code.length : Int)) = True := eq_true (by omega)
  have e5 : (n < p.code.length) = True := eq_true (by omega)
  rw [hxo] at r0
  rw [hxa] at r1
  rw [hs] at q0 q1 q2
  simp only at q0 q1 q2
  have z1 := World.new_ne w _ c11
  have z2 := World.new_ne w _ c12
  have z3 := World.new_ne w _ q0
  have z4 := World.new_ne w _ q1
  have z5 := World.new_ne w _ q2
  have z6 := World.new_ne w _ r0
  have z7 := World.new_ne w _ r1
  have HT := Lib.hid ht
  have HI := Lib.hid i
  have HCL := Lib.hid hcl
  have HND := Lib.hid hnd
  have HGR := Lib.hid hgr
  have HKD := Lib.hid hkd
  have HARG := Lib.hid harg
  have HJJ := Lib.hid hJ
  clear hJ
  have g0 : decide (st < 4096) = true := decide_eq_true hst
  clear hst
  clear hxo hxa hs hn hnp hl i ht hf hcl hnd hgr hkd hhg hn1 harg
  go_enter Tryd.func31, Tryd.ntmps31
  go_upto_region 1 with fail
  go_cut [5, 6] (fun v5 v6 wx => ∃ b5 b6 : Nat, v5 = .pointer (some ⟨b5, 0, none⟩) ∧ v6 = .pointer (some ⟨b6, 0, none⟩) ∧ Aside0 (b5 ≠ b6 ∧ w.heap.size ≤ b5 ∧ w.heap.size ≤ b6) ∧ Aside0 (wx.heap[b5]? = some (.cells #[.int .i64 (k : Int), .int .i64 xa] 52 (0, 0))) ∧ Aside0 (wx.heap[b6]? = some (.cells #[.int .i64 sh, .int .i64 st] 71 (0, 0))) ∧ Aside0 (Below w.heap.size w wx))
  case first =>
    go_region_held3 (fun w' => w'.cell? ⟨g, 11, none⟩ = some (.slice (some ad) p.code.length d.c11) ∧ w'.cell? ⟨g, 12, none⟩ = some (.slice (some ⟨ga, 0, none⟩) P.length P.length) ∧ w'.cell? (ad.add (n * 2)) = some (.int .i64 (k : Int)) ∧ w'.cell? ⟨(ad.add (n * 2)).block, (ad.add (n * 2)).off + 1, none⟩ = some (.int .i64 xa) ∧ w'.cell? ⟨ga, n * 3, none⟩ = some (.int .i64 sh) ∧ w'.cell? ⟨ga, n * 3 + 1, none⟩ = some (.int .i64 st)) (go_keep) (fail)
    all_goals
      go_wp2_with fail
      go_meet
      have T1 := two_new w #[.int .i64 (k : Int), .int .i64 xa] #[.int .i64 sh, .int .i64 st] 52 71
      have T2 := two_new w #[.int .i64 sh, .int .i64 st] #[.int .i64 (k : Int), .int .i64 xa] 71 52
      first
        | exact ⟨w.heap.size, w.heap.size + 1, rfl, rfl, ⟨by omega⟩, ⟨T1.1⟩, ⟨T1.2.1⟩, ⟨T1.2.2⟩⟩
        | exact ⟨w.heap.size + 1, w.heap.size, rfl, rfl, ⟨by omega⟩, ⟨T2.2.1⟩, ⟨T2.1⟩, ⟨T2.2.2⟩⟩
  case rest =>
    obtain ⟨b5, b6, rfl, rfl, hbb, h5, h6, hbel⟩ := hcut
    have c50 := (blk_cell h5.out 0).trans rfl
    have c51 := (blk_cell h5.out 1).trans rfl
    have c60 := (blk_cell h6.out 0).trans rfl
    have c61 := (blk_cell h6.out 1).trans rfl
    have c12' := (hbel.out.cell (p := ⟨g, 12, none⟩) lt1).trans c12
    have q2' := (hbel.out.cell (p := ⟨ga, n * 3 + 2, none⟩) lt2).trans q2
    clear z1 z2 z3 z4 z5 z6 z7 r0 r1 q0 q1 q2 c11 c12 hA bl e4 e5
    have d0 : decide ((k : Int) < 1) = false := decide_eq_false (by omega)
    have d1 : decide ((33 : Int) < (k : Int)) = false := decide_eq_false (by omega)
    have d2 : decide (k < 1) = false := decide_eq_false (by omega)
    have d3 : decide (33 < k) = false := decide_eq_false (by omega)
    have d4 : decide (k = 0) = false := decide_eq_false (by omega)
    have d5 : ¬ k = 0 := by omega
    obtain ⟨t0, t1, t2⟩ := (HT.out.below hbel.out (by omega)) k (by omega)
    rw [HND.out] at t0
    rw [HGR.out] at t1
    rw [HKD.out] at t2
    have u1 := eq_true (show (0 : Int) ≤ (k : Int) by omega)
    have u2 : ((k : Int) < 34) = True := eq_true (by omega)
    have u3 : (k < 34) = True := eq_true (by omega)
    have u4 : ¬ (0 : Nat) = b5 := by have := hbb.out; omega
    have u5 : ¬ (0 : Nat) = b6 := by have := hbb.out; omega
    have u6 : (0 : Nat) < wc.heap.size := by have := hbel.out.size; omega
    have u7 : ¬ (0 : Nat) = wc.heap.size := by omega
    have l5 := blk_lt h5.out
    have l6 := blk_lt h6.out
    have v0 : decide (sh < nd) = false := decide_eq_false hlow
    have H4 := Lib.hid ((HI.out.below hbel.out).below (below_alloc (Below.refl _ wc) (.cells #[.int .i64 nd, .int .i64 gr, .int .i64 8] 104)))
    clear hlow hk1 hk2
    go_wp2_with fail
    refine (arg_calls HCL.out H4.out).mono ?_
    rintro e w5 ⟨rfl, b5'⟩
    rw [HARG.out]
    have H5 := Lib.hid (H4.out.below b5')
    have k5 := blk_below (blk_alloc h5.out (.cells #[.int .i64 nd, .int .i64 gr, .int .i64 8] 104)) b5'
    have k6 := blk_below (blk_alloc h6.out (.cells #[.int .i64 nd, .int .i64 gr, .int .i64 8] 104)) b5'
    have k7 := blk_below (blk_new wc (.cells #[.int .i64 nd, .int .i64 gr, .int .i64 8] 104)) b5'
    have m50 := (blk_cell k5 0).trans rfl
    have m51 := (blk_cell k5 1).trans rfl
    have m60 := (blk_cell k6 0).trans rfl
    have m61 := (blk_cell k6 1).trans rfl
    have m70 := (blk_cell k7 0).trans rfl
    have m71 := (blk_cell k7 1).trans rfl
    have m72 := (blk_cell k7 2).trans rfl
    have s5 := blk_lt k5
    have s6 := blk_lt k6
    have s7 := blk_lt k7
    have s8 : ¬ b5 = w5.heap.size := by omega
    have s9 : ¬ b6 = w5.heap.size := by omega
    have s10 : ¬ wc.heap.size = w5.heap.size := by omega
    have s11 : ¬ w5.heap.size = b5 := by omega
    have s12 : ¬ w5.heap.size = b6 := by omega
    have s13 : ¬ w5.heap.size = wc.heap.size := by omega
    have K5 := Lib.hid k5
    have K6 := Lib.hid k6
    have HH9 := Lib.hid (H5.out.below (below_alloc (Below.refl _ w5) (.cells #[.int .i64 hg, .int .i64 st] 71)))
    have HSG := Lib.hid (show w.heap.size ≤ b5 ∧ w.heap.size ≤ b6 ∧ ga < w.heap.size from ⟨hbb.out.2.1, hbb.out.2.2, lt2⟩)
    have HSW := Lib.hid (show w.heap.size ≤ w5.heap.size by have := hbel.out.size; have := b5'.size; simp at this; omega)
    clear b5' k5 k6 k7 l5 l6 hbb t0 t1 t2 c50 c51 c60 c61 c12' q2' u4 u5 u6 u7 lt1 lt2
    have x1 := HW1.out
    have x2 := HW2.out
    go_wp2_with fail
    refine (HJJ.out _ HH9.out).mono ?_
    rintro e w10 ⟨rfl, j1, -⟩
    have J1 := Lib.hid j1
    clear j1
    go_wp2
    go_ret
    exact ⟨by simp, J1.out⟩
set_option maxHeartbeats 16000000 in
set_option maxRecDepth 100000 in
theorem step_k8x {n k : Nat} {xa sh st nd gr hg n1 : Int} {Q R : List Pl} {lb : Bool} (i : ChkAt w0 w g ga p d P) (hn : n < P.length) (hnp : P.length = p.code.length) (hl : P.length ≤ 16384) (hxo : (rdInstrS p.code (n : Int)).f0 = (k : Int)) (hxa : (rdInstrS p.code (n : Int)).f1 = xa) (hs : P.getD n Pl.z = ⟨sh, st, true⟩) (hk1 : 1 ≤ k) (hk2 : k ≤ 33) (ht : TabAt w) (hlow : ¬ sh < nd) (hcl : p.consts.length ≤ 16384) (harg : argP p 8 xa = true) (hf : 0 ≤ sh ∧ sh ≤ 4096 ∧ 0 ≤ st ∧ st ≤ 4096)
    (hnd : needT k = nd) (hgr : growT k = gr) (hkd : argT k = 8) (hhg : sh + gr = hg) (hn1 : (n : Int) + 1 = n1) (hst : ¬ st < 4096) :
    Calls Tryd.prog 31 #[.pointer (some ⟨g, 0, none⟩), .int .i64 (n : Int)] w fun e w' => e = .returned (.bool false) ∧ ChkAt w0 w' g ga p d P := by
  have HTA := Lib.hid (tab_all k (by omega))
  rw [hnd, hgr] at HTA
  have HW1 := Lib.hid (show wrap64 (sh + gr) = hg by rw [hhg]; have := HTA.out; exact wrap_small (by omega) (by omega))
  have HW2 := Lib.hid (show wrap64 ((n : Int) + 1) = n1 by rw [hn1]; exact wrap_small (by omega) (by omega))
  obtain ⟨-, c12⟩ := i.cells
  obtain ⟨-, -, -, -, -, -, -, -, -, -, -, c11⟩ := i.prog
  obtain ⟨q0, q1, q2⟩ := i.cell hn
  obtain ⟨ad, hA, r0, r1⟩ := atInstrS i.now.r11 (n : Int) (by omega) (by omega)
  rw [Int.toNat_natCast] at r0 r1
  rw [hA] at c11
  have lt1 := blk_lt i.hb
  have lt2 := blk_lt i.ha
  have bl := World.block_lt_of_cell? w _ r0
  rw [add_block] at bl
  have e1 := eq_true (show (0 : Int) ≤ (n : Int) by omega)
  have e2 : ((n : Int) < (P.length : Int)) = True := eq_true (by omega)
  have e3 := eq_true hn
  have e4 : ((n : Int) < (p.code.length : Int)) = True := eq_true (by omega)
  have e5 : (n < p.code.length) = True := eq_true (by omega)
  rw [hxo] at r0
  rw [hxa] at r1
  rw [hs] at q0 q1 q2
  simp only at q0 q1 q2
  have z1 := World.new_ne w _ c11
  have z2 := World.new_ne w _ c12
  have z3 := World.new_ne w _ q0
  have z4 := World.new_ne w _ q1
  have z5 := World.new_ne w _ q2
  have z6 := World.new_ne w _ r0
  have z7 := World.new_ne w _ r1
  have HT := Lib.hid ht
  have HI := Lib.hid i
  have HCL := Lib.hid hcl
  have HND := Lib.hid hnd
  have HGR := Lib.hid hgr
  have HKD := Lib.hid hkd
  have HARG := Lib.hid harg
  have g0 : decide (st < 4096) = false := decide_eq_false hst
  clear hst
  clear hxo hxa hs hn hnp hl i ht hf hcl hnd hgr hkd hhg hn1 harg
  go_enter Tryd.func31, Tryd.ntmps31
  go_upto_region 1 with fail
  go_cut [5, 6] (fun v5 v6 wx => ∃ b5 b6 : Nat, v5 = .pointer (some ⟨b5, 0, none⟩) ∧ v6 = .pointer (some ⟨b6, 0, none⟩) ∧ Aside0 (b5 ≠ b6 ∧ w.heap.size ≤ b5 ∧ w.heap.size ≤ b6) ∧ Aside0 (wx.heap[b5]? = some (.cells #[.int .i64 (k : Int), .int .i64 xa] 52 (0, 0))) ∧ Aside0 (wx.heap[b6]? = some (.cells #[.int .i64 sh, .int .i64 st] 71 (0, 0))) ∧ Aside0 (Below w.heap.size w wx))
  case first =>
    go_region_held3 (fun w' => w'.cell? ⟨g, 11, none⟩ = some (.slice (some ad) p.code.length d.c11) ∧ w'.cell? ⟨g, 12, none⟩ = some (.slice (some ⟨ga, 0, none⟩) P.length P.length) ∧ w'.cell? (ad.add (n * 2)) = some (.int .i64 (k : Int)) ∧ w'.cell? ⟨(ad.add (n * 2)).block, (ad.add (n * 2)).off + 1, none⟩ = some (.int .i64 xa) ∧ w'.cell? ⟨ga, n * 3, none⟩ = some (.int .i64 sh) ∧ w'.cell? ⟨ga, n * 3 + 1, none⟩ = some (.int .i64 st)) (go_keep) (fail)
    all_goals
      go_wp2_with fail
      go_meet
      have T1 := two_new w #[.int .i64 (k : Int), .int .i64 xa] #[.int .i64 sh, .int .i64 st] 52 71
      have T2 := two_new w #[.int .i64 sh, .int .i64 st] #[.int .i64 (k : Int), .int .i64 xa] 71 52
      first
        | exact ⟨w.heap.size, w.heap.size + 1, rfl, rfl, ⟨by omega⟩, ⟨T1.1⟩, ⟨T1.2.1⟩, ⟨T1.2.2⟩⟩
        | exact ⟨w.heap.size + 1, w.heap.size, rfl, rfl, ⟨by omega⟩, ⟨T2.2.1⟩, ⟨T2.1⟩, ⟨T2.2.2⟩⟩
  case rest =>
    obtain ⟨b5, b6, rfl, rfl, hbb, h5, h6, hbel⟩ := hcut
    have c50 := (blk_cell h5.out 0).trans rfl
    have c51 := (blk_cell h5.out 1).trans rfl
    have c60 := (blk_cell h6.out 0).trans rfl
    have c61 := (blk_cell h6.out 1).trans rfl
    have c12' := (hbel.out.cell (p := ⟨g, 12, none⟩) lt1).trans c12
    have q2' := (hbel.out.cell (p := ⟨ga, n * 3 + 2, none⟩) lt2).trans q2
    clear z1 z2 z3 z4 z5 z6 z7 r0 r1 q0 q1 q2 c11 c12 hA bl e4 e5
    have d0 : decide ((k : Int) < 1) = false := decide_eq_false (by omega)
    have d1 : decide ((33 : Int) < (k : Int)) = false := decide_eq_false (by omega)
    have d2 : decide (k < 1) = false := decide_eq_false (by omega)
    have d3 : decide (33 < k) = false := decide_eq_false (by omega)
    have d4 : decide (k = 0) = false := decide_eq_false (by omega)
    have d5 : ¬ k = 0 := by omega
    obtain ⟨t0, t1, t2⟩ := (HT.out.below hbel.out (by omega)) k (by omega)
    rw [HND.out] at t0
    rw [HGR.out] at t1
    rw [HKD.out] at t2
    have u1 := eq_true (show (0 : Int) ≤ (k : Int) by omega)
    have u2 : ((k : Int) < 34) = True := eq_true (by omega)
    have u3 : (k < 34) = True := eq_true (by omega)
    have u4 : ¬ (0 : Nat) = b5 := by have := hbb.out; omega
    have u5 : ¬ (0 : Nat) = b6 := by have := hbb.out; omega
    have u6 : (0 : Nat) < wc.heap.size := by have := hbel.out.size; omega
    have u7 : ¬ (0 : Nat) = wc.heap.size := by omega
    have l5 := blk_lt h5.out
    have l6 := blk_lt h6.out
    have v0 : decide (sh < nd) = false := decide_eq_false hlow
    have H4 := Lib.hid ((HI.out.below hbel.out).below (below_alloc (Below.refl _ wc) (.cells #[.int .i64 nd, .int .i64 gr, .int .i64 8] 104)))
    clear hlow hk1 hk2
    go_wp2_with fail
    refine (arg_calls HCL.out H4.out).mono ?_
    rintro e w5 ⟨rfl, b5'⟩
    rw [HARG.out]
    have H5 := Lib.hid (H4.out.below b5')
    have k5 := blk_below (blk_alloc h5.out (.cells #[.int .i64 nd, .int .i64 gr, .int .i64 8] 104)) b5'
    have k6 := blk_below (blk_alloc h6.out (.cells #[.int .i64 nd, .int .i64 gr, .int .i64 8] 104)) b5'
    have k7 := blk_below (blk_new wc (.cells #[.int .i64 nd, .int .i64 gr, .int .i64 8] 104)) b5'
    have m50 := (blk_cell k5 0).trans rfl
    have m51 := (blk_cell k5 1).trans rfl
    have m60 := (blk_cell k6 0).trans rfl
    have m61 := (blk_cell k6 1).trans rfl
    have m70 := (blk_cell k7 0).trans rfl
    have m71 := (blk_cell k7 1).trans rfl
    have m72 := (blk_cell k7 2).trans rfl
    have s5 := blk_lt k5
    have s6 := blk_lt k6
    have s7 := blk_lt k7
    have s8 : ¬ b5 = w5.heap.size := by omega
    have s9 : ¬ b6 = w5.heap.size := by omega
    have s10 : ¬ wc.heap.size = w5.heap.size := by omega
    have s11 : ¬ w5.heap.size = b5 := by omega
    have s12 : ¬ w5.heap.size = b6 := by omega
    have s13 : ¬ w5.heap.size = wc.heap.size := by omega
    have K5 := Lib.hid k5
    have K6 := Lib.hid k6
    have HH9 := Lib.hid (H5.out.below (below_alloc (Below.refl _ w5) (.cells #[.int .i64 hg, .int .i64 st] 71)))
    have HSG := Lib.hid (show w.heap.size ≤ b5 ∧ w.heap.size ≤ b6 ∧ ga < w.heap.size from ⟨hbb.out.2.1, hbb.out.2.2, lt2⟩)
    have HSW := Lib.hid (show w.heap.size ≤ w5.heap.size by have := hbel.out.size; have := b5'.size; simp at this; omega)
    clear b5' k5 k6 k7 l5 l6 hbb t0 t1 t2 c50 c51 c60 c61 c12' q2' u4 u5 u6 u7 lt1 lt2
    have x1 := HW1.out
    have x2 := HW2.out
    go_wp2
    go_ret
    exact ⟨by simp, HH9.out⟩
end
end Go.Proofs.YtdgljnidkhfgpaaDoor
