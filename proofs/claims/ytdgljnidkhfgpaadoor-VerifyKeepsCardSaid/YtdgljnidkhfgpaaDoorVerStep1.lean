/-
  The verifier's step, walked: an instruction that is none, or that is not led to.
-/
import Derived.Test.YtdgljnidkhfgpaaDoorVerStep0
namespace Go.Proofs.YtdgljnidkhfgpaaDoor
set_option linter.unusedVariables false
set_option linter.unusedSimpArgs false
open Go.RowKit Go.Proofs.YtdgljnidkhfgpaaDoorW.PrintWords Go.Proofs.YtdgljnidkhfgpaaDoorW.PrintLast Go.Proofs.YtdgljnidkhfgpaaDoorW.PrintMore
section
variable {w0 w : World} {g ga : Nat} {p : Pg} {d : Hd} {P : List Pl}
set_option maxHeartbeats 16000000 in
set_option maxRecDepth 100000 in
theorem step_unknown {n : Nat} {xo xa sh st : Int} (i : ChkAt w0 w g ga p d P) (hn : n < P.length) (hnp : P.length = p.code.length) (hl : P.length ≤ 16384) (hxo : (rdInstrS p.code (n : Int)).f0 = xo) (hxa : (rdInstrS p.code (n : Int)).f1 = xa) (hs : P.getD n Pl.z = ⟨sh, st, false⟩) :
    Calls Tryd.prog 31 #[.pointer (some ⟨g, 0, none⟩), .int .i64 (n : Int)] w fun e w' => e = .returned (.bool false) ∧ Below w.heap.size w w' := by
  obtain ⟨-, c12⟩ := i.cells
  obtain ⟨-, -, -, -, -, -, -, -, -, -, -, c11⟩ := i.prog
  obtain ⟨q0, q1, q2⟩ := i.cell hn
  obtain ⟨ad, hA, r0, r1⟩ := atInstrS i.now.r11 (n : Int) (by omega) (by omega)
  rw [Int.toNat_natCast] at r0 r1
  rw [hA] at c11
  have lt1 := blk_lt i.hb
  have lt2 := blk_lt i.ha
  have bl := World.block_lt_of_cell? w _ r0
  rw [add_block] at bl
  have e1 := eq_true (show (0 : Int) ≤ (n : Int) by omega)
  have e2 : ((n : Int) < (P.length : Int)) = True := eq_true (by omega)
  have e3 := eq_true hn
  have e4 : ((n : Int) < (p.code.length : Int)) = True := eq_true (by omega)
  have e5 : (n < p.code.length) = True := eq_true (by omega)
  rw [hxo] at r0
  rw [hxa] at r1
  rw [hs] at q0 q1 q2
  simp only at q0 q1 q2
  have z1 := World.new_ne w _ c11
  have z2 := World.new_ne w _ c12
  have z3 := World.new_ne w _ q0
  have z4 := World.new_ne w _ q1
  have z5 := World.new_ne w _ q2
  have z6 := World.new_ne w _ r0
  have z7 := World.new_ne w _ r1
  clear hxo hxa hs hn hnp hl i
  go_enter Tryd.func31, Tryd.ntmps31
  go_upto_region 1 with fail
  go_cut [5, 6] (fun v5 v6 wx => ∃ b5 b6 : Nat, v5 = .pointer (some ⟨b5, 0, none⟩) ∧ v6 = .pointer (some ⟨b6, 0, none⟩) ∧ Aside0 (b5 ≠ b6 ∧ w.heap.size ≤ b5 ∧ w.heap.size ≤ b6) ∧ Aside0 (wx.heap[b5]? = some (.cells #[.int .i64 xo, .int .i64 xa] 52 (0, 0))) ∧ Aside0 (wx.heap[b6]? = some (.cells #[.int .i64 sh, .int .i64 st] 71 (0, 0))) ∧ Aside0 (Below w.heap.size w wx))
  case first =>
    go_region_held3 (fun w' => w'.cell? ⟨g, 11, none⟩ = some (.slice (some ad) p.code.length d.c11) ∧ w'.cell? ⟨g, 12, none⟩ = some (.slice (some ⟨ga, 0, none⟩) P.length P.length) ∧ w'.cell? (ad.add (n * 2)) = some (.int .i64 xo) ∧ w'.cell? ⟨(ad.add (n * 2)).block, (ad.add (n * 2)).off + 1, none⟩ = some (.int .i64 xa) ∧ w'.cell? ⟨ga, n * 3, none⟩ = some (.int .i64 sh) ∧ w'.cell? ⟨ga, n * 3 + 1, none⟩ = some (.int .i64 st)) (go_keep) (fail)
    all_goals
      go_wp2_with fail
      go_meet
      have T1 := two_new w #[.int .i64 xo, .int .i64 xa] #[.int .i64 sh, .int .i64 st] 52 71
      have T2 := two_new w #[.int .i64 sh, .int .i64 st] #[.int .i64 xo, .int .i64 xa] 71 52
      first
        | exact ⟨w.heap.size, w.heap.size + 1, rfl, rfl, ⟨by omega⟩, ⟨T1.1⟩, ⟨T1.2.1⟩, ⟨T1.2.2⟩⟩
        | exact ⟨w.heap.size + 1, w.heap.size, rfl, rfl, ⟨by omega⟩, ⟨T2.2.1⟩, ⟨T2.1⟩, ⟨T2.2.2⟩⟩
  case rest =>
    obtain ⟨b5, b6, rfl, rfl, hbb, h5, h6, hbel⟩ := hcut
    have c50 := (blk_cell h5.out 0).trans rfl
    have c51 := (blk_cell h5.out 1).trans rfl
    have c60 := (blk_cell h6.out 0).trans rfl
    have c61 := (blk_cell h6.out 1).trans rfl
    have c12' := (hbel.out.cell (p := ⟨g, 12, none⟩) lt1).trans c12
    have q2' := (hbel.out.cell (p := ⟨ga, n * 3 + 2, none⟩) lt2).trans q2
    clear z1 z2 z3 z4 z5 z6 z7 r0 r1 q0 q1 q2 c11 c12 hA bl e4 e5
    go_wp2
    go_ret
    exact ⟨by simp, hbel.out⟩
set_option maxHeartbeats 16000000 in
set_option maxRecDepth 100000 in
theorem step_small {n : Nat} {xo xa sh st : Int} (i : ChkAt w0 w g ga p d P) (hn : n < P.length) (hnp : P.length = p.code.length) (hl : P.length ≤ 16384) (hxo : (rdInstrS p.code (n : Int)).f0 = xo) (hxa : (rdInstrS p.code (n : Int)).f1 = xa) (hs : P.getD n Pl.z = ⟨sh, st, true⟩) (ho : xo < 1) :
    Calls Tryd.prog 31 #[.pointer (some ⟨g, 0, none⟩), .int .i64 (n : Int)] w fun e w' => e = .returned (.bool false) ∧ Below w.heap.size w w' := by
  obtain ⟨-, c12⟩ := i.cells
  obtain ⟨-, -, -, -, -, -, -, -, -, -, -, c11⟩ := i.prog
  obtain ⟨q0, q1, q2⟩ := i.cell hn
  obtain ⟨ad, hA, r0, r1⟩ := atInstrS i.now.r11 (n : Int) (by omega) (by omega)
  rw [Int.toNat_natCast] at r0 r1
  rw [hA] at c11
  have lt1 := blk_lt i.hb
  have lt2 := blk_lt i.ha
  have bl := World.block_lt_of_cell? w _ r0
  rw [add_block] at bl
  have e1 := eq_true (show (0 : Int) ≤ (n : Int) by omega)
  have e2 : ((n : Int) < (P.length : Int)) = True := eq_true (by omega)
  have e3 := eq_true hn
  have e4 : ((n : Int) < (p.code.length : Int)) = True := eq_true (by omega)
  have e5 : (n < p.code.length) = True := eq_true (by omega)
  rw [hxo] at r0
  rw [hxa] at r1
  rw [hs] at q0 q1 q2
  simp only at q0 q1 q2
  have z1 := World.new_ne w _ c11
  have z2 := World.new_ne w _ c12
  have z3 := World.new_ne w _ q0
  have z4 := World.new_ne w _ q1
  have z5 := World.new_ne w _ q2
  have z6 := World.new_ne w _ r0
  have z7 := World.new_ne w _ r1
  clear hxo hxa hs hn hnp hl i
  go_enter Tryd.func31, Tryd.ntmps31
  go_upto_region 1 with fail
  go_cut [5, 6] (fun v5 v6 wx => ∃ b5 b6 : Nat, v5 = .pointer (some ⟨b5, 0, none⟩) ∧ v6 = .pointer (some ⟨b6, 0, none⟩) ∧ Aside0 (b5 ≠ b6 ∧ w.heap.size ≤ b5 ∧ w.heap.size ≤ b6) ∧ Aside0 (wx.heap[b5]? = some (.cells #[.int .i64 xo, .int .i64 xa] 52 (0, 0))) ∧ Aside0 (wx.heap[b6]? = some (.cells #[.int .i64 sh, .int .i64 st] 71 (0, 0))) ∧ Aside0 (Below w.heap.size w wx))
  case first =>
    go_region_held3 (fun w' => w'.cell? ⟨g, 11, none⟩ = some (.slice (some ad) p.code.length d.c11) ∧ w'.cell? ⟨g, 12, none⟩ = some (.slice (some ⟨ga, 0, none⟩) P.length P.length) ∧ w'.cell? (ad.add (n * 2)) = some (.int .i64 xo) ∧ w'.cell? ⟨(ad.add (n * 2)).block, (ad.add (n * 2)).off + 1, none⟩ = some (.int .i64 xa) ∧ w'.cell? ⟨ga, n * 3, none⟩ = some (.int .i64 sh) ∧ w'.cell? ⟨ga, n * 3 + 1, none⟩ = some (.int .i64 st)) (go_keep) (fail)
    all_goals
      go_wp2_with fail
      go_meet
      have T1 := two_new w #[.int .i64 xo, .int .i64 xa] #[.int .i64 sh, .int .i64 st] 52 71
      have T2 := two_new w #[.int .i64 sh, .int .i64 st] #[.int .i64 xo, .int .i64 xa] 71 52
      first
        | exact ⟨w.heap.size, w.heap.size + 1, rfl, rfl, ⟨by omega⟩, ⟨T1.1⟩, ⟨T1.2.1⟩, ⟨T1.2.2⟩⟩
        | exact ⟨w.heap.size + 1, w.heap.size, rfl, rfl, ⟨by omega⟩, ⟨T2.2.1⟩, ⟨T2.1⟩, ⟨T2.2.2⟩⟩
  case rest =>
    obtain ⟨b5, b6, rfl, rfl, hbb, h5, h6, hbel⟩ := hcut
    have c50 := (blk_cell h5.out 0).trans rfl
    have c51 := (blk_cell h5.out 1).trans rfl
    have c60 := (blk_cell h6.out 0).trans rfl
    have c61 := (blk_cell h6.out 1).trans rfl
    have c12' := (hbel.out.cell (p := ⟨g, 12, none⟩) lt1).trans c12
    have q2' := (hbel.out.cell (p := ⟨ga, n * 3 + 2, none⟩) lt2).trans q2
    clear z1 z2 z3 z4 z5 z6 z7 r0 r1 q0 q1 q2 c11 c12 hA bl e4 e5
    have d0 : decide (xo < 1) = true := decide_eq_true ho
    clear ho
    go_wp2
    go_ret
    exact ⟨by simp, hbel.out⟩
set_option maxHeartbeats 16000000 in
set_option maxRecDepth 100000 in
theorem step_great {n : Nat} {xo xa sh st : Int} (i : ChkAt w0 w g ga p d P) (hn : n < P.length) (hnp : P.length = p.code.length) (hl : P.length ≤ 16384) (hxo : (rdInstrS p.code (n : Int)).f0 = xo) (hxa : (rdInstrS p.code (n : Int)).f1 = xa) (hs : P.getD n Pl.z = ⟨sh, st, true⟩) (ho : 33 < xo) :
    Calls Tryd.prog 31 #[.pointer (some ⟨g, 0, none⟩), .int .i64 (n : Int)] w fun e w' => e = .returned (.bool false) ∧ Below w.heap.size w w' := by
  obtain ⟨-, c12⟩ := i.cells
  obtain ⟨-, -, -, -, -, -, -, -, -, -, -, c11⟩ := i.prog
  obtain ⟨q0, q1, q2⟩ := i.cell hn
  obtain ⟨ad, hA, r0, r1⟩ := atInstrS i.now.r11 (n : Int) (by omega) (by omega)
  rw [Int.toNat_natCast] at r0 r1
  rw [hA] at c11
  have lt1 := blk_lt i.hb
  have lt2 := blk_lt i.ha
  have bl := World.block_lt_of_cell? w _ r0
  rw [add_block] at bl
  have e1 := eq_true (show (0 : Int) ≤ (n : Int) by omega)
  have e2 : ((n : Int) < (P.length : Int)) = True := eq_true (by omega)
  have e3 := eq_true hn
  have e4 : ((n : Int) < (p.code.length : Int)) = True := eq_true (by omega)
  have e5 : (n < p.code.length) = True := eq_true (by omega)
  rw [hxo] at r0
  rw [hxa] at r1
  rw [hs] at q0 q1 q2
  simp only at q0 q1 q2
  have z1 := World.new_ne w _ c11
  have z2 := World.new_ne w _ c12
  have z3 := World.new_ne w _ q0
  have z4 := World.new_ne w _ q1
  have z5 := World.new_ne w _ q2
  have z6 := World.new_ne w _ r0
  have z7 := World.new_ne w _ r1
  clear hxo hxa hs hn hnp hl i
  go_enter Tryd.func31, Tryd.ntmps31
  go_upto_region 1 with fail
  go_cut [5, 6] (fun v5 v6 wx => ∃ b5 b6 : Nat, v5 = .pointer (some ⟨b5, 0, none⟩) ∧ v6 = .pointer (some ⟨b6, 0, none⟩) ∧ Aside0 (b5 ≠ b6 ∧ w.heap.size ≤ b5 ∧ w.heap.size ≤ b6) ∧ Aside0 (wx.heap[b5]? = some (.cells #[.int .i64 xo, .int .i64 xa] 52 (0, 0))) ∧ Aside0 (wx.heap[b6]? = some (.cells #[.int .i64 sh, .int .i64 st] 71 (0, 0))) ∧ Aside0 (Below w.heap.size w wx))
  case first =>
    go_region_held3 (fun w' => w'.cell? ⟨g, 11, none⟩ = some (.slice (some ad) p.code.length d.c11) ∧ w'.cell? ⟨g, 12, none⟩ = some (.slice (some ⟨ga, 0, none⟩) P.length P.length) ∧ w'.cell? (ad.add (n * 2)) = some (.int .i64 xo) ∧ w'.cell? ⟨(ad.add (n * 2)).block, (ad.add (n * 2)).off + 1, none⟩ = some (.int .i64 xa) ∧ w'.cell? ⟨ga, n * 3, none⟩ = some (.int .i64 sh) ∧ w'.cell? ⟨ga, n * 3 + 1, none⟩ = some (.int .i64 st)) (go_keep) (fail)
    all_goals
      go_wp2_with fail
      go_meet
      have T1 := two_new w #[.int .i64 xo, .int .i64 xa] #[.int .i64 sh, .int .i64 st] 52 71
      have T2 := two_new w #[.int .i64 sh, .int .i64 st] #[.int .i64 xo, .int .i64 xa] 71 52
      first
        | exact ⟨w.heap.size, w.heap.size + 1, rfl, rfl, ⟨by omega⟩, ⟨T1.1⟩, ⟨T1.2.1⟩, ⟨T1.2.2⟩⟩
        | exact ⟨w.heap.size + 1, w.heap.size, rfl, rfl, ⟨by omega⟩, ⟨T2.2.1⟩, ⟨T2.1⟩, ⟨T2.2.2⟩⟩
  case rest =>
    obtain ⟨b5, b6, rfl, rfl, hbb, h5, h6, hbel⟩ := hcut
    have c50 := (blk_cell h5.out 0).trans rfl
    have c51 := (blk_cell h5.out 1).trans rfl
    have c60 := (blk_cell h6.out 0).trans rfl
    have c61 := (blk_cell h6.out 1).trans rfl
    have c12' := (hbel.out.cell (p := ⟨g, 12, none⟩) lt1).trans c12
    have q2' := (hbel.out.cell (p := ⟨ga, n * 3 + 2, none⟩) lt2).trans q2
    clear z1 z2 z3 z4 z5 z6 z7 r0 r1 q0 q1 q2 c11 c12 hA bl e4 e5
    have d0 : decide (xo < 1) = false := decide_eq_false (by omega)
    have d1 : decide (33 < xo) = true := decide_eq_true ho
    clear ho
    go_wp2
    go_ret
    exact ⟨by simp, hbel.out⟩
set_option maxHeartbeats 16000000 in
set_option maxRecDepth 100000 in
theorem step_low {n k : Nat} {xa sh st : Int} (i : ChkAt w0 w g ga p d P) (hn : n < P.length) (hnp : P.length = p.code.length) (hl : P.length ≤ 16384) (hxo : (rdInstrS p.code (n : Int)).f0 = (k : Int)) (hxa : (rdInstrS p.code (n : Int)).f1 = xa) (hs : P.getD n Pl.z = ⟨sh, st, true⟩) (hk1 : 1 ≤ k) (hk2 : k ≤ 33) (ht : TabAt w) (hlow : sh < needT k) :
    Calls Tryd.prog 31 #[.pointer (some ⟨g, 0, none⟩), .int .i64 (n : Int)] w fun e w' => e = .returned (.bool false) ∧ Below w.heap.size w w' := by
  obtain ⟨-, c12⟩ := i.cells
  obtain ⟨-, -, -, -, -, -, -, -, -, -, -, c11⟩ := i.prog
  obtain ⟨q0, q1, q2⟩ := i.cell hn
  obtain ⟨ad, hA, r0, r1⟩ := atInstrS i.now.r11 (n : Int) (by omega) (by omega)
  rw [Int.toNat_natCast] at r0 r1
  rw [hA] at c11
  have lt1 := blk_lt i.hb
  have lt2 := blk_lt i.ha
  have bl := World.block_lt_of_cell? w _ r0
  rw [add_block] at bl
  have e1 := eq_true (show (0 : Int) ≤ (n : Int) by omega)
  have e2 : ((n : Int) < (P.length : Int)) = True := eq_true (by omega)
  have e3 := eq_true hn
  have e4 : ((n : Int) < (p.code.length : Int)) = True := eq_true (by omega)
  have e5 : (n < p.code.length) = True := eq_true (by omega)
  rw [hxo] at r0
  rw [hxa] at r1
  rw [hs] at q0 q1 q2
  simp only at q0 q1 q2
  have z1 := World.new_ne w _ c11
  have z2 := World.new_ne w _ c12
  have z3 := World.new_ne w _ q0
  have z4 := World.new_ne w _ q1
  have z5 := World.new_ne w _ q2
  have z6 := World.new_ne w _ r0
  have z7 := World.new_ne w _ r1
  have HT := Lib.hid ht
  clear hxo hxa hs hn hnp hl i ht
  go_enter Tryd.func31, Tryd.ntmps31
  go_upto_region 1 with fail
  go_cut [5, 6] (fun v5 v6 wx => ∃ b5 b6 : Nat, v5 = .pointer (some ⟨b5, 0, none⟩) ∧ v6 = .pointer (some ⟨b6, 0, none⟩) ∧ Aside0 (b5 ≠ b6 ∧ w.heap.size ≤ b5 ∧ w.heap.size ≤ b6) ∧ Aside0 (wx.heap[b5]? = some (.cells #[.int .i64 (k : Int), .int .i64 xa] 52 (0, 0))) ∧ Aside0 (wx.heap[b6]? = some (.cells #[.int .i64 sh, .int .i64 st] 71 (0, 0))) ∧ Aside0 (Below w.heap.size w wx))
  case first =>
    go_region_held3 (fun w' => w'.cell? ⟨g, 11, none⟩ = some (.slice (some ad) p.code.length d.c11) ∧ w'.cell? ⟨g, 12, none⟩ = some (.slice (some ⟨ga, 0, none⟩) P.length P.length) ∧ w'.cell? (ad.add (n * 2)) = some (.int .i64 (k : Int)) ∧ w'.cell? ⟨(ad.add (n * 2)).block, (ad.add (n * 2)).off + 1, none⟩ = some (.int .i64 xa) ∧ w'.cell? ⟨ga, n * 3, none⟩ = some (.int .i64 sh) ∧ w'.cell? ⟨ga, n * 3 + 1, none⟩ = some (.int .i64 st)) (go_keep) (fail)
    all_goals
      go_wp2_with fail
      go_meet
      have T1 := two_new w #[.int .i64 (k : Int), .int .i64 xa] #[.int .i64 sh, .int .i64 st] 52 71
      have T2 := two_new w #[.int .i64 sh, .int .i64 st] #[.int .i64 (k : Int), .int .i64 xa] 71 52
      first
        | exact ⟨w.heap.size, w.heap.size + 1, rfl, rfl, ⟨by omega⟩, ⟨T1.1⟩, ⟨T1.2.1⟩, ⟨T1.2.2⟩⟩
        | exact ⟨w.heap.size + 1, w.heap.size, rfl, rfl, ⟨by omega⟩, ⟨T2.2.1⟩, ⟨T2.1⟩, ⟨T2.2.2⟩⟩
  case rest =>
    obtain ⟨b5, b6, rfl, rfl, hbb, h5, h6, hbel⟩ := hcut
    have c50 := (blk_cell h5.out 0).trans rfl
    have c51 := (blk_cell h5.out 1).trans rfl
    have c60 := (blk_cell h6.out 0).trans rfl
    have c61 := (blk_cell h6.out 1).trans rfl
    have c12' := (hbel.out.cell (p := ⟨g, 12, none⟩) lt1).trans c12
    have q2' := (hbel.out.cell (p := ⟨ga, n * 3 + 2, none⟩) lt2).trans q2
    clear z1 z2 z3 z4 z5 z6 z7 r0 r1 q0 q1 q2 c11 c12 hA bl e4 e5
    have d0 : decide ((k : Int) < 1) = false := decide_eq_false (by omega)
    have d1 : decide ((33 : Int) < (k : Int)) = false := decide_eq_false (by omega)
    have d2 : decide (k < 1) = false := decide_eq_false (by omega)
    have d3 : decide (33 < k) = false := decide_eq_false (by omega)
    have d4 : decide (k = 0) = false := decide_eq_false (by omega)
    have d5 : ¬ k = 0 := by omega
    obtain ⟨t0, t1, t2⟩ := (HT.out.below hbel.out (by omega)) k (by omega)
    obtain ⟨nd, hnd⟩ : ∃ x, needT (k : Int) = x := ⟨_, rfl⟩
    obtain ⟨gr, hgr⟩ : ∃ x, growT (k : Int) = x := ⟨_, rfl⟩
    obtain ⟨kd, hkd⟩ : ∃ x, argT (k : Int) = x := ⟨_, rfl⟩
    rw [hnd] at t0
    rw [hgr] at t1
    rw [hkd] at t2
    have u1 := eq_true (show (0 : Int) ≤ (k : Int) by omega)
    have u2 : ((k : Int) < 34) = True := eq_true (by omega)
    have u3 : (k < 34) = True := eq_true (by omega)
    have u4 : ¬ (0 : Nat) = b5 := by have := hbb.out; omega
    have u5 : ¬ (0 : Nat) = b6 := by have := hbb.out; omega
    have u6 : (0 : Nat) < wc.heap.size := by have := hbel.out.size; omega
    have u7 : ¬ (0 : Nat) = wc.heap.size := by omega
    have l5 := blk_lt h5.out
    have l6 := blk_lt h6.out
    have HND := Lib.hid hnd
    have HGR := Lib.hid hgr
    have HKD := Lib.hid hkd
    rw [hnd] at hlow
    have v0 : decide (sh < nd) = true := decide_eq_true hlow
    clear hlow hk1 hk2 hnd hgr hkd
    go_wp2
    go_ret
    exact ⟨by simp, below_alloc hbel.out _⟩
set_option maxHeartbeats 16000000 in
set_option maxRecDepth 100000 in
theorem step_arg {n k : Nat} {xa sh st : Int} (i : ChkAt w0 w g ga p d P) (hn : n < P.length) (hnp : P.length = p.code.length) (hl : P.length ≤ 16384) (hxo : (rdInstrS p.code (n : Int)).f0 = (k : Int)) (hxa : (rdInstrS p.code (n : Int)).f1 = xa) (hs : P.getD n Pl.z = ⟨sh, st, true⟩) (hk1 : 1 ≤ k) (hk2 : k ≤ 33) (ht : TabAt w) (hlow : ¬ sh < needT k) (hcl : p.consts.length ≤ 16384) (harg : argP p (argT k) xa = false) :
    Calls Tryd.prog 31 #[.pointer (some ⟨g, 0, none⟩), .int .i64 (n : Int)] w fun e w' => e = .returned (.bool false) ∧ Below w.heap.size w w' := by
  obtain ⟨-, c12⟩ := i.cells
  obtain ⟨-, -, -, -, -, -, -, -, -, -, -, c11⟩ := i.prog
  obtain ⟨q0, q1, q2⟩ := i.cell hn
  obtain ⟨ad, hA, r0, r1⟩ := atInstrS i.now.r11 (n : Int) (by omega) (by omega)
  rw [Int.toNat_natCast] at r0 r1
  rw [hA] at c11
  have lt1 := blk_lt i.hb
  have lt2 := blk_lt i.ha
  have bl := World.block_lt_of_cell? w _ r0
  rw [add_block] at bl
  have e1 := eq_true (show (0 : Int) ≤ (n : Int) by omega)
  have e2 : ((n : Int) < (P.length : Int)) = True := eq_true (by omega)
  have e3 := eq_true hn
  have e4 : ((n : Int) < (p.code.length : Int)) = True := eq_true (by omega)
  have e5 : (n < p.code.length) = True := eq_true (by omega)
  rw [hxo] at r0
  rw [hxa] at r1
  rw [hs] at q0 q1 q2
  simp only at q0 q1 q2
  have z1 := World.new_ne w _ c11
  have z2 := World.new_ne w _ c12
  have z3 := World.new_ne w _ q0
  have z4 := World.new_ne w _ q1
  have z5 := World.new_ne w _ q2
  have z6 := World.new_ne w _ r0
  have z7 := World.new_ne w _ r1
  have HT := Lib.hid ht
  have HI := Lib.hid i
  have HCL := Lib.hid hcl
  clear hxo hxa hs hn hnp hl i ht
  go_enter Tryd.func31, Tryd.ntmps31
  go_upto_region 1 with fail
  go_cut [5, 6] (fun v5 v6 wx => ∃ b5 b6 : Nat, v5 = .pointer (some ⟨b5, 0, none⟩) ∧ v6 = .pointer (some ⟨b6, 0, none⟩) ∧ Aside0 (b5 ≠ b6 ∧ w.heap.size ≤ b5 ∧ w.heap.size ≤ b6) ∧ Aside0 (wx.heap[b5]? = some (.cells #[.int .i64 (k : Int), .int .i64 xa] 52 (0, 0))) ∧ Aside0 (wx.heap[b6]? = some (.cells #[.int .i64 sh, .int .i64 st] 71 (0, 0))) ∧ Aside0 (Below w.heap.size w wx))
  case first =>
    go_region_held3 (fun w' => w'.cell? ⟨g, 11, none⟩ = some (.slice (some ad) p.code.length d.c11) ∧ w'.cell? ⟨g, 12, none⟩ = some (.slice (some ⟨ga, 0, none⟩) P.length P.length) ∧ w'.cell? (ad.add (n * 2)) = some (.int .i64 (k : Int)) ∧ w'.cell? ⟨(ad.add (n * 2)).block, (ad.add (n * 2)).off + 1, none⟩ = some (.int .i64 xa) ∧ w'.cell? ⟨ga, n * 3, none⟩ = some (.int .i64 sh) ∧ w'.cell? ⟨ga, n * 3 + 1, none⟩ = some (.int .i64 st)) (go_keep) (fail)
    all_goals
      go_wp2_with fail
      go_meet
      have T1 := two_new w #[.int .i64 (k : Int), .int .i64 xa] #[.int .i64 sh, .int .i64 st] 52 71
      have T2 := two_new w #[.int .i64 sh, .int .i64 st] #[.int .i64 (k : Int), .int .i64 xa] 71 52
      first
        | exact ⟨w.heap.size, w.heap.size + 1, rfl, rfl, ⟨by omega⟩, ⟨T1.1⟩, ⟨T1.2.1⟩, ⟨T1.2.2⟩⟩
        | exact ⟨w.heap.size + 1, w.heap.size, rfl, rfl, ⟨by omega⟩, ⟨T2.2.1⟩, ⟨T2.1⟩, ⟨T2.2.2⟩⟩
  case rest =>
    obtain ⟨b5, b6, rfl, rfl, hbb, h5, h6, hbel⟩ := hcut
    have c50 := (blk_cell h5.out 0).trans rfl
    have c51 := (blk_cell h5.out 1).trans rfl
    have c60 := (blk_cell h6.out 0).trans rfl
    have c61 := (blk_cell h6.out 1).trans rfl
    have c12' := (hbel.out.cell (p := ⟨g, 12, none⟩) lt1).trans c12
    have q2' := (hbel.out.cell (p := ⟨ga, n * 3 + 2, none⟩) lt2).trans q2
    clear z1 z2 z3 z4 z5 z6 z7 r0 r1 q0 q1 q2 c11 c12 hA bl e4 e5
    have d0 : decide ((k : Int) < 1) = false := decide_eq_false (by omega)
    have d1 : decide ((33 : Int) < (k : Int)) = false := decide_eq_false (by omega)
    have d2 : decide (k < 1) = false := decide_eq_false (by omega)
    have d3 : decide (33 < k) = false := decide_eq_false (by omega)
    have d4 : decide (k = 0) = false := decide_eq_false (by omega)
    have d5 : ¬ k = 0 := by omega
    obtain ⟨t0, t1, t2⟩ := (HT.out.below hbel.out (by omega)) k (by omega)
    obtain ⟨nd, hnd⟩ : ∃ x, needT (k : Int) = x := ⟨_, rfl⟩
    obtain ⟨gr, hgr⟩ : ∃ x, growT (k : Int) = x := ⟨_, rfl⟩
    obtain ⟨kd, hkd⟩ : ∃ x, argT (k : Int) = x := ⟨_, rfl⟩
    rw [hnd] at t0
    rw [hgr] at t1
    rw [hkd] at t2
    have u1 := eq_true (show (0 : Int) ≤ (k : Int) by omega)
    have u2 : ((k : Int) < 34) = True := eq_true (by omega)
    have u3 : (k < 34) = True := eq_true (by omega)
    have u4 : ¬ (0 : Nat) = b5 := by have := hbb.out; omega
    have u5 : ¬ (0 : Nat) = b6 := by have := hbb.out; omega
    have u6 : (0 : Nat) < wc.heap.size := by have := hbel.out.size; omega
    have u7 : ¬ (0 : Nat) = wc.heap.size := by omega
    have l5 := blk_lt h5.out
    have l6 := blk_lt h6.out
    have HND := Lib.hid hnd
    have HGR := Lib.hid hgr
    have HKD := Lib.hid hkd
    rw [hnd] at hlow
    rw [hkd] at harg
    have HARG := Lib.hid harg
    clear harg
    have v0 : decide (sh < nd) = false := decide_eq_false hlow
    have H4 := Lib.hid ((HI.out.below hbel.out).below (below_alloc (Below.refl _ wc) (.cells #[.int .i64 nd, .int .i64 gr, .int .i64 kd] 104)))
    clear hlow hk1 hk2 hnd hgr hkd
    go_wp2_with fail
    refine (arg_calls HCL.out H4.out).mono ?_
    rintro e w5 ⟨rfl, b5'⟩
    rw [HARG.out]
    have B5 := Lib.hid b5'
    clear b5'
    go_wp2
    go_ret
    have hb4 := below_alloc hbel.out (.cells #[.int .i64 nd, .int .i64 gr, .int .i64 kd] 104)
    exact ⟨by simp, hb4.trans (B5.out.mono hb4.size)⟩
end
end Go.Proofs.YtdgljnidkhfgpaaDoor
