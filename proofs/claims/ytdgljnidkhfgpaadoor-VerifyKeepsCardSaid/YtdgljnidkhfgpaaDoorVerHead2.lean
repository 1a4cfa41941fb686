/-
  The verifier's head: what it answers.
-/
import Derived.Test.YtdgljnidkhfgpaaDoorVerHead
namespace Go.Proofs.YtdgljnidkhfgpaaDoor
set_option linter.unusedVariables false
set_option linter.unusedSimpArgs false
open Go.RowKit Go.Proofs.YtdgljnidkhfgpaaDoor.XVer Go.Proofs.YtdgljnidkhfgpaaDoorW.PrintWords Go.Proofs.YtdgljnidkhfgpaaDoorW.PrintLast Go.Proofs.YtdgljnidkhfgpaaDoorW.PrintMore

/-- Numbers within the limits. -/
def Bounds (p : Pg) : Prop := 0 ≤ p.m ∧ p.m ≤ 64 ∧ coreR p = true ∧ p.consts.length ≤ 16384 ∧ p.wins.length ≤ 256 ∧ p.crons.length ≤ 256 ∧ 0 ≤ p.locals ∧ p.locals ≤ 256 ∧ 0 ≤ p.height ∧ p.height ≤ 4096 ∧ 1 ≤ p.code.length ∧ p.code.length ≤ 16384
instance (p : Pg) : Decidable (Bounds p) := by unfold Bounds; infer_instance
def headB (p : Pg) : Bool := decide (Bounds p) && !(p.wins.any (badW p.m)) && !(p.crons.any badC)
section
variable {w : World} {p : Pg} {d : Hd}
set_option maxHeartbeats 4000000 in
set_option maxRecDepth 100000 in
theorem head_bad0 (h0 : p.m < 0) : Calls Tryd.prog 30 #[.agg #[.int .i64 p.m, .int .i64 p.r0, .int .i64 p.r1, .int .i64 p.r2, .int .i64 p.r3, .int .i64 p.r4, .slice d.a6 p.consts.length d.c6, .slice d.a7 p.wins.length d.c7, .slice d.a8 p.crons.length d.c8, .int .i64 p.locals, .int .i64 p.height, .slice d.a11 p.code.length d.c11]] w fun e w' => e = .returned (.bool false) ∧ Below w.heap.size w w' := by
  have g0 : decide (p.m < 0) = true := decide_eq_true (by omega)
  clear h0
  go_enter Tryd.func30, Tryd.ntmps30
  go_wp2
  go_ret
  exact ⟨by simp, below_alloc (Below.refl _ w) _⟩
set_option maxHeartbeats 4000000 in
set_option maxRecDepth 100000 in
theorem head_bad1 (h0 : ¬ p.m < 0) (h1 : 64 < p.m) : Calls Tryd.prog 30 #[.agg #[.int .i64 p.m, .int .i64 p.r0, .int .i64 p.r1, .int .i64 p.r2, .int .i64 p.r3, .int .i64 p.r4, .slice d.a6 p.consts.length d.c6, .slice d.a7 p.wins.length d.c7, .slice d.a8 p.crons.length d.c8, .int .i64 p.locals, .int .i64 p.height, .slice d.a11 p.code.length d.c11]] w fun e w' => e = .returned (.bool false) ∧ Below w.heap.size w w' := by
  have g0 : decide (p.m < 0) = false := decide_eq_false (by omega)
  have g1 : decide ((64 : Int) < p.m) = true := decide_eq_true (by omega)
  clear h0 h1
  go_enter Tryd.func30, Tryd.ntmps30
  go_wp2
  go_ret
  exact ⟨by simp, below_alloc (Below.refl _ w) _⟩
set_option maxHeartbeats 4000000 in
set_option maxRecDepth 100000 in
theorem head_bad2 (h0 : ¬ p.m < 0) (h1 : ¬ 64 < p.m) (h2 : coreR p = false) : Calls Tryd.prog 30 #[.agg #[.int .i64 p.m, .int .i64 p.r0, .int .i64 p.r1, .int .i64 p.r2, .int .i64 p.r3, .int .i64 p.r4, .slice d.a6 p.consts.length d.c6, .slice d.a7 p.wins.length d.c7, .slice d.a8 p.crons.length d.c8, .int .i64 p.locals, .int .i64 p.height, .slice d.a11 p.code.length d.c11]] w fun e w' => e = .returned (.bool false) ∧ Below w.heap.size w w' := by
  have g0 : decide (p.m < 0) = false := decide_eq_false (by omega)
  have g1 : decide ((64 : Int) < p.m) = false := decide_eq_false (by omega)
  have HC := Lib.hid h2
  clear h0 h1 h2
  go_enter Tryd.func30, Tryd.ntmps30
  go_wp2_with fail
  refine (coreR_calls p _).mono ?_
  rintro e w1 ⟨rfl, b1⟩
  rw [HC.out]
  have hB := (below_alloc (Below.refl _ w) (.cells #[.int .i64 p.m, .int .i64 p.r0, .int .i64 p.r1, .int .i64 p.r2, .int .i64 p.r3, .int .i64 p.r4, .slice d.a6 p.consts.length d.c6, .slice d.a7 p.wins.length d.c7, .slice d.a8 p.crons.length d.c8, .int .i64 p.locals, .int .i64 p.height, .slice d.a11 p.code.length d.c11] 38)).trans (b1.mono (by simp))
  have B1 := Lib.hid hB
  have kb := blk_below (blk_new w (.cells #[.int .i64 p.m, .int .i64 p.r0, .int .i64 p.r1, .int .i64 p.r2, .int .i64 p.r3, .int .i64 p.r4, .slice d.a6 p.consts.length d.c6, .slice d.a7 p.wins.length d.c7, .slice d.a8 p.crons.length d.c8, .int .i64 p.locals, .int .i64 p.height, .slice d.a11 p.code.length d.c11] 38)) b1
  have q0 := (blk_cell kb 0).trans rfl
  have q1 := (blk_cell kb 1).trans rfl
  have q2 := (blk_cell kb 2).trans rfl
  have q3 := (blk_cell kb 3).trans rfl
  have q4 := (blk_cell kb 4).trans rfl
  have q5 := (blk_cell kb 5).trans rfl
  have q6 := (blk_cell kb 6).trans rfl
  have q7 := (blk_cell kb 7).trans rfl
  have q8 := (blk_cell kb 8).trans rfl
  have q9 := (blk_cell kb 9).trans rfl
  have q10 := (blk_cell kb 10).trans rfl
  have q11 := (blk_cell kb 11).trans rfl
  clear b1 hB kb
  go_wp2
  go_ret
  exact ⟨by simp, B1.out⟩
set_option maxHeartbeats 4000000 in
set_option maxRecDepth 100000 in
theorem head_bad3 (h0 : ¬ p.m < 0) (h1 : ¬ 64 < p.m) (h2 : coreR p = true) (h3 : 16384 < p.consts.length) : Calls Tryd.prog 30 #[.agg #[.int .i64 p.m, .int .i64 p.r0, .int .i64 p.r1, .int .i64 p.r2, .int .i64 p.r3, .int .i64 p.r4, .slice d.a6 p.consts.length d.c6, .slice d.a7 p.wins.length d.c7, .slice d.a8 p.crons.length d.c8, .int .i64 p.locals, .int .i64 p.height, .slice d.a11 p.code.length d.c11]] w fun e w' => e = .returned (.bool false) ∧ Below w.heap.size w w' := by
  have g0 : decide (p.m < 0) = false := decide_eq_false (by omega)
  have g1 : decide ((64 : Int) < p.m) = false := decide_eq_false (by omega)
  have g3 : decide ((16384 : Int) < (p.consts.length : Int)) = true := decide_eq_true (by omega)
  have k3 : decide (16384 < p.consts.length) = true := decide_eq_true (by omega)
  have HC := Lib.hid h2
  clear h0 h1 h3 h2
  go_enter Tryd.func30, Tryd.ntmps30
  go_wp2_with fail
  refine (coreR_calls p _).mono ?_
  rintro e w1 ⟨rfl, b1⟩
  rw [HC.out]
  have hB := (below_alloc (Below.refl _ w) (.cells #[.int .i64 p.m, .int .i64 p.r0, .int .i64 p.r1, .int .i64 p.r2, .int .i64 p.r3, .int .i64 p.r4, .slice d.a6 p.consts.length d.c6, .slice d.a7 p.wins.length d.c7, .slice d.a8 p.crons.length d.c8, .int .i64 p.locals, .int .i64 p.height, .slice d.a11 p.code.length d.c11] 38)).trans (b1.mono (by simp))
  have B1 := Lib.hid hB
  have kb := blk_below (blk_new w (.cells #[.int .i64 p.m, .int .i64 p.r0, .int .i64 p.r1, .int .i64 p.r2, .int .i64 p.r3, .int .i64 p.r4, .slice d.a6 p.consts.length d.c6, .slice d.a7 p.wins.length d.c7, .slice d.a8 p.crons.length d.c8, .int .i64 p.locals, .int .i64 p.height, .slice d.a11 p.code.length d.c11] 38)) b1
  have q0 := (blk_cell kb 0).trans rfl
  have q1 := (blk_cell kb 1).trans rfl
  have q2 := (blk_cell kb 2).trans rfl
  have q3 := (blk_cell kb 3).trans rfl
  have q4 := (blk_cell kb 4).trans rfl
  have q5 := (blk_cell kb 5).trans rfl
  have q6 := (blk_cell kb 6).trans rfl
  have q7 := (blk_cell kb 7).trans rfl
  have q8 := (blk_cell kb 8).trans rfl
  have q9 := (blk_cell kb 9).trans rfl
  have q10 := (blk_cell kb 10).trans rfl
  have q11 := (blk_cell kb 11).trans rfl
  clear b1 hB kb
  go_wp2
  go_ret
  exact ⟨by simp, B1.out⟩
set_option maxHeartbeats 4000000 in
set_option maxRecDepth 100000 in
theorem head_bad4 (h0 : ¬ p.m < 0) (h1 : ¬ 64 < p.m) (h2 : coreR p = true) (h3 : ¬ 16384 < p.consts.length) (h4 : 256 < p.wins.length) : Calls Tryd.prog 30 #[.agg #[.int .i64 p.m, .int .i64 p.r0, .int .i64 p.r1, .int .i64 p.r2, .int .i64 p.r3, .int .i64 p.r4, .slice d.a6 p.consts.length d.c6, .slice d.a7 p.wins.length d.c7, .slice d.a8 p.crons.length d.c8, .int .i64 p.locals, .int .i64 p.height, .slice d.a11 p.code.length d.c11]] w fun e w' => e = .returned (.bool false) ∧ Below w.heap.size w w' := by
  have g0 : decide (p.m < 0) = false := decide_eq_false (by omega)
  have g1 : decide ((64 : Int) < p.m) = false := decide_eq_false (by omega)
  have g3 : decide ((16384 : Int) < (p.consts.length : Int)) = false := decide_eq_false (by omega)
  have k3 : decide (16384 < p.consts.length) = false := decide_eq_false (by omega)
  have g4 : decide ((256 : Int) < (p.wins.length : Int)) = true := decide_eq_true (by omega)
  have k4 : decide (256 < p.wins.length) = true := decide_eq_true (by omega)
  have HC := Lib.hid h2
  clear h0 h1 h3 h4 h2
  go_enter Tryd.func30, Tryd.ntmps30
  go_wp2_with fail
  refine (coreR_calls p _).mono ?_
  rintro e w1 ⟨rfl, b1⟩
  rw [HC.out]
  have hB := (below_alloc (Below.refl _ w) (.cells #[.int .i64 p.m, .int .i64 p.r0, .int .i64 p.r1, .int .i64 p.r2, .int .i64 p.r3, .int .i64 p.r4, .slice d.a6 p.consts.length d.c6, .slice d.a7 p.wins.length d.c7, .slice d.a8 p.crons.length d.c8, .int .i64 p.locals, .int .i64 p.height, .slice d.a11 p.code.length d.c11] 38)).trans (b1.mono (by simp))
  have B1 := Lib.hid hB
  have kb := blk_below (blk_new w (.cells #[.int .i64 p.m, .int .i64 p.r0, .int .i64 p.r1, .int .i64 p.r2, .int .i64 p.r3, .int .i64 p.r4, .slice d.a6 p.consts.length d.c6, .slice d.a7 p.wins.length d.c7, .slice d.a8 p.crons.length d.c8, .int .i64 p.locals, .int .i64 p.height, .slice d.a11 p.code.length d.c11] 38)) b1
  have q0 := (blk_cell kb 0).trans rfl
  have q1 := (blk_cell kb 1).trans rfl
  have q2 := (blk_cell kb 2).trans rfl
  have q3 := (blk_cell kb 3).trans rfl
  have q4 := (blk_cell kb 4).trans rfl
  have q5 := (blk_cell kb 5).trans rfl
  have q6 := (blk_cell kb 6).trans rfl
  have q7 := (blk_cell kb 7).trans rfl
  have q8 := (blk_cell kb 8).trans rfl
  have q9 := (blk_cell kb 9).trans rfl
  have q10 := (blk_cell kb 10).trans rfl
  have q11 := (blk_cell kb 11).trans rfl
  clear b1 hB kb
  go_wp2
  go_ret
  exact ⟨by simp, B1.out⟩
set_option maxHeartbeats 4000000 in
set_option maxRecDepth 100000 in
theorem head_bad5 (h0 : ¬ p.m < 0) (h1 : ¬ 64 < p.m) (h2 : coreR p = true) (h3 : ¬ 16384 < p.consts.length) (h4 : ¬ 256 < p.wins.length) (h5 : 256 < p.crons.length) : Calls Tryd.prog 30 #[.agg #[.int .i64 p.m, .int .i64 p.r0, .int .i64 p.r1, .int .i64 p.r2, .int .i64 p.r3, .int .i64 p.r4, .slice d.a6 p.consts.length d.c6, .slice d.a7 p.wins.length d.c7, .slice d.a8 p.crons.length d.c8, .int .i64 p.locals, .int .i64 p.height, .slice d.a11 p.code.length d.c11]] w fun e w' => e = .returned (.bool false) ∧ Below w.heap.size w w' := by
  have g0 : decide (p.m < 0) = false := decide_eq_false (by omega)
  have g1 : decide ((64 : Int) < p.m) = false := decide_eq_false (by omega)
  have g3 : decide ((16384 : Int) < (p.consts.length : Int)) = false := decide_eq_false (by omega)
  have k3 : decide (16384 < p.consts.length) = false := decide_eq_false (by omega)
  have g4 : decide ((256 : Int) < (p.wins.length : Int)) = false := decide_eq_false (by omega)
  have k4 : decide (256 < p.wins.length) = false := decide_eq_false (by omega)
  have g5 : decide ((256 : Int) < (p.crons.length : Int)) = true := decide_eq_true (by omega)
  have k5 : decide (256 < p.crons.length) = true := decide_eq_true (by omega)
  have HC := Lib.hid h2
  clear h0 h1 h3 h4 h5 h2
  go_enter Tryd.func30, Tryd.ntmps30
  go_wp2_with fail
  refine (coreR_calls p _).mono ?_
  rintro e w1 ⟨rfl, b1⟩
  rw [HC.out]
  have hB := (below_alloc (Below.refl _ w) (.cells #[.int .i64 p.m, .int .i64 p.r0, .int .i64 p.r1, .int .i64 p.r2, .int .i64 p.r3, .int .i64 p.r4, .slice d.a6 p.consts.length d.c6, .slice d.a7 p.wins.length d.c7, .slice d.a8 p.crons.length d.c8, .int .i64 p.locals, .int .i64 p.height, .slice d.a11 p.code.length d.c11] 38)).trans (b1.mono (by simp))
  have B1 := Lib.hid hB
  have kb := blk_below (blk_new w (.cells #[.int .i64 p.m, .int .i64 p.r0, .int .i64 p.r1, .int .i64 p.r2, .int .i64 p.r3, .int .i64 p.r4, .slice d.a6 p.consts.length d.c6, .slice d.a7 p.wins.length d.c7, .slice d.a8 p.crons.length d.c8, .int .i64 p.locals, .int .i64 p.height, .slice d.a11 p.code.length d.c11] 38)) b1
  have q0 := (blk_cell kb 0).trans rfl
  have q1 := (blk_cell kb 1).trans rfl
  have q2 := (blk_cell kb 2).trans rfl
  have q3 := (blk_cell kb 3).trans rfl
  have q4 := (blk_cell kb 4).trans rfl
  have q5 := (blk_cell kb 5).trans rfl
  have q6 := (blk_cell kb 6).trans rfl
  have q7 := (blk_cell kb 7).trans rfl
  have q8 := (blk_cell kb 8).trans rfl
  have q9 := (blk_cell kb 9).trans rfl
  have q10 := (blk_cell kb 10).trans rfl
  have q11 := (blk_cell kb 11).trans rfl
  clear b1 hB kb
  go_wp2
  go_ret
  exact ⟨by simp, B1.out⟩
set_option maxHeartbeats 4000000 in
set_option maxRecDepth 100000 in
theorem head_bad6 (h0 : ¬ p.m < 0) (h1 : ¬ 64 < p.m) (h2 : coreR p = true) (h3 : ¬ 16384 < p.consts.length) (h4 : ¬ 256 < p.wins.length) (h5 : ¬ 256 < p.crons.length) (h6 : p.locals < 0) : Calls Tryd.prog 30 #[.agg #[.int .i64 p.m, .int .i64 p.r0, .int .i64 p.r1, .int .i64 p.r2, .int .i64 p.r3, .int .i64 p.r4, .slice d.a6 p.consts.length d.c6, .slice d.a7 p.wins.length d.c7, .slice d.a8 p.crons.length d.c8, .int .i64 p.locals, .int .i64 p.height, .slice d.a11 p.code.length d.c11]] w fun e w' => e = .returned (.bool false) ∧ Below w.heap.size w w' := by
  have g0 : decide (p.m < 0) = false := decide_eq_false (by omega)
  have g1 : decide ((64 : Int) < p.m) = false := decide_eq_false (by omega)
  have g3 : decide ((16384 : Int) < (p.consts.length : Int)) = false := decide_eq_false (by omega)
  have k3 : decide (16384 < p.consts.length) = false := decide_eq_false (by omega)
  have g4 : decide ((256 : Int) < (p.wins.length : Int)) = false := decide_eq_false (by omega)
  have k4 : decide (256 < p.wins.length) = false := decide_eq_false (by omega)
  have g5 : decide ((256 : Int) < (p.crons.length : Int)) = false := decide_eq_false (by omega)
  have k5 : decide (256 < p.crons.length) = false := decide_eq_false (by omega)
  have g6 : decide (p.locals < 0) = true := decide_eq_true (by omega)
  have HC := Lib.hid h2
  clear h0 h1 h3 h4 h5 h6 h2
  go_enter Tryd.func30, Tryd.ntmps30
  go_wp2_with fail
  refine (coreR_calls p _).mono ?_
  rintro e w1 ⟨rfl, b1⟩
  rw [HC.out]
  have hB := (below_alloc (Below.refl _ w) (.cells #[.int .i64 p.m, .int .i64 p.r0, .int .i64 p.r1, .int .i64 p.r2, .int .i64 p.r3, .int .i64 p.r4, .slice d.a6 p.consts.length d.c6, .slice d.a7 p.wins.length d.c7, .slice d.a8 p.crons.length d.c8, .int .i64 p.locals, .int .i64 p.height, .slice d.a11 p.code.length d.c11] 38)).trans (b1.mono (by simp))
  have B1 := Lib.hid hB
  have kb := blk_below (blk_new w (.cells #[.int .i64 p.m, .int .i64 p.r0, .int .i64 p.r1, .int .i64 p.r2, .int .i64 p.r3, .int .i64 p.r4, .slice d.a6 p.consts.length d.c6, .slice d.a7 p.wins.length d.c7, .slice d.a8 p.crons.length d.c8, .int .i64 p.locals, .int .i64 p.height, .slice d.a11 p.code.length d.c11] 38)) b1
  have q0 := (blk_cell kb 0).trans rfl
  have q1 := (blk_cell kb 1).trans rfl
  have q2 := (blk_cell kb 2).trans rfl
  have q3 := (blk_cell kb 3).trans rfl
  have q4 := (blk_cell kb 4).trans rfl
  have q5 := (blk_cell kb 5).trans rfl
  have q6 := (blk_cell kb 6).trans rfl
  have q7 := (blk_cell kb 7).trans rfl
  have q8 := (blk_cell kb 8).trans rfl
  have q9 := (blk_cell kb 9).trans rfl
  have q10 := (blk_cell kb 10).trans rfl
  have q11 := (blk_cell kb 11).trans rfl
  clear b1 hB kb
  go_wp2
  go_ret
  exact ⟨by simp, B1.out⟩
set_option maxHeartbeats 4000000 in
set_option maxRecDepth 100000 in
theorem head_bad7 (h0 : ¬ p.m < 0) (h1 : ¬ 64 < p.m) (h2 : coreR p = true) (h3 : ¬ 16384 < p.consts.length) (h4 : ¬ 256 < p.wins.length) (h5 : ¬ 256 < p.crons.length) (h6 : ¬ p.locals < 0) (h7 : 256 < p.locals) : Calls Tryd.prog 30 #[.agg #[.int .i64 p.m, .int .i64 p.r0, .int .i64 p.r1, .int .i64 p.r2, .int .i64 p.r3, .int .i64 p.r4, .slice d.a6 p.consts.length d.c6, .slice d.a7 p.wins.length d.c7, .slice d.a8 p.crons.length d.c8, .int .i64 p.locals, .int .i64 p.height, .slice d.a11 p.code.length d.c11]] w fun e w' => e = .returned (.bool false) ∧ Below w.heap.size w w' := by
  have g0 : decide (p.m < 0) = false := decide_eq_false (by omega)
  have g1 : decide ((64 : Int) < p.m) = false := decide_eq_false (by omega)
  have g3 : decide ((16384 : Int) < (p.consts.length : Int)) = false := decide_eq_false (by omega)
  have k3 : decide (16384 < p.consts.length) = false := decide_eq_false (by omega)
  have g4 : decide ((256 : Int) < (p.wins.length : Int)) = false := decide_eq_false (by omega)
  have k4 : decide (256 < p.wins.length) = false := decide_eq_false (by omega)
  have g5 : decide ((256 : Int) < (p.crons.length : Int)) = false := decide_eq_false (by omega)
  have k5 : decide (256 < p.crons.length) = false := decide_eq_false (by omega)
  have g6 : decide (p.locals < 0) = false := decide_eq_false (by omega)
  have g7 : decide ((256 : Int) < p.locals) = true := decide_eq_true (by omega)
  have HC := Lib.hid h2
  clear h0 h1 h3 h4 h5 h6 h7 h2
  go_enter Tryd.func30, Tryd.ntmps30
  go_wp2_with fail
  refine (coreR_calls p _).mono ?_
  rintro e w1 ⟨rfl, b1⟩
  rw [HC.out]
  have hB := (below_alloc (Below.refl _ w) (.cells #[.int .i64 p.m, .int .i64 p.r0, .int .i64 p.r1, .int .i64 p.r2, .int .i64 p.r3, .int .i64 p.r4, .slice d.a6 p.consts.length d.c6, .slice d.a7 p.wins.length d.c7, .slice d.a8 p.crons.length d.c8, .int .i64 p.locals, .int .i64 p.height, .slice d.a11 p.code.length d.c11] 38)).trans (b1.mono (by simp))
  have B1 := Lib.hid hB
  have kb := blk_below (blk_new w (.cells #[.int .i64 p.m, .int .i64 p.r0, .int .i64 p.r1, .int .i64 p.r2, .int .i64 p.r3, .int .i64 p.r4, .slice d.a6 p.consts.length d.c6, .slice d.a7 p.wins.length d.c7, .slice d.a8 p.crons.length d.c8, .int .i64 p.locals, .int .i64 p.height, .slice d.a11 p.code.length d.c11] 38)) b1
  have q0 := (blk_cell kb 0).trans rfl
  have q1 := (blk_cell kb 1).trans rfl
  have q2 := (blk_cell kb 2).trans rfl
  have q3 := (blk_cell kb 3).trans rfl
  have q4 := (blk_cell kb 4).trans rfl
  have q5 := (blk_cell kb 5).trans rfl
  have q6 := (blk_cell kb 6).trans rfl
  have q7 := (blk_cell kb 7).trans rfl
  have q8 := (blk_cell kb 8).trans rfl
  have q9 := (blk_cell kb 9).trans rfl
  have q10 := (blk_cell kb 10).trans rfl
  have q11 := (blk_cell kb 11).trans rfl
  clear b1 hB kb
  go_wp2
  go_ret
  exact ⟨by simp, B1.out⟩
set_option maxHeartbeats 4000000 in
set_option maxRecDepth 100000 in
theorem head_bad8 (h0 : ¬ p.m < 0) (h1 : ¬ 64 < p.m) (h2 : coreR p = true) (h3 : ¬ 16384 < p.consts.length) (h4 : ¬ 256 < p.wins.length) (h5 : ¬ 256 < p.crons.length) (h6 : ¬ p.locals < 0) (h7 : ¬ 256 < p.locals) (h8 : p.height < 0) : Calls Tryd.prog 30 #[.agg #[.int .i64 p.m, .int .i64 p.r0, .int .i64 p.r1, .int .i64 p.r2, .int .i64 p.r3, .int .i64 p.r4, .slice d.a6 p.consts.length d.c6, .slice d.a7 p.wins.length d.c7, .slice d.a8 p.crons.length d.c8, .int .i64 p.locals, .int .i64 p.height, .slice d.a11 p.code.length d.c11]] w fun e w' => e = .returned (.bool false) ∧ Below w.heap.size w w' := by
  have g0 : decide (p.m < 0) = false := decide_eq_false (by omega)
  have g1 : decide ((64 : Int) < p.m) = false := decide_eq_false (by omega)
  have g3 : decide ((16384 : Int) < (p.consts.length : Int)) = false := decide_eq_false (by omega)
  have k3 : decide (16384 < p.consts.length) = false := decide_eq_false (by omega)
  have g4 : decide ((256 : Int) < (p.wins.length : Int)) = false := decide_eq_false (by omega)
  have k4 : decide (256 < p.wins.length) = false := decide_eq_false (by omega)
  have g5 : decide ((256 : Int) < (p.crons.length : Int)) = false := decide_eq_false (by omega)
  have k5 : decide (256 < p.crons.length) = false := decide_eq_false (by omega)
  have g6 : decide (p.locals < 0) = false := decide_eq_false (by omega)
  have g7 : decide ((256 : Int) < p.locals) = false := decide_eq_false (by omega)
  have g8 : decide (p.height < 0) = true := decide_eq_true (by omega)
  have HC := Lib.hid h2
  clear h0 h1 h3 h4 h5 h6 h7 h8 h2
  go_enter Tryd.func30, Tryd.ntmps30
  go_wp2_with fail
  refine (coreR_calls p _).mono ?_
  rintro e w1 ⟨rfl, b1⟩
  rw [HC.out]
  have hB := (below_alloc (Below.refl _ w) (.cells #[.int .i64 p.m, .int .i64 p.r0, .int .i64 p.r1, .int .i64 p.r2, .int .i64 p.r3, .int .i64 p.r4, .slice d.a6 p.consts.length d.c6, .slice d.a7 p.wins.length d.c7, .slice d.a8 p.crons.length d.c8, .int .i64 p.locals, .int .i64 p.height, .slice d.a11 p.code.length d.c11] 38)).trans (b1.mono (by simp))
  have B1 := Lib.hid hB
  have kb := blk_below (blk_new w (.cells #[.int .i64 p.m, .int .i64 p.r0, .int .i64 p.r1, .int .i64 p.r2, .int .i64 p.r3, .int .i64 p.r4, .slice d.a6 p.consts.length d.c6, .slice d.a7 p.wins.length d.c7, .slice d.a8 p.crons.length d.c8, .int .i64 p.locals, .int .i64 p.height, .slice d.a11 p.code.length d.c11] 38)) b1
  have q0 := (blk_cell kb 0).trans rfl
  have q1 := (blk_cell kb 1).trans rfl
  have q2 := (blk_cell kb 2).trans rfl
  have q3 := (blk_cell kb 3).trans rfl
  have q4 := (blk_cell kb 4).trans rfl
  have q5 := (blk_cell kb 5).trans rfl
  have q6 := (blk_cell kb 6).trans rfl
  have q7 := (blk_cell kb 7).trans rfl
  have q8 := (blk_cell kb 8).trans rfl
  have q9 := (blk_cell kb 9).trans rfl
  have q10 := (blk_cell kb 10).trans rfl
  have q11 := (blk_cell kb 11).trans rfl
  clear b1 hB kb
  go_wp2
  go_ret
  exact ⟨by simp, B1.out⟩
set_option maxHeartbeats 4000000 in
set_option maxRecDepth 100000 in
theorem head_bad9 (h0 : ¬ p.m < 0) (h1 : ¬ 64 < p.m) (h2 : coreR p = true) (h3 : ¬ 16384 < p.consts.length) (h4 : ¬ 256 < p.wins.length) (h5 : ¬ 256 < p.crons.length) (h6 : ¬ p.locals < 0) (h7 : ¬ 256 < p.locals) (h8 : ¬ p.height < 0) (h9 : 4096 < p.height) : Calls Tryd.prog 30 #[.agg #[.int .i64 p.m, .int .i64 p.r0, .int .i64 p.r1, .int .i64 p.r2, .int .i64 p.r3, .int .i64 p.r4, .slice d.a6 p.consts.length d.c6, .slice d.a7 p.wins.length d.c7, .slice d.a8 p.crons.length d.c8, .int .i64 p.locals, .int .i64 p.height, .slice d.a11 p.code.length d.c11]] w fun e w' => e = .returned (.bool false) ∧ Below w.heap.size w w' := by
  have g0 : decide (p.m < 0) = false := decide_eq_false (by omega)
  have g1 : decide ((64 : Int) < p.m) = false := decide_eq_false (by omega)
  have g3 : decide ((16384 : Int) < (p.consts.length : Int)) = false := decide_eq_false (by omega)
  have k3 : decide (16384 < p.consts.length) = false := decide_eq_false (by omega)
  have g4 : decide ((256 : Int) < (p.wins.length : Int)) = false := decide_eq_false (by omega)
  have k4 : decide (256 < p.wins.length) = false := decide_eq_false (by omega)
  have g5 : decide ((256 : Int) < (p.crons.length : Int)) = false := decide_eq_false (by omega)
  have k5 : decide (256 < p.crons.length) = false := decide_eq_false (by omega)
  have g6 : decide (p.locals < 0) = false := decide_eq_false (by omega)
  have g7 : decide ((256 : Int) < p.locals) = false := decide_eq_false (by omega)
  have g8 : decide (p.height < 0) = false := decide_eq_false (by omega)
  have g9 : decide ((4096 : Int) < p.height) = true := decide_eq_true (by omega)
  have HC := Lib.hid h2
  clear h0 h1 h3 h4 h5 h6 h7 h8 h9 h2
  go_enter Tryd.func30, Tryd.ntmps30
  go_wp2_with fail
  refine (coreR_calls p _).mono ?_
  rintro e w1 ⟨rfl, b1⟩
  rw [HC.out]
  have hB := (below_alloc (Below.refl _ w) (.cells #[.int .i64 p.m, .int .i64 p.r0, .int .i64 p.r1, .int .i64 p.r2, .int .i64 p.r3, .int .i64 p.r4, .slice d.a6 p.consts.length d.c6, .slice d.a7 p.wins.length d.c7, .slice d.a8 p.crons.length d.c8, .int .i64 p.locals, .int .i64 p.height, .slice d.a11 p.code.length d.c11] 38)).trans (b1.mono (by simp))
  have B1 := Lib.hid hB
  have kb := blk_below (blk_new w (.cells #[.int .i64 p.m, .int .i64 p.r0, .int .i64 p.r1, .int .i64 p.r2, .int .i64 p.r3, .int .i64 p.r4, .slice d.a6 p.consts.length d.c6, .slice d.a7 p.wins.length d.c7, .slice d.a8 p.crons.length d.c8, .int .i64 p.locals, .int .i64 p.height, .slice d.a11 p.code.length d.c11] 38)) b1
  have q0 := (blk_cell kb 0).trans rfl
  have q1 := (blk_cell kb 1).trans rfl
  have q2 := (blk_cell kb 2).trans rfl
  have q3 := (blk_cell kb 3).trans rfl
  have q4 := (blk_cell kb 4).trans rfl
  have q5 := (blk_cell kb 5).trans rfl
  have q6 := (blk_cell kb 6).trans rfl
  have q7 := (blk_cell kb 7).trans rfl
  have q8 := (blk_cell kb 8).trans rfl
  have q9 := (blk_cell kb 9).trans rfl
  have q10 := (blk_cell kb 10).trans rfl
  have q11 := (blk_cell kb 11).trans rfl
  clear b1 hB kb
  go_wp2
  go_ret
  exact ⟨by simp, B1.out⟩
set_option maxHeartbeats 4000000 in
set_option maxRecDepth 100000 in
theorem head_bad10 (h0 : ¬ p.m < 0) (h1 : ¬ 64 < p.m) (h2 : coreR p = true) (h3 : ¬ 16384 < p.consts.length) (h4 : ¬ 256 < p.wins.length) (h5 : ¬ 256 < p.crons.length) (h6 : ¬ p.locals < 0) (h7 : ¬ 256 < p.locals) (h8 : ¬ p.height < 0) (h9 : ¬ 4096 < p.height) (h10 : p.code.length < 1) : Calls Tryd.prog 30 #[.agg #[.int .i64 p.m, .int .i64 p.r0, .int .i64 p.r1, .int .i64 p.r2, .int .i64 p.r3, .int .i64 p.r4, .slice d.a6 p.consts.length d.c6, .slice d.a7 p.wins.length d.c7, .slice d.a8 p.crons.length d.c8, .int .i64 p.locals, .int .i64 p.height, .slice d.a11 p.code.length d.c11]] w fun e w' => e = .returned (.bool false) ∧ Below w.heap.size w w' := by
  have g0 : decide (p.m < 0) = false := decide_eq_false (by omega)
  have g1 : decide ((64 : Int) < p.m) = false := decide_eq_false (by omega)
  have g3 : decide ((16384 : Int) < (p.consts.length : Int)) = false := decide_eq_false (by omega)
  have k3 : decide (16384 < p.consts.length) = false := decide_eq_false (by omega)
  have g4 : decide ((256 : Int) < (p.wins.length : Int)) = false := decide_eq_false (by omega)
  have k4 : decide (256 < p.wins.length) = false := decide_eq_false (by omega)
  have g5 : decide ((256 : Int) < (p.crons.length : Int)) = false := decide_eq_false (by omega)
  have k5 : decide (256 < p.crons.length) = false := decide_eq_false (by omega)
  have g6 : decide (p.locals < 0) = false := decide_eq_false (by omega)
  have g7 : decide ((256 : Int) < p.locals) = false := decide_eq_false (by omega)
  have g8 : decide (p.height < 0) = false := decide_eq_false (by omega)
  have g9 : decide ((4096 : Int) < p.height) = false := decide_eq_false (by omega)
  have g10 : decide ((p.code.length : Int) < 1) = true := decide_eq_true (by omega)
  have k10 : decide (p.code.length < 1) = true := decide_eq_true (by omega)
  have HC := Lib.hid h2
  clear h0 h1 h3 h4 h5 h6 h7 h8 h9 h10 h2
  go_enter Tryd.func30, Tryd.ntmps30
  go_wp2_with fail
  refine (coreR_calls p _).mono ?_
  rintro e w1 ⟨rfl, b1⟩
  rw [HC.out]
  have hB := (below_alloc (Below.refl _ w) (.cells #[.int .i64 p.m, .int .i64 p.r0, .int .i64 p.r1, .int .i64 p.r2, .int .i64 p.r3, .int .i64 p.r4, .slice d.a6 p.consts.length d.c6, .slice d.a7 p.wins.length d.c7, .slice d.a8 p.crons.length d.c8, .int .i64 p.locals, .int .i64 p.height, .slice d.a11 p.code.length d.c11] 38)).trans (b1.mono (by simp))
  have B1 := Lib.hid hB
  have kb := blk_below (blk_new w (.cells #[.int .i64 p.m, .int .i64 p.r0, .int .i64 p.r1, .int .i64 p.r2, .int .i64 p.r3, .int .i64 p.r4, .slice d.a6 p.consts.length d.c6, .slice d.a7 p.wins.length d.c7, .slice d.a8 p.crons.length d.c8, .int .i64 p.locals, .int .i64 p.height, .slice d.a11 p.code.length d.c11] 38)) b1
  have q0 := (blk_cell kb 0).trans rfl
  have q1 := (blk_cell kb 1).trans rfl
  have q2 := (blk_cell kb 2).trans rfl
  have q3 := (blk_cell kb 3).trans rfl
  have q4 := (blk_cell kb 4).trans rfl
  have q5 := (blk_cell kb 5).trans rfl
  have q6 := (blk_cell kb 6).trans rfl
  have q7 := (blk_cell kb 7).trans rfl
  have q8 := (blk_cell kb 8).trans rfl
  have q9 := (blk_cell kb 9).trans rfl
  have q10 := (blk_cell kb 10).trans rfl
  have q11 := (blk_cell kb 11).trans rfl
  clear b1 hB kb
  go_wp2
  go_ret
  exact ⟨by simp, B1.out⟩
set_option maxHeartbeats 4000000 in
set_option maxRecDepth 100000 in
theorem head_bad11 (h0 : ¬ p.m < 0) (h1 : ¬ 64 < p.m) (h2 : coreR p = true) (h3 : ¬ 16384 < p.consts.length) (h4 : ¬ 256 < p.wins.length) (h5 : ¬ 256 < p.crons.length) (h6 : ¬ p.locals < 0) (h7 : ¬ 256 < p.locals) (h8 : ¬ p.height < 0) (h9 : ¬ 4096 < p.height) (h10 : ¬ p.code.length < 1) (h11 : 16384 < p.code.length) : Calls Tryd.prog 30 #[.agg #[.int .i64 p.m, .int .i64 p.r0, .int .i64 p.r1, .int .i64 p.r2, .int .i64 p.r3, .int .i64 p.r4, .slice d.a6 p.consts.length d.c6, .slice d.a7 p.wins.length d.c7, .slice d.a8 p.crons.length d.c8, .int .i64 p.locals, .int .i64 p.height, .slice d.a11 p.code.length d.c11]] w fun e w' => e = .returned (.bool false) ∧ Below w.heap.size w w' := by
  have g0 : decide (p.m < 0) = false := decide_eq_false (by omega)
  have g1 : decide ((64 : Int) < p.m) = false := decide_eq_false (by omega)
  have g3 : decide ((16384 : Int) < (p.consts.length : Int)) = false := decide_eq_false (by omega)
  have k3 : decide (16384 < p.consts.length) = false := decide_eq_false (by omega)
  have g4 : decide ((256 : Int) < (p.wins.length : Int)) = false := decide_eq_false (by omega)
  have k4 : decide (256 < p.wins.length) = false := decide_eq_false (by omega)
  have g5 : decide ((256 : Int) < (p.crons.length : Int)) = false := decide_eq_false (by omega)
  have k5 : decide (256 < p.crons.length) = false := decide_eq_false (by omega)
  have g6 : decide (p.locals < 0) = false := decide_eq_false (by omega)
  have g7 : decide ((256 : Int) < p.locals) = false := decide_eq_false (by omega)
  have g8 : decide (p.height < 0) = false := decide_eq_false (by omega)
  have g9 : decide ((4096 : Int) < p.height) = false := decide_eq_false (by omega)
  have g10 : decide ((p.code.length : Int) < 1) = false := decide_eq_false (by omega)
  have k10 : decide (p.code.length < 1) = false := decide_eq_false (by omega)
  have j10 : ¬ p.code = [] := by rintro h; rw [h] at h10; simp at h10
  have g11 : decide ((16384 : Int) < (p.code.length : Int)) = true := decide_eq_true (by omega)
  have k11 : decide (16384 < p.code.length) = true := decide_eq_true (by omega)
  have HC := Lib.hid h2
  clear h0 h1 h3 h4 h5 h6 h7 h8 h9 h10 h11 h2
  go_enter Tryd.func30, Tryd.ntmps30
  go_wp2_with fail
  refine (coreR_calls p _).mono ?_
  rintro e w1 ⟨rfl, b1⟩
  rw [HC.out]
  have hB := (below_alloc (Below.refl _ w) (.cells #[.int .i64 p.m, .int .i64 p.r0, .int .i64 p.r1, .int .i64 p.r2, .int .i64 p.r3, .int .i64 p.r4, .slice d.a6 p.consts.length d.c6, .slice d.a7 p.wins.length d.c7, .slice d.a8 p.crons.length d.c8, .int .i64 p.locals, .int .i64 p.height, .slice d.a11 p.code.length d.c11] 38)).trans (b1.mono (by simp))
  have B1 := Lib.hid hB
  have kb := blk_below (blk_new w (.cells #[.int .i64 p.m, .int .i64 p.r0, .int .i64 p.r1, .int .i64 p.r2, .int .i64 p.r3, .int .i64 p.r4, .slice d.a6 p.consts.length d.c6, .slice d.a7 p.wins.length d.c7, .slice d.a8 p.crons.length d.c8, .int .i64 p.locals, .int .i64 p.height, .slice d.a11 p.code.length d.c11] 38)) b1
  have q0 := (blk_cell kb 0).trans rfl
  have q1 := (blk_cell kb 1).trans rfl
  have q2 := (blk_cell kb 2).trans rfl
  have q3 := (blk_cell kb 3).trans rfl
  have q4 := (blk_cell kb 4).trans rfl
  have q5 := (blk_cell kb 5).trans rfl
  have q6 := (blk_cell kb 6).trans rfl
  have q7 := (blk_cell kb 7).trans rfl
  have q8 := (blk_cell kb 8).trans rfl
  have q9 := (blk_cell kb 9).trans rfl
  have q10 := (blk_cell kb 10).trans rfl
  have q11 := (blk_cell kb 11).trans rfl
  clear b1 hB kb
  go_wp2
  go_ret
  exact ⟨by simp, B1.out⟩
set_option maxHeartbeats 8000000 in
set_option maxRecDepth 100000 in
theorem head_good (hb : Bounds p) (hp : PgIn w p d) (hF : FieldsAt w) : Calls Tryd.prog 30 #[.agg #[.int .i64 p.m, .int .i64 p.r0, .int .i64 p.r1, .int .i64 p.r2, .int .i64 p.r3, .int .i64 p.r4, .slice d.a6 p.consts.length d.c6, .slice d.a7 p.wins.length d.c7, .slice d.a8 p.crons.length d.c8, .int .i64 p.locals, .int .i64 p.height, .slice d.a11 p.code.length d.c11]] w fun e w' => e = .returned (.bool (!(p.wins.any (badW p.m)) && !(p.crons.any badC))) ∧ Below w.heap.size w w' := by
  obtain ⟨x0, x1, x2, x3, x4, x5, x6, x7, x8, x9, x10, x11⟩ := hb
  have h10 : ¬ p.code.length < 1 := by omega
  obtain ⟨bw, hbw⟩ : ∃ b, p.wins.any (badW p.m) = b := ⟨_, rfl⟩
  obtain ⟨bc, hbc⟩ : ∃ b, p.crons.any badC = b := ⟨_, rfl⟩
  rw [hbw, hbc]
  have HBW := Lib.hid hbw
  have HBC := Lib.hid hbc
  clear hbw hbc
  have g0 : decide (p.m < 0) = false := decide_eq_false (by omega)
  have g1 : decide ((64 : Int) < p.m) = false := decide_eq_false (by omega)
  have g3 : decide ((16384 : Int) < (p.consts.length : Int)) = false := decide_eq_false (by omega)
  have k3 : decide (16384 < p.consts.length) = false := decide_eq_false (by omega)
  have g4 : decide ((256 : Int) < (p.wins.length : Int)) = false := decide_eq_false (by omega)
  have k4 : decide (256 < p.wins.length) = false := decide_eq_false (by omega)
  have g5 : decide ((256 : Int) < (p.crons.length : Int)) = false := decide_eq_false (by omega)
  have k5 : decide (256 < p.crons.length) = false := decide_eq_false (by omega)
  have g6 : decide (p.locals < 0) = false := decide_eq_false (by omega)
  have g7 : decide ((256 : Int) < p.locals) = false := decide_eq_false (by omega)
  have g8 : decide (p.height < 0) = false := decide_eq_false (by omega)
  have g9 : decide ((4096 : Int) < p.height) = false := decide_eq_false (by omega)
  have g10 : decide ((p.code.length : Int) < 1) = false := decide_eq_false (by omega)
  have k10 : decide (p.code.length < 1) = false := decide_eq_false (by omega)
  have j10 : ¬ p.code = [] := by rintro h; rw [h] at h10; simp at h10
  have g11 : decide ((16384 : Int) < (p.code.length : Int)) = false := decide_eq_false (by omega)
  have k11 : decide (16384 < p.code.length) = false := decide_eq_false (by omega)
  have HX := Lib.hid (show p.wins.length ≤ 256 ∧ p.crons.length ≤ 256 from ⟨x4, x5⟩)
  have HC := Lib.hid x2
  have HP := Lib.hid hp
  have HF := Lib.hid hF
  have HLT := Lib.hid (show 1 < w.heap.size from World.block_lt_of_cell? w _ (hF 0 (by decide)).1)
  clear x0 x1 x2 x3 x4 x5 x6 x7 x8 x9 x10 x11 h10 hp hF
  go_enter Tryd.func30, Tryd.ntmps30
  go_wp2_with fail
  refine (coreR_calls p _).mono ?_
  rintro e w1 ⟨rfl, b1⟩
  rw [HC.out]
  have hB := (below_alloc (Below.refl _ w) (.cells #[.int .i64 p.m, .int .i64 p.r0, .int .i64 p.r1, .int .i64 p.r2, .int .i64 p.r3, .int .i64 p.r4, .slice d.a6 p.consts.length d.c6, .slice d.a7 p.wins.length d.c7, .slice d.a8 p.crons.length d.c8, .int .i64 p.locals, .int .i64 p.height, .slice d.a11 p.code.length d.c11] 38)).trans (b1.mono (by simp))
  have B1 := Lib.hid hB
  have kb := blk_below (blk_new w (.cells #[.int .i64 p.m, .int .i64 p.r0, .int .i64 p.r1, .int .i64 p.r2, .int .i64 p.r3, .int .i64 p.r4, .slice d.a6 p.consts.length d.c6, .slice d.a7 p.wins.length d.c7, .slice d.a8 p.crons.length d.c8, .int .i64 p.locals, .int .i64 p.height, .slice d.a11 p.code.length d.c11] 38)) b1
  have q0 := (blk_cell kb 0).trans rfl
  have q1 := (blk_cell kb 1).trans rfl
  have q2 := (blk_cell kb 2).trans rfl
  have q3 := (blk_cell kb 3).trans rfl
  have q4 := (blk_cell kb 4).trans rfl
  have q5 := (blk_cell kb 5).trans rfl
  have q6 := (blk_cell kb 6).trans rfl
  have q7 := (blk_cell kb 7).trans rfl
  have q8 := (blk_cell kb 8).trans rfl
  have q9 := (blk_cell kb 9).trans rfl
  have q10 := (blk_cell kb 10).trans rfl
  have q11 := (blk_cell kb 11).trans rfl
  have KB := Lib.hid kb
  clear b1 hB kb
  go_wp2_with fail
  refine (conW_calls (m := p.m) ((HP.out.below B1.out).r7) HX.out.1 ((blk_cell KB.out 0).trans rfl)).mono ?_
  rintro e w2 ⟨rfl, b2⟩
  rw [HBW.out]
  have B2 := Lib.hid (B1.out.trans (b2.mono B1.out.size))
  have kb2 := blk_below KB.out b2
  have y8 := (blk_cell kb2 8).trans rfl
  clear b2 q0 q1 q2 q3 q4 q5 q6 q7 q8 q9 q10 q11 kb2
  cases bw with
  | true =>
    go_wp2
    go_ret
    exact ⟨by simp, B2.out⟩
  | false =>
    go_wp2_with fail
    refine (conC_calls ((HP.out.below B2.out).r8) HX.out.2 (HF.out.below B2.out HLT.out)).mono ?_
    rintro e w3 ⟨rfl, b3⟩
    rw [HBC.out]
    have B3 := Lib.hid (B2.out.trans (b3.mono B2.out.size))
    clear b3
    go_wp2
    go_ret
    exact ⟨by simp, B3.out⟩
theorem head_calls (hp : PgIn w p d) (hF : FieldsAt w) : Calls Tryd.prog 30 #[.agg #[.int .i64 p.m, .int .i64 p.r0, .int .i64 p.r1, .int .i64 p.r2, .int .i64 p.r3, .int .i64 p.r4, .slice d.a6 p.consts.length d.c6, .slice d.a7 p.wins.length d.c7, .slice d.a8 p.crons.length d.c8, .int .i64 p.locals, .int .i64 p.height, .slice d.a11 p.code.length d.c11]] w fun e w' => e = .returned (.bool (headB p)) ∧ Below w.heap.size w w' := by
  unfold headB
  by_cases hb : Bounds p
  · rw [decide_eq_true hb, Bool.true_and]
    exact head_good hb hp hF
  rw [decide_eq_false hb, Bool.false_and, Bool.false_and]
  by_cases h0 : p.m < 0
  · exact head_bad0 h0
  by_cases h1 : 64 < p.m
  · exact head_bad1 h0 h1
  cases h2 : coreR p with
  | false => exact head_bad2 h0 h1 h2
  | true =>
  by_cases h3 : 16384 < p.consts.length
  · exact head_bad3 h0 h1 h2 h3
  by_cases h4 : 256 < p.wins.length
  · exact head_bad4 h0 h1 h2 h3 h4
  by_cases h5 : 256 < p.crons.length
  · exact head_bad5 h0 h1 h2 h3 h4 h5
  by_cases h6 : p.locals < 0
  · exact head_bad6 h0 h1 h2 h3 h4 h5 h6
  by_cases h7 : 256 < p.locals
  · exact head_bad7 h0 h1 h2 h3 h4 h5 h6 h7
  by_cases h8 : p.height < 0
  · exact head_bad8 h0 h1 h2 h3 h4 h5 h6 h7 h8
  by_cases h9 : 4096 < p.height
  · exact head_bad9 h0 h1 h2 h3 h4 h5 h6 h7 h8 h9
  by_cases h10 : p.code.length < 1
  · exact head_bad10 h0 h1 h2 h3 h4 h5 h6 h7 h8 h9 h10
  by_cases h11 : 16384 < p.code.length
  · exact head_bad11 h0 h1 h2 h3 h4 h5 h6 h7 h8 h9 h10 h11
  exact absurd ⟨by omega, by omega, h2, by omega, by omega, by omega, by omega, by omega, by omega, by omega, by omega, by omega⟩ hb
end
end Go.Proofs.YtdgljnidkhfgpaaDoor
