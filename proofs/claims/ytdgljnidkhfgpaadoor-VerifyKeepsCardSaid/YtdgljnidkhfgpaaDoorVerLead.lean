/-
  What the verifier's lead and jump do to its places.
-/
import Derived.Test.YtdgljnidkhfgpaaDoorVerPure
import Derived.Test.YtdgljnidkhfgpaaDoorBase
import Derived.Test.YtdgljnidkhfgpaaDoorStill
namespace Go.Proofs.YtdgljnidkhfgpaaDoor
set_option linter.unusedVariables false
set_option linter.unusedSimpArgs false
open Go.RowKit Go.Proofs.YtdgljnidkhfgpaaDoorW.PrintWords Go.Proofs.YtdgljnidkhfgpaaDoorW.PrintLast Go.Proofs.YtdgljnidkhfgpaaDoorW.PrintMore

theorem eqState_in (h t h2 t2 : Int) (d : Nat) (w : World) : (Op.equalIn (d + 2) 71 (.agg #[.int .i64 h, .int .i64 t]) (.agg #[.int .i64 h2, .int .i64 t2])).run Tryd.prog w = .ok ((h == h2) && (t == t2)) w := by
  refine eqA_of Tryd.underlying71 (by kernel_rfl) ?_
  refine eqf_cons (by rfl) (by go_simp; rfl) (by go_simp; rfl) (by go_simp) ?_
  exact eqf_last (by rfl) (by go_simp; rfl) (by go_simp; rfl) (by go_simp)
theorem eqState (h t h2 t2 : Int) (w : World) : (binOp .eql 71 (.agg #[.int .i64 h, .int .i64 t]) (.agg #[.int .i64 h2, .int .i64 t2])).run Tryd.prog w = .ok (.bool ((h == h2) && (t == t2))) w := by
  simp only [binOp]
  simp [Op.equal, Op.maxDepth, eqState_in h t h2 t2 9998 w]
section
variable {w0 w : World} {g ga : Nat} {p : Pg} {d : Hd} {P : List Pl}
theorem ChkAt.cells (i : ChkAt w0 w g ga p d P) : w.cell? ⟨g, 10, none⟩ = some (.int .i64 p.height) ∧ w.cell? ⟨g, 12, none⟩ = some (.slice (some ⟨ga, 0, none⟩) P.length P.length) := ⟨(blk_cell i.hb 10).trans rfl, (blk_cell i.hb 12).trans rfl⟩
set_option maxHeartbeats 4000000 in
set_option maxRecDepth 100000 in
theorem lead_out {tg h t : Int} (i : ChkAt w0 w g ga p d P) (hl : P.length ≤ 16384) (ho : tg < 0 ∨ (P.length : Int) ≤ tg ∨ p.height < h) : Calls Tryd.prog 49 #[.pointer (some ⟨g, 0, none⟩), .int .i64 tg, .agg #[.int .i64 h, .int .i64 t]] w fun e w' => e = .returned (.bool false) ∧ Below w.heap.size w w' := by
  obtain ⟨c10, c12⟩ := i.cells
  have lt1 := blk_lt i.hb
  have ne1 : ¬ g = w.heap.size := by omega
  have ne2 : ¬ w.heap.size = g := by omega
  clear i
  by_cases h0 : tg < 0
  · have d0 : decide (tg < 0) = true := decide_eq_true h0
    clear ho h0
    go_enter Tryd.func49, Tryd.ntmps49
    go_wp2
    go_quiet (fail)
    go_wp2
    go_ret
    exact ⟨by simp, pw_below_drewN (below_alloc (Below.refl _ _) _) _⟩
  · have d0 : decide (tg < 0) = false := decide_eq_false h0
    by_cases h1 : (P.length : Int) ≤ tg
    · have d1 : decide ((P.length : Int) ≤ tg) = true := decide_eq_true h1
      clear ho h0 h1
      go_enter Tryd.func49, Tryd.ntmps49
      go_wp2
      go_quiet (fail)
      go_wp2
      go_ret
      exact ⟨by simp, pw_below_drewN (below_alloc (Below.refl _ _) _) _⟩
    · have d1 : decide ((P.length : Int) ≤ tg) = false := decide_eq_false h1
      have d2 : decide (p.height < h) = true := decide_eq_true (by omega)
      clear ho h0 h1
      go_enter Tryd.func49, Tryd.ntmps49
      go_wp2
      go_quiet (fail)
      go_wp2
      go_ret
      exact ⟨by simp, pw_below_drewN (below_alloc (Below.refl _ _) _) _⟩
/-- What lead leaves of a place within the code. -/
def LeadPost (w0 : World) (g ga : Nat) (p : Pg) (d : Hd) (P : List Pl) (w : World) (j : Nat) (h t : Int) (e : Ending) (w' : World) : Prop :=
  (P.getD j Pl.z).k = true ∧ e = .returned (.bool (((P.getD j Pl.z).h == h) && ((P.getD j Pl.z).t == t))) ∧ Below w.heap.size w w' ∨ (P.getD j Pl.z).k = false ∧ e = .returned (.bool true) ∧ ChkAt w0 w' g ga p d (P.set j ⟨h, t, true⟩) ∧ Kept w w' (fun k => k = ga)
set_option maxHeartbeats 4000000 in
set_option maxRecDepth 100000 in
theorem lead_in {j : Nat} {h t : Int} (i : ChkAt w0 w g ga p d P) (hl : P.length ≤ 16384) (hj : j < P.length) (hh : h ≤ p.height) : Calls Tryd.prog 49 #[.pointer (some ⟨g, 0, none⟩), .int .i64 (j : Int), .agg #[.int .i64 h, .int .i64 t]] w (LeadPost w0 g ga p d P w j h t) := by
  obtain ⟨c10, c12⟩ := i.cells
  have lt1 := blk_lt i.hb
  have ne1 : ¬ g = w.heap.size := by omega
  have ne2 : ¬ w.heap.size = g := by omega
  have lt2 := blk_lt i.ha
  have ne3 : ¬ ga = w.heap.size := by omega
  have ne4 : ¬ w.heap.size = ga := by omega
  obtain ⟨q0, q1, q2⟩ := i.cell hj
  have g0 := blk_frozen i.ha (j * 3)
  have g1 := blk_frozen i.ha (j * 3 + 1)
  have g2 := blk_frozen i.ha (j * 3 + 2)
  obtain ⟨x, hx⟩ : ∃ x, P.getD j Pl.z = x := ⟨_, rfl⟩
  rw [hx] at q0 q1 q2
  have HX := Lib.hid hx
  obtain ⟨xh, xt, xk⟩ := x
  simp only at q0 q1 q2
  have d0 : decide ((j : Int) < 0) = false := decide_eq_false (by omega)
  have d1 : decide ((P.length : Int) ≤ (j : Int)) = false := decide_eq_false (by omega)
  have d3 : decide (P.length ≤ j) = false := decide_eq_false (by omega)
  have d2 : decide (p.height < h) = false := decide_eq_false (by omega)
  have e1 := eq_true (show (0 : Int) ≤ (j : Int) by omega)
  have e2 : ((j : Int) < (P.length : Int)) = True := eq_true (by omega)
  have e3 := eq_true hj
  have EQ := eqState xh xt h t
  have HI := Lib.hid i
  have Hj := Lib.hid hj
  have HGA := Lib.hid (blk_lt i.ha)
  clear i hj hh hx hl
  cases xk with
  | true =>
    go_enter Tryd.func49, Tryd.ntmps49
    go_wp2
    go_quiet (fail)
    go_wp2
    go_quiet (fail)
    go_wp2
    go_ret
    unfold LeadPost
    rw [HX.out]
    exact .inl ⟨rfl, by simp, by repeat (first | apply pw_below_drewN | apply below_alloc | exact Below.refl _ _)⟩
  | false =>
    go_enter Tryd.func49, Tryd.ntmps49
    go_wp2
    go_quiet (fail)
    go_wp2
    refine still_tail 8 (by kernel_rfl) (by kernel_rfl) ?_
    simp only [List.take_succ_cons, List.take_zero, List.drop_succ_cons, List.drop_zero]
    repeat still_step
    refine wpStill_nil ?_
    go_wp2
    go_ret
    unfold LeadPost
    rw [HX.out]
    refine .inr ⟨rfl, by simp, ?_, ?_⟩
    · exact (HI.out.below (pw_below_drewN (below_alloc (Below.refl _ w) (.cells #[.int .i64 h, .int .i64 t] 71)) (nq + 1))).set Hj.out ⟨h, t, true⟩
    · exact Kept.setCell (S := fun k => k = ga) (p := ⟨ga, j * 3 + 2, none⟩) (Kept.setCell (S := fun k => k = ga) (p := ⟨ga, j * 3 + 1, none⟩) (Kept.setCell (S := fun k => k = ga) (p := ⟨ga, j * 3, none⟩) (((Kept.refl w _).alloc _).drewN _) (.inl rfl) _) (.inl rfl) _) (.inl rfl) _
theorem lead_calls {tg h t : Int} (i : ChkAt w0 w g ga p d P) (hl : P.length ≤ 16384) : Calls Tryd.prog 49 #[.pointer (some ⟨g, 0, none⟩), .int .i64 tg, .agg #[.int .i64 h, .int .i64 t]] w fun e w' =>
    e = .returned (.bool (leadP p.height P tg h t).1) ∧ ChkAt w0 w' g ga p d (leadP p.height P tg h t).2 ∧ Kept w w' (fun k => k = ga) := by
  by_cases ho : tg < 0 ∨ (P.length : Int) ≤ tg ∨ p.height < h
  · refine (lead_out i hl ho).mono ?_
    rintro e w' ⟨rfl, hb⟩
    unfold leadP
    rw [if_pos ho]
    exact ⟨rfl, i.below hb, Kept.of_below hb _⟩
  · obtain ⟨j, rfl⟩ := Int.eq_ofNat_of_zero_le (show 0 ≤ tg by omega)
    refine (lead_in (j := j) (t := t) i hl (by omega) (by omega)).mono ?_
    rintro e w' (⟨hk, rfl, hb⟩ | ⟨hk, rfl, h1, h2⟩)
    · unfold leadP
      rw [if_neg ho, Int.toNat_natCast, if_pos hk]
      refine ⟨?_, i.below hb, Kept.of_below hb _⟩
      congr 2
      rw [Bool.eq_iff_iff]
      simp
    · unfold leadP
      rw [if_neg ho, Int.toNat_natCast, if_neg (by rw [hk]; decide)]
      exact ⟨rfl, h1, h2⟩
set_option maxHeartbeats 4000000 in
set_option maxRecDepth 100000 in
theorem jump_calls {n tg h t : Int} (i : ChkAt w0 w g ga p d P) (hl : P.length ≤ 16384) : Calls Tryd.prog 48 #[.pointer (some ⟨g, 0, none⟩), .int .i64 n, .int .i64 tg, .agg #[.int .i64 h, .int .i64 t]] w fun e w' =>
    e = .returned (.bool (jumpP p.height P n tg h t).1) ∧ ChkAt w0 w' g ga p d (jumpP p.height P n tg h t).2 ∧ Kept w w' (fun k => k = ga) := by
  have HI := Lib.hid (i.below (below_alloc (Below.refl _ w) (.cells #[.int .i64 h, .int .i64 t] 71)))
  have HL := Lib.hid hl
  clear i hl
  unfold jumpP
  by_cases ho : n < tg
  · rw [if_pos ho]
    have d0 : decide (n < tg) = true := decide_eq_true ho
    obtain ⟨b, hb⟩ : ∃ b, (leadP p.height P tg h t).1 = b := ⟨_, rfl⟩
    obtain ⟨Q, hQ⟩ : ∃ Q, (leadP p.height P tg h t).2 = Q := ⟨_, rfl⟩
    have HLC := Lib.hid (show Calls Tryd.prog 49 #[.pointer (some ⟨g, 0, none⟩), .int .i64 tg, .agg #[.int .i64 h, .int .i64 t]] (w.alloc (.cells #[.int .i64 h, .int .i64 t] 71)) fun e w' =>
      e = .returned (.bool b) ∧ ChkAt w0 w' g ga p d Q ∧ Kept (w.alloc (.cells #[.int .i64 h, .int .i64 t] 71)) w' (fun k => k = ga) from by rw [← hb, ← hQ]; exact lead_calls HI.out HL.out)
    rw [hb, hQ]
    clear ho hb hQ
    go_enter Tryd.func48, Tryd.ntmps48
    go_wp2_with fail
    refine HLC.out.mono ?_
    rintro e w2 ⟨rfl, h1, h2⟩
    have H1 := Lib.hid h1
    have H2 := Lib.hid h2
    clear h1 h2
    go_wp2
    go_ret
    exact ⟨by simp, H1.out, Kept.then_ (Kept.of_below (below_alloc (Below.refl _ w) _) _) H2.out (fun k hk => .inl hk)⟩
  · rw [if_neg ho]
    have d0 : decide (n < tg) = false := decide_eq_false ho
    clear ho
    go_enter Tryd.func48, Tryd.ntmps48
    go_wp2
    go_ret
    exact ⟨by simp, HI.out, Kept.of_below (below_alloc (Below.refl _ w) _) _⟩
end
end Go.Proofs.YtdgljnidkhfgpaaDoor
