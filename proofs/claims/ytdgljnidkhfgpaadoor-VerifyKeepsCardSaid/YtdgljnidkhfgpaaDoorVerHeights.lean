/-
  The verifier's Check and Heights: what they answer.
-/
import Derived.Test.YtdgljnidkhfgpaaDoorVerCheck
namespace Go.Proofs.YtdgljnidkhfgpaaDoor
set_option linter.unusedVariables false
set_option linter.unusedSimpArgs false
open Go.RowKit Go.Proofs.YtdgljnidkhfgpaaDoor.XVer Go.Proofs.YtdgljnidkhfgpaaDoorW.PrintWords Go.Proofs.YtdgljnidkhfgpaaDoorW.PrintLast Go.Proofs.YtdgljnidkhfgpaaDoorW.PrintMore

theorem infoH : (Tryd.prog.info? 3).map (fun i => (i.zero, i.size, i.bytes)) = some (some (.int .i64 0), 1, 8) := by kernel_rfl
def checkV (p : Pg) : Int × Int := match checkP p with
  | .inl i => ((i : Int), 41)
  | .inr _ => (0, 0)
def HeightsPost (p : Pg) (w : World) (e : Ending) (w' : World) : Prop := Below w.heap.size w w' ∧
  ((∃ i, checkP p = .inl i ∧ e = .returned (.tuple #[.slice none 0 0, .int .i64 41])) ∨
    ∃ (P : List Pl) (A : Option Addr) (c : Nat), checkP p = .inr P ∧ headB p = true ∧ P.length = p.code.length ∧ e = .returned (.tuple #[.slice A P.length c, .int .i64 0]) ∧ Kd.C (Kd.int .i64) w' A P.length (P.map (·.h)) ∧ P.length ≤ c)
/-- The same, with the row as the call's own. -/
def HeightsPost2 (p : Pg) (w : World) (e : Ending) (w' : World) : Prop := Below w.heap.size w w' ∧
  ((∃ i, checkP p = .inl i ∧ e = .returned (.tuple #[.slice none 0 0, .int .i64 41])) ∨
    ∃ (P : List Pl) (A : Option Addr) (c : Nat), checkP p = .inr P ∧ headB p = true ∧ P.length = p.code.length ∧ e = .returned (.tuple #[.slice A P.length c, .int .i64 0]) ∧ Kd.C (Kd.int .i64) w' A P.length (P.map (·.h)) ∧ P.length ≤ c ∧ Kd.R (Kd.int .i64) 3 w' w.heap.size (fun _ => True) (.slice A P.length c) (P.map (·.h)))
def heightsV (p : Pg) : List Int × Int := match checkP p with
  | .inl _ => ([], 41)
  | .inr P => (P.map (·.h), 0)
theorem place_cells {w : World} {ga : Nat} {P : List Pl} (ha : w.heap[ga]? = some (.cells (cellsOf encP P) 73 (0, 0))) {j : Nat} (hj : j < P.length) : w.cell? ⟨ga, j * 3, none⟩ = some (.int .i64 (P.getD j Pl.z).h) ∧ w.cell? ⟨ga, j * 3 + 1, none⟩ = some (.int .i64 (P.getD j Pl.z).t) ∧ w.cell? ⟨ga, j * 3 + 2, none⟩ = some (.bool (P.getD j Pl.z).k) := by
  have h0 : P[j]? = some (P.getD j Pl.z) := by rw [List.getD_eq_getElem?_getD, List.getElem?_eq_getElem hj]; rfl
  refine ⟨?_, ?_, ?_⟩
  · rw [blk_cell ha]
    have := cells_get_of (enc := encP) (j := 0) encP_len h0 (by decide)
    simpa [encP] using this
  · rw [blk_cell ha]
    have := cells_get_of (enc := encP) (j := 1) encP_len h0 (by decide)
    simpa [encP] using this
  · rw [blk_cell ha]
    have := cells_get_of (enc := encP) (j := 2) encP_len h0 (by decide)
    simpa [encP] using this
theorem runP_len {p : Pg} : ∀ (k i : Nat) (P Q : List Pl), runP p k i P = .inr Q → Q.length = P.length
  | 0, i, P, Q, h => by
    unfold runP at h
    injection h with h
    rw [h]
  | k + 1, i, P, Q, h => by
    unfold runP at h
    by_cases c : (stepP p P i).1 = true
    · rw [if_pos c] at h
      exact (runP_len k (i + 1) _ Q h).trans (stepP_len _ _ _)
    · rw [if_neg c] at h
      cases h
section
variable {w : World} {p : Pg} {d : Hd}
set_option maxHeartbeats 4000000 in
set_option maxRecDepth 100000 in
theorem verCheck_calls (hp : PgIn w p d) (hF : FieldsAt w) (hT : TabAt w) (hA : ∀ x ∈ p.code, -9223372036854775808 ≤ x.f1 ∧ x.f1 ≤ 9223372036854775807) :
    Calls Tryd.prog 9 #[.agg #[.int .i64 p.m, .int .i64 p.r0, .int .i64 p.r1, .int .i64 p.r2, .int .i64 p.r3, .int .i64 p.r4, .slice d.a6 p.consts.length d.c6, .slice d.a7 p.wins.length d.c7, .slice d.a8 p.crons.length d.c8, .int .i64 p.locals, .int .i64 p.height, .slice d.a11 p.code.length d.c11]] w fun e w' => e = .returned (.tuple #[.int .i64 (checkV p).1, .int .i64 (checkV p).2]) ∧ Below w.heap.size w w' := by
  have HLT := Lib.hid (show 1 < w.heap.size from World.block_lt_of_cell? w _ (hF 0 (by decide)).1)
  obtain ⟨wb, hwb⟩ : ∃ wb, w.alloc (.cells #[.int .i64 p.m, .int .i64 p.r0, .int .i64 p.r1, .int .i64 p.r2, .int .i64 p.r3, .int .i64 p.r4, .slice d.a6 p.consts.length d.c6, .slice d.a7 p.wins.length d.c7, .slice d.a8 p.crons.length d.c8, .int .i64 p.locals, .int .i64 p.height, .slice d.a11 p.code.length d.c11] 38) = wb := ⟨_, rfl⟩
  have HBB := Lib.hid (show Below w.heap.size w wb by rw [← hwb]; exact below_alloc (Below.refl _ w) _)
  have HWB := Lib.hid hwb
  have HC := Lib.hid (check_calls (hp.below HBB.out) (hF.below HBB.out HLT.out) (hT.below HBB.out (by have := HLT.out; omega)) hA)
  clear hwb hp hF hT hA
  go_enter Tryd.func9, Tryd.ntmps9
  go_wp2_with fail
  rw [HWB.out]
  refine HC.out.mono ?_
  rintro e w1 ⟨hb, ⟨i, hi, rfl⟩ | ⟨P, ga, h1, h2, h3, rfl, h5, h6⟩⟩
  · have HB := Lib.hid hb
    have HI := Lib.hid hi
    clear hb hi
    go_wp2
    go_ret2
    refine ⟨by unfold checkV; rw [HI.out]; simp, HBB.out.trans (HB.out.mono HBB.out.size)⟩
  · have HB := Lib.hid hb
    have HI := Lib.hid h1
    clear hb h1 h2 h3 h5 h6
    go_wp2
    go_ret2
    refine ⟨by unfold checkV; rw [HI.out]; simp, HBB.out.trans (HB.out.mono HBB.out.size)⟩
set_option maxHeartbeats 8000000 in
set_option maxRecDepth 100000 in
theorem heights_both (hp : PgIn w p d) (hF : FieldsAt w) (hT : TabAt w) (hA : ∀ x ∈ p.code, -9223372036854775808 ≤ x.f1 ∧ x.f1 ≤ 9223372036854775807) :
    Calls Tryd.prog 10 #[.agg #[.int .i64 p.m, .int .i64 p.r0, .int .i64 p.r1, .int .i64 p.r2, .int .i64 p.r3, .int .i64 p.r4, .slice d.a6 p.consts.length d.c6, .slice d.a7 p.wins.length d.c7, .slice d.a8 p.crons.length d.c8, .int .i64 p.locals, .int .i64 p.height, .slice d.a11 p.code.length d.c11]] w (HeightsPost2 p w) := by
  have HLT := Lib.hid (show 1 < w.heap.size from World.block_lt_of_cell? w _ (hF 0 (by decide)).1)
  obtain ⟨wb, hwb⟩ : ∃ wb, w.alloc (.cells #[.int .i64 p.m, .int .i64 p.r0, .int .i64 p.r1, .int .i64 p.r2, .int .i64 p.r3, .int .i64 p.r4, .slice d.a6 p.consts.length d.c6, .slice d.a7 p.wins.length d.c7, .slice d.a8 p.crons.length d.c8, .int .i64 p.locals, .int .i64 p.height, .slice d.a11 p.code.length d.c11] 38) = wb := ⟨_, rfl⟩
  have HBB := Lib.hid (show Below w.heap.size w wb by rw [← hwb]; exact below_alloc (Below.refl _ w) _)
  have HWB := Lib.hid hwb
  have HC := Lib.hid (check_calls (hp.below HBB.out) (hF.below HBB.out HLT.out) (hT.below HBB.out (by have := HLT.out; omega)) hA)
  clear hwb hp hF hT hA
  go_enter Tryd.func10, Tryd.ntmps10
  go_wp2_with fail
  rw [HWB.out]
  refine HC.out.mono ?_
  rintro e w1 ⟨hb, ⟨i, hi, rfl⟩ | ⟨P, ga, h1, h2, h3, rfl, h5, h6⟩⟩
  · have HB := Lib.hid hb
    have HI := Lib.hid hi
    clear hb hi
    go_wp2
    go_ret2
    refine ⟨HBB.out.trans (HB.out.mono HBB.out.size), .inl ⟨i, HI.out, by simp⟩⟩
  · have HB := Lib.hid (HBB.out.trans (hb.mono HBB.out.size))
    have HI := Lib.hid h1
    have HH := Lib.hid h2
    have HL := Lib.hid h3
    have HP := Lib.hid h5
    have HLP := Lib.hid (show P.length ≤ 16384 by unfold headB at h2; simp at h2; have := h2.1.1; unfold Bounds at this; omega)
    clear hb h1 h2 h3 h5 h6
    go_wp2
    go_loopg [7, 21] P.length (fun kq v7 v21 w' => ∃ i : Nat, v21 = .int .i64 i ∧ Aside0 (i + kq = P.length) ∧ Aside0 (Kd.R (Kd.int .i64) 3 w' w1.heap.size (fun _ => True) v7 ((P.take i).map (·.h))) ∧ Aside0 (Below w1.heap.size w1 w'))
    case atStart => exact ⟨0, rfl, ⟨by omega⟩, ⟨Kd.R_nil _ _ _ _ _⟩, ⟨Below.refl _ _⟩⟩
    case round =>
      obtain ⟨i, rfl, hk, hr, hb⟩ := hrel
      by_cases hi : i < P.length
      · have hd : decide (i < P.length) = true := decide_eq_true hi
        obtain ⟨r0', r1', r2'⟩ := place_cells HP.out hi
        have r0 := (hb.out.cell (World.block_lt_of_cell? w1 _ r0')).trans r0'
        have r1 := (hb.out.cell (World.block_lt_of_cell? w1 _ r1')).trans r1'
        have r2 := (hb.out.cell (World.block_lt_of_cell? w1 _ r2')).trans r2'
        have f1 := eq_true (show (0 : Int) ≤ (i : Int) by omega)
        have f2 : ((i : Int) < (P.length : Int)) = True := eq_true (by omega)
        have f3 := eq_true hi
        have Hi := Lib.hid hi
        obtain ⟨x, hx⟩ : ∃ x, P.getD i Pl.z = x := ⟨_, rfl⟩
        rw [hx] at r0 r1 r2
        have HX := Lib.hid hx
        obtain ⟨L, hL⟩ : ∃ L, (P.take i).map (·.h) = L := ⟨_, rfl⟩
        rw [hL] at hr
        have HLL := Lib.hid hL
        have HLn := Lib.hid (show L.length = i by rw [← hL, List.length_map, List.length_take]; omega)
        clear hL hx
        obtain ⟨A3, c3, rfl⟩ := Kd.R_slice hr.out
        clear r0' r1' r2' hi
        go_wp2_with (first | ((with_reducible refine gate_builtin (b := .append) (xs := #[.tmp 25, .tmp 29]) rfl ?_); at_builtin; refine Kd.R_append (Kd.int .i64) (w0 := w1) w1.heap.size rfl (.tmp 25) (.tmp 29) 44 3 (.int .i64 0) 8 rfl Tryd.underlying44 infoH rfl (by decide) (by decide) (.slice A3 L.length c3) L x.h [.int .i64 x.h] (fun _ => True) (fun _ => False) (by rfl) (by simp only [World.size_alloc]; rfl) ?aP (fun _ hk => hk.elim) ?aF ?aO ?aB ?aS ?aL ?_; (case aP => exact rfl); (case aF => exact (fun _ _ => trivial)); (case aO => exact (by (with_reducible repeat (first | apply Kd.R_alloc | apply Kd.R_drewN | apply Kd.R_drew)); exact hr.out)); (case aB => exact (by repeat (first | (with_reducible first | exact hb.out | apply below_alloc | apply pw_below_drewN | apply below_drew1) | exact hb.out))); (case aS => exact (below_size (by repeat (first | (with_reducible first | exact hb.out | apply below_alloc | apply pw_below_drewN | apply below_drew1) | exact hb.out)))); (case aL => have := HLP.out; have := HLn.out; have := Hi.out; omega); intro v108 w9 ho hb9 hg hat; have HO := Lib.hid ho; have HB9 := Lib.hid hb9; clear ho hb9 hg hat))
        have hw : wrap64 ((i : Int) + 1) = ((i + 1 : Nat) : Int) := by have := Hi.out; have := HLP.out; unfold wrap64; omega
        go_roundg (gk - 1)
        case measure => have := hk.out; have := Hi.out; omega
        case rel =>
          refine ⟨i + 1, by first | rfl | simp [hw], ⟨by have := hk.out; have := Hi.out; omega⟩, ⟨?_⟩, ⟨HB9.out⟩⟩
          have e : (P.take (i + 1)).map (·.h) = L ++ [x.h] := by
            have hx : P[i]'Hi.out = x := by
              have := HX.out
              rw [List.getD_eq_getElem?_getD, List.getElem?_eq_getElem Hi.out] at this
              exact this
            rw [← HLL.out, List.take_add_one, List.getElem?_eq_getElem Hi.out, Option.toList_some, List.map_append, hx]
            rfl
          rw [e]
          exact HO.out
      · have hd : decide (i < P.length) = false := decide_eq_false hi
        have hik : i = P.length := by have := hk.out; omega
        rw [hik, List.take_length] at hr
        clear hik hi
        obtain ⟨L, hL⟩ : ∃ L, P.map (·.h) = L := ⟨_, rfl⟩
        rw [hL] at hr
        have HLL := Lib.hid hL
        have HLn := Lib.hid (show L.length = P.length by rw [← hL, List.length_map])
        clear hL
        obtain ⟨A3, c3, rfl⟩ := Kd.R_slice hr.out
        go_wp2
        go_ret2
        have q := Kd.R_reads' hr.out
        rw [HLn.out] at q
        refine ⟨HB.out.trans (hb.out.mono HB.out.size), .inr ⟨P, A3, c3, HI.out, HH.out, HL.out, ?_, ?_, q.2.1, ?_⟩⟩
        · simp [HLn.out]
        · rw [HLL.out]; exact q.2.2
        · have r := Kd.R_lower hr.out HB.out.size
          rw [HLn.out] at r
          rw [HLL.out]
          exact r
theorem heights_calls (hp : PgIn w p d) (hF : FieldsAt w) (hT : TabAt w) (hA : ∀ x ∈ p.code, -9223372036854775808 ≤ x.f1 ∧ x.f1 ≤ 9223372036854775807) :
    Calls Tryd.prog 10 #[.agg #[.int .i64 p.m, .int .i64 p.r0, .int .i64 p.r1, .int .i64 p.r2, .int .i64 p.r3, .int .i64 p.r4, .slice d.a6 p.consts.length d.c6, .slice d.a7 p.wins.length d.c7, .slice d.a8 p.crons.length d.c8, .int .i64 p.locals, .int .i64 p.height, .slice d.a11 p.code.length d.c11]] w (HeightsPost p w) :=
  (heights_both hp hF hT hA).mono fun e w' ⟨h0, h⟩ => ⟨h0, h.imp id fun ⟨P, A, c, h1, h2, h3, h4, h5, h6, _⟩ => ⟨P, A, c, h1, h2, h3, h4, h5, h6⟩⟩
theorem heights_own (hp : PgIn w p d) (hF : FieldsAt w) (hT : TabAt w) (hA : ∀ x ∈ p.code, -9223372036854775808 ≤ x.f1 ∧ x.f1 ≤ 9223372036854775807) :
    Calls Tryd.prog 10 #[.agg #[.int .i64 p.m, .int .i64 p.r0, .int .i64 p.r1, .int .i64 p.r2, .int .i64 p.r3, .int .i64 p.r4, .slice d.a6 p.consts.length d.c6, .slice d.a7 p.wins.length d.c7, .slice d.a8 p.crons.length d.c8, .int .i64 p.locals, .int .i64 p.height, .slice d.a11 p.code.length d.c11]] w fun e w' => ∃ v, e = .returned (.tuple #[v, .int .i64 (heightsV p).2]) ∧ Kd.R (Kd.int .i64) 3 w' w.heap.size (fun _ => True) v (heightsV p).1 ∧ Below w.heap.size w w' := by
  refine (heights_both hp hF hT hA).mono ?_
  rintro e w' ⟨h0, ⟨i, hi, rfl⟩ | ⟨P, A, c, h1, h2, h3, rfl, h5, h6, h7⟩⟩
  · refine ⟨.slice none 0 0, ?_, ?_, h0⟩
    · unfold heightsV; rw [hi]
    · unfold heightsV; rw [hi]; exact Kd.R_nil _ _ _ _ _
  · refine ⟨.slice A P.length c, ?_, ?_, h0⟩
    · unfold heightsV; rw [h1]
    · unfold heightsV; rw [h1]; exact h7
theorem heightsV_len (p : Pg) : (heightsV p).1.length ≤ 16384 := by
  unfold heightsV checkP
  by_cases h : headB p = true
  · rw [if_pos h]
    have hb : p.code.length ≤ 16384 := by unfold headB at h; simp at h; have := h.1.1; unfold Bounds at this; omega
    cases hr : runP p p.code.length 0 (startP p.code.length) with
    | inl i => simp
    | inr P =>
      simp only [List.length_map]
      rw [runP_len _ _ _ _ hr, startP_len]
      exact hb
  · rw [if_neg h]
    simp
end
end Go.Proofs.YtdgljnidkhfgpaaDoor
