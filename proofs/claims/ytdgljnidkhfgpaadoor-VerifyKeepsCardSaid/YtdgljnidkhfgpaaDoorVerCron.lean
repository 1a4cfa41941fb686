/-
  Schedules: what the program's Formed answers.
-/
import Derived.Test.YtdgljnidkhfgpaaDoorVerPure
import Derived.Test.YtdgljnidkhfgpaaDoorBase
namespace Go.Proofs.YtdgljnidkhfgpaaDoor
set_option linter.unusedVariables false
set_option linter.unusedSimpArgs false
open Go.RowKit Go.Proofs.YtdgljnidkhfgpaaDoor.XVer Go.Proofs.YtdgljnidkhfgpaaDoorW.PrintWords Go.Proofs.YtdgljnidkhfgpaaDoorW.PrintLast Go.Proofs.YtdgljnidkhfgpaaDoorW.PrintMore

def lowF (i : Nat) : Int := [0, 0, 1, 1, 0].getD i 0
def highF (i : Nat) : Int := [59, 23, 31, 12, 6].getD i 0
def allF (i : Nat) : Int := [1152921504606846975, 16777215, 4294967294, 8190, 127].getD i 0
/-- The fields lie in their variable. -/
def FieldsAt (w : World) : Prop := ∀ k : Nat, k < 5 → w.cell? ⟨1, k * 2, none⟩ = some (.int .i64 (lowF k)) ∧ w.cell? ⟨1, k * 2 + 1, none⟩ = some (.int .i64 (highF k))
theorem FieldsAt.below {w w' : World} (h : FieldsAt w) {n : Nat} (hb : Below n w w') (h0 : 1 < n) : FieldsAt w' := fun k hk =>
  ⟨(hb.cell (p := ⟨1, k * 2, none⟩) h0).trans (h k hk).1, (hb.cell (p := ⟨1, k * 2 + 1, none⟩) h0).trans (h k hk).2⟩
theorem all_at (i : Nat) (hi : i < 5) (w : World) : Calls Tryd.prog 53 #[.agg #[.int .i64 (lowF i), .int .i64 (highF i)]] w fun e w' => e = .returned (.int .u64 (allF i)) ∧ Below w.heap.size w w' := by
  have h : cron_field_all.f (lowF i) (highF i) = some (allF i) := by
    rcases (show i = 0 ∨ i = 1 ∨ i = 2 ∨ i = 3 ∨ i = 4 by omega) with rfl | rfl | rfl | rfl | rfl <;> kernel_rfl
  exact cron_field_all.calls _ _ _ w h
set_option maxRecDepth 100000 in
theorem sets_calls (c : CronS) (w : World) : Calls Tryd.prog 52 #[.agg #[.int .u64 c.f0, .int .u64 c.f1, .int .u64 c.f2, .int .u64 c.f3, .int .u64 c.f4]] w fun e w' =>
    e = .returned (.agg #[.int .u64 c.f0, .int .u64 c.f1, .int .u64 c.f2, .int .u64 c.f3, .int .u64 c.f4]) ∧ Below w.heap.size w w' := by
  go_enter Tryd.func52, Tryd.ntmps52
  go_wp2
  refine bodyPost_ret (v := .agg #[.int .u64 c.f0, .int .u64 c.f1, .int .u64 c.f2, .int .u64 c.f3, .int .u64 c.f4]) (by simp [results, Tryd.results52, go_sem]) rfl ⟨rfl, ?_⟩
  exact below_alloc (below_alloc (Below.refl _ _) _) _
/-- A field of a schedule, and what is wrong with it. -/
def fldC (c : CronS) (i : Nat) : Int := [c.f0, c.f1, c.f2, c.f3, c.f4].getD i 0
def badF (c : CronS) (i : Nat) : Bool := (fldC c i == 0) || (bits BinOp.andNot .u64 (fldC c i) (allF i) != 0)
def formedB (c : CronS) : Bool := (List.range 5).all fun i => !badF c i
theorem formedB_bad {c : CronS} {i : Nat} (hi : i < 5) (h : badF c i = true) : formedB c = false := by
  unfold formedB
  rw [List.all_eq_false]
  exact ⟨i, List.mem_range.2 hi, by rw [h]; decide⟩
theorem formedB_good {c : CronS} (h : ∀ j, j < 5 → badF c j = false) : formedB c = true := by
  unfold formedB
  rw [List.all_eq_true]
  intro j hj
  rw [h j (List.mem_range.1 hj)]
  rfl
set_option maxHeartbeats 8000000 in
set_option maxRecDepth 100000 in
theorem formed_calls (c : CronS) (w : World) (hF : FieldsAt w) : Calls Tryd.prog 46 #[.agg #[.int .u64 c.f0, .int .u64 c.f1, .int .u64 c.f2, .int .u64 c.f3, .int .u64 c.f4]] w fun e w' =>
    e = .returned (.bool (formedB c)) ∧ Below w.heap.size w w' := by
  have HF := Lib.hid hF
  have HLT := Lib.hid (show 1 < w.heap.size from World.block_lt_of_cell? w _ (hF 0 (by decide)).1)
  clear hF
  go_enter Tryd.func46, Tryd.ntmps46
  go_wp2_with fail
  refine (sets_calls c _).mono ?_
  rintro e w1 ⟨rfl, b1⟩
  have HB := Lib.hid ((below_alloc (Below.refl _ w) (.cells #[.int .u64 c.f0, .int .u64 c.f1, .int .u64 c.f2, .int .u64 c.f3, .int .u64 c.f4] 82)).trans (b1.mono (by simp)))
  clear b1
  have i0 : ∀ w, (Instr.index 94 (.agg #[.int .u64 c.f0, .int .u64 c.f1, .int .u64 c.f2, .int .u64 c.f3, .int .u64 c.f4]) (.int .i64 0)).run Tryd.prog w = .ok (.int .u64 c.f0) w := fun _ => by kernel_rfl
  have i1 : ∀ w, (Instr.index 94 (.agg #[.int .u64 c.f0, .int .u64 c.f1, .int .u64 c.f2, .int .u64 c.f3, .int .u64 c.f4]) (.int .i64 1)).run Tryd.prog w = .ok (.int .u64 c.f1) w := fun _ => by kernel_rfl
  have i2 : ∀ w, (Instr.index 94 (.agg #[.int .u64 c.f0, .int .u64 c.f1, .int .u64 c.f2, .int .u64 c.f3, .int .u64 c.f4]) (.int .i64 2)).run Tryd.prog w = .ok (.int .u64 c.f2) w := fun _ => by kernel_rfl
  have i3 : ∀ w, (Instr.index 94 (.agg #[.int .u64 c.f0, .int .u64 c.f1, .int .u64 c.f2, .int .u64 c.f3, .int .u64 c.f4]) (.int .i64 3)).run Tryd.prog w = .ok (.int .u64 c.f3) w := fun _ => by kernel_rfl
  have i4 : ∀ w, (Instr.index 94 (.agg #[.int .u64 c.f0, .int .u64 c.f1, .int .u64 c.f2, .int .u64 c.f3, .int .u64 c.f4]) (.int .i64 4)).run Tryd.prog w = .ok (.int .u64 c.f4) w := fun _ => by kernel_rfl
  go_wp2_with fail
  go_loopg [3, 4, 7] 5 (fun kq v3 v4 v7 w' => ∃ i : Nat, v7 = .int .i64 i ∧ Aside0 (i + kq = 5) ∧ Aside0 (∀ j, j < i → badF c j = false) ∧ Aside0 (Below w.heap.size w w'))
  case atStart => exact ⟨0, rfl, ⟨by omega⟩, ⟨fun j hj => by omega⟩, ⟨HB.out⟩⟩
  case round =>
    obtain ⟨i, rfl, hk, hP, hB⟩ := hrel
    rcases (show i = 0 ∨ i = 1 ∨ i = 2 ∨ i = 3 ∨ i = 4 ∨ i = 5 by have := hk.out; omega) with rfl | rfl | rfl | rfl | rfl | rfl
    · by_cases hz : c.f0 = 0
      · have d0 : (c.f0 == 0) = true := by simpa using hz
        have hres := Lib.hid (formedB_bad (c := c) (i := 0) (by decide) (by show ((c.f0 == 0) || _) = true; rw [d0]; rfl))
        clear hz
        go_wp2
        go_ret
        exact ⟨by simp [hres.out], hB.out⟩
      · have d0 : (c.f0 == 0) = false := by simpa using hz
        obtain ⟨l0, l1⟩ := (HF.out.below hB.out HLT.out) 0 (by decide)
        have HN := Lib.hid hz
        clear hz
        go_wp2_with fail
        refine (all_at 0 (by decide) _).mono ?_
        rintro e w2 ⟨rfl, b2⟩
        have B2 := Lib.hid (hB.out.trans (b2.mono hB.out.size))
        clear b2
        obtain ⟨b, hb⟩ : ∃ b, (bits BinOp.andNot .u64 c.f0 (allF 0) != 0) = b := ⟨_, rfl⟩
        have hbad := Lib.hid (show badF c 0 = b by show ((c.f0 == 0) || _) = b; rw [d0, Bool.false_or]; exact hb)
        have hb2 := hb
        cases b with
        | true =>
          have hres := Lib.hid (formedB_bad (c := c) (i := 0) (by decide) hbad.out)
          go_wp2
          go_ret
          exact ⟨by simp [hres.out], B2.out⟩
        | false =>
          go_wp2
          go_roundg (gk - 1)
          case measure => have := hk.out; omega
          case rel => exact ⟨1, by rfl, ⟨by have := hk.out; omega⟩, ⟨fun j hj => by
            by_cases e : j = 0
            · subst e; exact hbad.out
            · exact hP.out j (by omega)⟩, ⟨B2.out⟩⟩
    · by_cases hz : c.f1 = 0
      · have d0 : (c.f1 == 0) = true := by simpa using hz
        have hres := Lib.hid (formedB_bad (c := c) (i := 1) (by decide) (by show ((c.f1 == 0) || _) = true; rw [d0]; rfl))
        clear hz
        go_wp2
        go_ret
        exact ⟨by simp [hres.out], hB.out⟩
      · have d0 : (c.f1 == 0) = false := by simpa using hz
        obtain ⟨l0, l1⟩ := (HF.out.below hB.out HLT.out) 1 (by decide)
        have HN := Lib.hid hz
        clear hz
        go_wp2_with fail
        refine (all_at 1 (by decide) _).mono ?_
        rintro e w2 ⟨rfl, b2⟩
        have B2 := Lib.hid (hB.out.trans (b2.mono hB.out.size))
        clear b2
        obtain ⟨b, hb⟩ : ∃ b, (bits BinOp.andNot .u64 c.f1 (allF 1) != 0) = b := ⟨_, rfl⟩
        have hbad := Lib.hid (show badF c 1 = b by show ((c.f1 == 0) || _) = b; rw [d0, Bool.false_or]; exact hb)
        have hb2 := hb
        cases b with
        | true =>
          have hres := Lib.hid (formedB_bad (c := c) (i := 1) (by decide) hbad.out)
          go_wp2
          go_ret
          exact ⟨by simp [hres.out], B2.out⟩
        | false =>
          go_wp2
          go_roundg (gk - 1)
          case measure => have := hk.out; omega
          case rel => exact ⟨2, by rfl, ⟨by have := hk.out; omega⟩, ⟨fun j hj => by
            by_cases e : j = 1
            · subst e; exact hbad.out
            · exact hP.out j (by omega)⟩, ⟨B2.out⟩⟩
    · by_cases hz : c.f2 = 0
      · have d0 : (c.f2 == 0) = true := by simpa using hz
        have hres := Lib.hid (formedB_bad (c := c) (i := 2) (by decide) (by show ((c.f2 == 0) || _) = true; rw [d0]; rfl))
        clear hz
        go_wp2
        go_ret
        exact ⟨by simp [hres.out], hB.out⟩
      · have d0 : (c.f2 == 0) = false := by simpa using hz
        obtain ⟨l0, l1⟩ := (HF.out.below hB.out HLT.out) 2 (by decide)
        have HN := Lib.hid hz
        clear hz
        go_wp2_with fail
        refine (all_at 2 (by decide) _).mono ?_
        rintro e w2 ⟨rfl, b2⟩
        have B2 := Lib.hid (hB.out.trans (b2.mono hB.out.size))
        clear b2
        obtain ⟨b, hb⟩ : ∃ b, (bits BinOp.andNot .u64 c.f2 (allF 2) != 0) = b := ⟨_, rfl⟩
        have hbad := Lib.hid (show badF c 2 = b by show ((c.f2 == 0) || _) = b; rw [d0, Bool.false_or]; exact hb)
        have hb2 := hb
        cases b with
        | true =>
          have hres := Lib.hid (formedB_bad (c := c) (i := 2) (by decide) hbad.out)
          go_wp2
          go_ret
          exact ⟨by simp [hres.out], B2.out⟩
        | false =>
          go_wp2
          go_roundg (gk - 1)
          case measure => have := hk.out; omega
          case rel => exact ⟨3, by rfl, ⟨by have := hk.out; omega⟩, ⟨fun j hj => by
            by_cases e : j = 2
            · subst e; exact hbad.out
            · exact hP.out j (by omega)⟩, ⟨B2.out⟩⟩
    · by_cases hz : c.f3 = 0
      · have d0 : (c.f3 == 0) = true := by simpa using hz
        have hres := Lib.hid (formedB_bad (c := c) (i := 3) (by decide) (by show ((c.f3 == 0) || _) = true; rw [d0]; rfl))
        clear hz
        go_wp2
        go_ret
        exact ⟨by simp [hres.out], hB.out⟩
      · have d0 : (c.f3 == 0) = false := by simpa using hz
        obtain ⟨l0, l1⟩ := (HF.out.below hB.out HLT.out) 3 (by decide)
        have HN := Lib.hid hz
        clear hz
        go_wp2_with fail
        refine (all_at 3 (by decide) _).mono ?_
        rintro e w2 ⟨rfl, b2⟩
        have B2 := Lib.hid (hB.out.trans (b2.mono hB.out.size))
        clear b2
        obtain ⟨b, hb⟩ : ∃ b, (bits BinOp.andNot .u64 c.f3 (allF 3) != 0) = b := ⟨_, rfl⟩
        have hbad := Lib.hid (show badF c 3 = b by show ((c.f3 == 0) || _) = b; rw [d0, Bool.false_or]; exact hb)
        have hb2 := hb
        cases b with
        | true =>
          have hres := Lib.hid (formedB_bad (c := c) (i := 3) (by decide) hbad.out)
          go_wp2
          go_ret
          exact ⟨by simp [hres.out], B2.out⟩
        | false =>
          go_wp2
          go_roundg (gk - 1)
          case measure => have := hk.out; omega
          case rel => exact ⟨4, by rfl, ⟨by have := hk.out; omega⟩, ⟨fun j hj => by
            by_cases e : j = 3
            · subst e; exact hbad.out
            · exact hP.out j (by omega)⟩, ⟨B2.out⟩⟩
    · by_cases hz : c.f4 = 0
      · have d0 : (c.f4 == 0) = true := by simpa using hz
        have hres := Lib.hid (formedB_bad (c := c) (i := 4) (by decide) (by show ((c.f4 == 0) || _) = true; rw [d0]; rfl))
        clear hz
        go_wp2
        go_ret
        exact ⟨by simp [hres.out], hB.out⟩
      · have d0 : (c.f4 == 0) = false := by simpa using hz
        obtain ⟨l0, l1⟩ := (HF.out.below hB.out HLT.out) 4 (by decide)
        have HN := Lib.hid hz
        clear hz
        go_wp2_with fail
        refine (all_at 4 (by decide) _).mono ?_
        rintro e w2 ⟨rfl, b2⟩
        have B2 := Lib.hid (hB.out.trans (b2.mono hB.out.size))
        clear b2
        obtain ⟨b, hb⟩ : ∃ b, (bits BinOp.andNot .u64 c.f4 (allF 4) != 0) = b := ⟨_, rfl⟩
        have hbad := Lib.hid (show badF c 4 = b by show ((c.f4 == 0) || _) = b; rw [d0, Bool.false_or]; exact hb)
        have hb2 := hb
        cases b with
        | true =>
          have hres := Lib.hid (formedB_bad (c := c) (i := 4) (by decide) hbad.out)
          go_wp2
          go_ret
          exact ⟨by simp [hres.out], B2.out⟩
        | false =>
          go_wp2
          go_roundg (gk - 1)
          case measure => have := hk.out; omega
          case rel => exact ⟨5, by rfl, ⟨by have := hk.out; omega⟩, ⟨fun j hj => by
            by_cases e : j = 4
            · subst e; exact hbad.out
            · exact hP.out j (by omega)⟩, ⟨B2.out⟩⟩
    · have hres := Lib.hid (formedB_good (c := c) hP.out)
      go_wp2
      go_ret
      exact ⟨by simp [hres.out], hB.out⟩
end Go.Proofs.YtdgljnidkhfgpaaDoor
