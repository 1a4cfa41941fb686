/-
  The verifier's head: is a program's head right?
-/
import Derived.Test.YtdgljnidkhfgpaaDoorVerCron
namespace Go.Proofs.YtdgljnidkhfgpaaDoor
set_option linter.unusedVariables false
set_option linter.unusedSimpArgs false
open Go.RowKit Go.Proofs.YtdgljnidkhfgpaaDoor.XVer Go.Proofs.YtdgljnidkhfgpaaDoorW.PrintWords Go.Proofs.YtdgljnidkhfgpaaDoorW.PrintLast Go.Proofs.YtdgljnidkhfgpaaDoorW.PrintMore

theorem winR_some (a b c d : Int) : window_Right.f a b c d = some ((window_Right.f a b c d).getD false) := by
  have : (window_Right.f a b c d).isSome = true := by
    unfold window_Right.f
    repeat' split
    all_goals rfl
  obtain ⟨x, hx⟩ := Option.isSome_iff_exists.1 this
  rw [hx]; rfl
theorem coreR_some (a b c d e : Int) : core_Right.f a b c d e = some ((core_Right.f a b c d e).getD false) := by
  have : (core_Right.f a b c d e).isSome = true := by
    unfold core_Right.f
    repeat' split
    all_goals rfl
  obtain ⟨x, hx⟩ := Option.isSome_iff_exists.1 this
  rw [hx]; rfl
def winR (x : WinS) : Bool := (window_Right.f x.f0 x.f1 x.f2 x.f3).getD false
def coreR (p : Pg) : Bool := (core_Right.f p.r0 p.r1 p.r2 p.r3 p.r4).getD false
theorem winR_calls (x : WinS) (w : World) : Calls Tryd.prog 43 #[.agg #[.int .i64 x.f0, .int .i64 x.f1, .int .i64 x.f2, .int .i64 x.f3]] w fun e w' => e = .returned (.bool (winR x)) ∧ Below w.heap.size w w' :=
  window_Right.calls _ _ _ _ _ w (winR_some _ _ _ _)
theorem coreR_calls (p : Pg) (w : World) : Calls Tryd.prog 40 #[.agg #[.int .i64 p.r0, .int .i64 p.r1, .int .i64 p.r2, .int .i64 p.r3, .int .i64 p.r4]] w fun e w' => e = .returned (.bool (coreR p)) ∧ Below w.heap.size w w' :=
  core_Right.calls _ _ _ _ _ _ w (coreR_some _ _ _ _ _)
/-- A window that is wrong. -/
def badW (m : Int) (x : WinS) : Bool := !winR x || decide (m ≤ x.f0)
def badC (x : CronS) : Bool := !formedB x
section
set_option maxRecDepth 100000 in
theorem head1_calls {w : World} {B : Nat} {m : Int} (x : WinS) (hc : w.cell? ⟨B, 0, none⟩ = some (.int .i64 m)) : Calls Tryd.prog 42 #[.agg #[.int .i64 x.f0, .int .i64 x.f1, .int .i64 x.f2, .int .i64 x.f3], .pointer (some ⟨B, 0, none⟩)] w fun e w' => e = .returned (.bool (badW m x)) ∧ Below w.heap.size w w' := by
  have hlt := World.block_lt_of_cell? w _ hc
  have HC := Lib.hid hc
  have HLT := Lib.hid hlt
  clear hc hlt
  unfold badW
  cases hr : winR x with
  | false =>
    have HR := Lib.hid hr
    clear hr
    go_enter Tryd.func42, Tryd.ntmps42
    go_wp2_with fail
    refine (winR_calls x _).mono ?_
    rintro e w1 ⟨rfl, b1⟩
    have B1 := Lib.hid ((below_alloc (Below.refl _ w) (.cells #[.int .i64 x.f0, .int .i64 x.f1, .int .i64 x.f2, .int .i64 x.f3] 78)).trans (b1.mono (by simp)))
    rw [HR.out]
    clear b1
    go_wp2
    go_ret
    exact ⟨by simp, B1.out⟩
  | true =>
    have HR := Lib.hid hr
    clear hr
    obtain ⟨b, hb⟩ : ∃ b, decide (m ≤ x.f0) = b := ⟨_, rfl⟩
    rw [hb]
    go_enter Tryd.func42, Tryd.ntmps42
    go_wp2_with fail
    refine (winR_calls x _).mono ?_
    rintro e w1 ⟨rfl, b1⟩
    have hB := ((below_alloc (Below.refl _ w) (.cells #[.int .i64 x.f0, .int .i64 x.f1, .int .i64 x.f2, .int .i64 x.f3] 78)).trans (b1.mono (by simp)))
    have B1 := Lib.hid hB
    have c0 := (hB.cell (p := ⟨B, 0, none⟩) HLT.out).trans HC.out
    have c1 := (blk_cell (blk_below (blk_new w (.cells #[.int .i64 x.f0, .int .i64 x.f1, .int .i64 x.f2, .int .i64 x.f3] 78)) b1) 0).trans rfl
    rw [HR.out]
    clear b1 hB
    go_wp2
    go_ret
    exact ⟨by simp, B1.out⟩
set_option maxRecDepth 100000 in
theorem head2_calls {w : World} (x : CronS) (hF : FieldsAt w) : Calls Tryd.prog 45 #[.agg #[.int .u64 x.f0, .int .u64 x.f1, .int .u64 x.f2, .int .u64 x.f3, .int .u64 x.f4]] w fun e w' => e = .returned (.bool (badC x)) ∧ Below w.heap.size w w' := by
  have HF := Lib.hid hF
  have HLT := Lib.hid (show 1 < w.heap.size from World.block_lt_of_cell? w _ (hF 0 (by decide)).1)
  clear hF
  unfold badC
  go_enter Tryd.func45, Tryd.ntmps45
  go_wp2_with fail
  refine (formed_calls x _ (HF.out.below (below_alloc (Below.refl _ w) _) HLT.out)).mono ?_
  rintro e w1 ⟨rfl, b1⟩
  have B1 := Lib.hid ((below_alloc (Below.refl _ w) (.cells #[.int .u64 x.f0, .int .u64 x.f1, .int .u64 x.f2, .int .u64 x.f3, .int .u64 x.f4] 82)).trans (b1.mono (by simp)))
  clear b1
  go_wp2
  go_ret
  exact ⟨by simp, B1.out⟩
end
/-- What IndexFunc answers: at least 0, where one is met. -/
def IdxPost (b : Bool) (w : World) (e : Ending) (w' : World) : Prop := ∃ r : Int, e = .returned (.int .i64 r) ∧ decide (0 ≤ r) = b ∧ Below w.heap.size w w'
set_option maxHeartbeats 8000000 in
set_option maxRecDepth 100000 in
theorem idxW_calls {w : World} {A : Option Addr} {c : Nat} {xs : List WinS} {B : Nat} {m : Int} (hC : Kd.C kWinS w A xs.length xs) (hl : xs.length ≤ 256) (hh : w.cell? ⟨B, 0, none⟩ = some (.int .i64 m)) : Calls Tryd.prog 50 #[.slice A xs.length c, .func (.func 42) #[] #[.pointer (some ⟨B, 0, none⟩)]] w (IdxPost (xs.any (badW m)) w) := by
  have HC := Lib.hid hC
  have HL := Lib.hid hl
  have HH := Lib.hid hh
  have HLT := Lib.hid (World.block_lt_of_cell? w _ hh)
  clear hC hl hh
  go_enter Tryd.func50, Tryd.ntmps50
  go_wp2_with fail
  go_loopg [5, 8] xs.length (fun kq v5 v8 w' => ∃ i : Nat, v8 = .int .i64 i ∧ Aside0 (i + kq = xs.length) ∧ Aside0 ((xs.take i).any (badW m) = false) ∧ Aside0 (Below w.heap.size w w'))
  case atStart => exact ⟨0, rfl, ⟨by omega⟩, ⟨by simp⟩, ⟨Below.refl _ _⟩⟩
  case round =>
    obtain ⟨i, rfl, hk, hP, hB⟩ := hrel
    by_cases hi : i < xs.length
    · have c0 : decide (i < xs.length) = true := decide_eq_true hi
      have c1 : decide ((i : Int) < (xs.length : Int)) = true := decide_eq_true (by omega)
      obtain ⟨ad, rfl, r0, r1, r2, r3⟩ := atWinS (Kd.C_below HC.out hB.out) (i : Int) (by omega) (by omega)
      rw [Int.toNat_natCast] at r0 r1 r2 r3
      have f1 := eq_true (show (0 : Int) ≤ (i : Int) by omega)
      have f2 : ((i : Int) < (xs.length : Int)) = True := eq_true (by omega)
      have f3 := eq_true hi
      obtain ⟨x, hx⟩ : ∃ x, rdWinS xs (i : Int) = x := ⟨_, rfl⟩
      rw [hx] at r0 r1 r2 r3
      have HS := Lib.hid (show xs.take (i + 1) = xs.take i ++ [x] by rw [List.take_add_one, List.getElem?_eq_getElem hi, Option.toList_some, ← hx]; unfold rdWinS; rw [Int.toNat_natCast, List.getD_eq_getElem?_getD, List.getElem?_eq_getElem hi]; rfl)
      have HM := Lib.hid (show x ∈ xs by rw [← hx]; unfold rdWinS; rw [Int.toNat_natCast, List.getD_eq_getElem?_getD, List.getElem?_eq_getElem hi]; exact List.getElem_mem hi)
      have Hi := Lib.hid hi
      have HW := Lib.hid (show wrap64 ((i : Int) + 1) = ((i + 1 : Nat) : Int) by have := HL.out; unfold wrap64; omega)
      clear hx hi
      go_wp2_with fail
      refine (head1_calls x ((hB.out.cell (p := ⟨B, 0, none⟩) HLT.out).trans HH.out)).mono ?_
      rintro e w2 ⟨rfl, b2⟩
      have B2 := Lib.hid (hB.out.trans (b2.mono hB.out.size))
      clear b2 r0 r1 r2 r3
      cases hbad : (badW m) x with
      | true =>
        have HBAD := Lib.hid hbad
        clear hbad
        go_wp2
        go_ret
        exact ⟨(i : Int), by simp, by rw [List.any_eq_true.2 ⟨x, HM.out, HBAD.out⟩]; simp, B2.out⟩
      | false =>
        have HBAD := Lib.hid hbad
        clear hbad
        have hw := HW.out
        go_wp2
        go_roundg (gk - 1)
        case measure => have := hk.out; have := Hi.out; omega
        case rel => exact ⟨i + 1, by first | rfl | simp [hw], ⟨by have := hk.out; have := Hi.out; omega⟩, ⟨by rw [HS.out, List.any_append, hP.out, List.any_cons, HBAD.out]; rfl⟩, ⟨B2.out⟩⟩
    · have c0 : decide (i < xs.length) = false := decide_eq_false hi
      have c1 : decide ((i : Int) < (xs.length : Int)) = false := decide_eq_false (by omega)
      have hik : i = xs.length := by have := hk.out; omega
      rw [hik, List.take_length] at hP
      clear hi hik
      go_wp2
      go_ret
      exact ⟨-1, by simp, by rw [hP.out]; decide, hB.out⟩
set_option maxHeartbeats 8000000 in
set_option maxRecDepth 100000 in
theorem idxC_calls {w : World} {A : Option Addr} {c : Nat} {xs : List CronS} (hC : Kd.C kCronS w A xs.length xs) (hl : xs.length ≤ 256) (hh : FieldsAt w) : Calls Tryd.prog 51 #[.slice A xs.length c, .func (.func 45) #[] #[]] w (IdxPost (xs.any (badC)) w) := by
  have HC := Lib.hid hC
  have HL := Lib.hid hl
  have HH := Lib.hid hh
  have HLT := Lib.hid (show 1 < w.heap.size from World.block_lt_of_cell? w _ (hh 0 (by decide)).1)
  clear hC hl hh
  go_enter Tryd.func51, Tryd.ntmps51
  go_wp2_with fail
  go_loopg [5, 8] xs.length (fun kq v5 v8 w' => ∃ i : Nat, v8 = .int .i64 i ∧ Aside0 (i + kq = xs.length) ∧ Aside0 ((xs.take i).any (badC) = false) ∧ Aside0 (Below w.heap.size w w'))
  case atStart => exact ⟨0, rfl, ⟨by omega⟩, ⟨by simp⟩, ⟨Below.refl _ _⟩⟩
  case round =>
    obtain ⟨i, rfl, hk, hP, hB⟩ := hrel
    by_cases hi : i < xs.length
    · have c0 : decide (i < xs.length) = true := decide_eq_true hi
      have c1 : decide ((i : Int) < (xs.length : Int)) = true := decide_eq_true (by omega)
      obtain ⟨ad, rfl, r0, r1, r2, r3, r4⟩ := atCronS (Kd.C_below HC.out hB.out) (i : Int) (by omega) (by omega)
      rw [Int.toNat_natCast] at r0 r1 r2 r3 r4
      have f1 := eq_true (show (0 : Int) ≤ (i : Int) by omega)
      have f2 : ((i : Int) < (xs.length : Int)) = True := eq_true (by omega)
      have f3 := eq_true hi
      obtain ⟨x, hx⟩ : ∃ x, rdCronS xs (i : Int) = x := ⟨_, rfl⟩
      rw [hx] at r0 r1 r2 r3 r4
      have HS := Lib.hid (show xs.take (i + 1) = xs.take i ++ [x] by rw [List.take_add_one, List.getElem?_eq_getElem hi, Option.toList_some, ← hx]; unfold rdCronS; rw [Int.toNat_natCast, List.getD_eq_getElem?_getD, List.getElem?_eq_getElem hi]; rfl)
      have HM := Lib.hid (show x ∈ xs by rw [← hx]; unfold rdCronS; rw [Int.toNat_natCast, List.getD_eq_getElem?_getD, List.getElem?_eq_getElem hi]; exact List.getElem_mem hi)
      have Hi := Lib.hid hi
      have HW := Lib.hid (show wrap64 ((i : Int) + 1) = ((i + 1 : Nat) : Int) by have := HL.out; unfold wrap64; omega)
      clear hx hi
      go_wp2_with fail
      refine (head2_calls x (HH.out.below hB.out HLT.out)).mono ?_
      rintro e w2 ⟨rfl, b2⟩
      have B2 := Lib.hid (hB.out.trans (b2.mono hB.out.size))
      clear b2 r0 r1 r2 r3 r4
      cases hbad : (badC) x with
      | true =>
        have HBAD := Lib.hid hbad
        clear hbad
        go_wp2
        go_ret
        exact ⟨(i : Int), by simp, by rw [List.any_eq_true.2 ⟨x, HM.out, HBAD.out⟩]; simp, B2.out⟩
      | false =>
        have HBAD := Lib.hid hbad
        clear hbad
        have hw := HW.out
        go_wp2
        go_roundg (gk - 1)
        case measure => have := hk.out; have := Hi.out; omega
        case rel => exact ⟨i + 1, by first | rfl | simp [hw], ⟨by have := hk.out; have := Hi.out; omega⟩, ⟨by rw [HS.out, List.any_append, hP.out, List.any_cons, HBAD.out]; rfl⟩, ⟨B2.out⟩⟩
    · have c0 : decide (i < xs.length) = false := decide_eq_false hi
      have c1 : decide ((i : Int) < (xs.length : Int)) = false := decide_eq_false (by omega)
      have hik : i = xs.length := by have := hk.out; omega
      rw [hik, List.take_length] at hP
      clear hi hik
      go_wp2
      go_ret
      exact ⟨-1, by simp, by rw [hP.out]; decide, hB.out⟩
set_option maxRecDepth 100000 in
theorem conW_calls {w : World} {A : Option Addr} {c : Nat} {xs : List WinS} {B : Nat} {m : Int} (hC : Kd.C kWinS w A xs.length xs) (hl : xs.length ≤ 256) (hh : w.cell? ⟨B, 0, none⟩ = some (.int .i64 m)) : Calls Tryd.prog 41 #[.slice A xs.length c, .func (.func 42) #[] #[.pointer (some ⟨B, 0, none⟩)]] w fun e w' => e = .returned (.bool (xs.any (badW m))) ∧ Below w.heap.size w w' := by
  have HI := Lib.hid (idxW_calls (c := c) hC hl hh)
  clear hC hl hh
  go_enter Tryd.func41, Tryd.ntmps41
  go_wp2_with fail
  refine HI.out.mono ?_
  rintro e w1 ⟨r, rfl, hr, b1⟩
  have HR := Lib.hid hr
  have B1 := Lib.hid b1
  clear hr b1
  go_wp2
  go_ret
  exact ⟨by simp [HR.out], B1.out⟩
set_option maxRecDepth 100000 in
theorem conC_calls {w : World} {A : Option Addr} {c : Nat} {xs : List CronS} (hC : Kd.C kCronS w A xs.length xs) (hl : xs.length ≤ 256) (hh : FieldsAt w) : Calls Tryd.prog 44 #[.slice A xs.length c, .func (.func 45) #[] #[]] w fun e w' => e = .returned (.bool (xs.any (badC))) ∧ Below w.heap.size w w' := by
  have HI := Lib.hid (idxC_calls (c := c) hC hl hh)
  clear hC hl hh
  go_enter Tryd.func44, Tryd.ntmps44
  go_wp2_with fail
  refine HI.out.mono ?_
  rintro e w1 ⟨r, rfl, hr, b1⟩
  have HR := Lib.hid hr
  have B1 := Lib.hid b1
  clear hr b1
  go_wp2
  go_ret
  exact ⟨by simp [HR.out], B1.out⟩
end Go.Proofs.YtdgljnidkhfgpaaDoor
