/-
  Plain words on the places of the verifier: what stands at each instruction; a program's parts. No program in sight.
-/
import Derived.Test.YtdgljnidkhfgpaaDoorRingPure
import Derived.Test.YtdgljnidkhfgpaaDoorXVerx
import Derived.Test.YtdgljnidkhfgpaaDoorVerKinds
namespace Go.Proofs.YtdgljnidkhfgpaaDoor
set_option linter.unusedVariables false
set_option linter.unusedSimpArgs false
open Go.RowKit Go.Proofs.YtdgljnidkhfgpaaDoorW.PrintWords Go.Proofs.YtdgljnidkhfgpaaDoor.XVer

/-- A place: how high the stack is, how many tries are open, and whether that is known. -/
structure Pl where
  h : Int
  t : Int
  k : Bool
def Pl.z : Pl := ⟨0, 0, false⟩
def encP (x : Pl) : List Value := [.int .i64 x.h, .int .i64 x.t, .bool x.k]
theorem encP_len : ∀ x, (encP x).length = 3 := fun _ => rfl
section
variable {α : Type} {enc : α → List Value} {P : List α}
theorem len_three {β : Type} : ∀ {l : List β}, l.length = 3 → ∃ a b c, l = [a, b, c]
  | [a, b, c], _ => ⟨a, b, c, rfl⟩
theorem flat_set3 (hl : ∀ x, (enc x).length = 3) {u0 u1 u2 : Value} {x : α} (he : enc x = [u0, u1, u2]) : ∀ (P : List α) (i : Nat), i < P.length → (((P.flatMap enc).set (i * 3) u0).set (i * 3 + 1) u1).set (i * 3 + 2) u2 = (P.set i x).flatMap enc
  | [], i, h => by simp at h
  | y :: P, 0, _ => by
    obtain ⟨c, d, e, hc⟩ := len_three (hl y)
    simp [hc, he]
  | y :: P, i + 1, h => by
    obtain ⟨c, d, f, hc⟩ := len_three (hl y)
    have e : (i + 1) * 3 = i * 3 + 1 + 1 + 1 := by omega
    simp only [List.flatMap_cons, hc, e, List.cons_append, List.nil_append, List.set_cons_succ, Nat.add_right_cancel_iff]
    rw [flat_set3 hl he P i (by simpa using h)]
theorem cells_set3 (hl : ∀ x, (enc x).length = 3) {u0 u1 u2 : Value} {x : α} (he : enc x = [u0, u1, u2]) {i : Nat} (hi : i < P.length) : (((cellsOf enc P).setIfInBounds (i * 3) u0).setIfInBounds (i * 3 + 1) u1).setIfInBounds (i * 3 + 2) u2 = cellsOf enc (P.set i x) := by
  unfold cellsOf
  rw [List.setIfInBounds_toArray, List.setIfInBounds_toArray, List.setIfInBounds_toArray, flat_set3 hl he P i hi]
end
/-- What a call of lead answers, and the places behind it. -/
def leadP (height : Int) (at_ : List Pl) (tg h t : Int) : Bool × List Pl :=
  if tg < 0 ∨ (at_.length : Int) ≤ tg ∨ height < h then (false, at_)
  else if (at_.getD tg.toNat Pl.z).k = true then (decide ((at_.getD tg.toNat Pl.z).h = h ∧ (at_.getD tg.toNat Pl.z).t = t), at_)
  else (true, at_.set tg.toNat ⟨h, t, true⟩)
theorem leadP_len (height : Int) (at_ : List Pl) (tg h t : Int) : (leadP height at_ tg h t).2.length = at_.length := by
  unfold leadP
  split
  · rfl
  · split
    · rfl
    · simp
def jumpP (height : Int) (at_ : List Pl) (i tg h t : Int) : Bool × List Pl := if i < tg then leadP height at_ tg h t else (false, at_)
theorem jumpP_len (height : Int) (at_ : List Pl) (i tg h t : Int) : (jumpP height at_ i tg h t).2.length = at_.length := by
  unfold jumpP
  split
  · exact leadP_len _ _ _ _ _
  · rfl
/-- A program's parts. -/
structure Pg where
  m : Int
  r0 : Int
  r1 : Int
  r2 : Int
  r3 : Int
  r4 : Int
  consts : List Int
  wins : List WinS
  crons : List CronS
  locals : Int
  height : Int
  code : List InstrS
/-- Where a program's lists lie. -/
structure Hd where
  a6 : Option Addr
  c6 : Nat
  a7 : Option Addr
  c7 : Nat
  a8 : Option Addr
  c8 : Nat
  a11 : Option Addr
  c11 : Nat
/-- A program's lists lie in memory. -/
structure PgIn (w : World) (p : Pg) (d : Hd) : Prop where
  r6 : Kd.C (Kd.int .i64) w d.a6 p.consts.length p.consts
  l6 : p.consts.length ≤ d.c6
  r7 : Kd.C kWinS w d.a7 p.wins.length p.wins
  l7 : p.wins.length ≤ d.c7
  r8 : Kd.C kCronS w d.a8 p.crons.length p.crons
  l8 : p.crons.length ≤ d.c8
  r11 : Kd.C kInstrS w d.a11 p.code.length p.code
  l11 : p.code.length ≤ d.c11
theorem PgIn.below {w w' : World} {p : Pg} {d : Hd} (h : PgIn w p d) (hb : Below w.heap.size w w') : PgIn w' p d :=
  ⟨Kd.C_below h.r6 hb, h.l6, Kd.C_below h.r7 hb, h.l7, Kd.C_below h.r8 hb, h.l8, Kd.C_below h.r11 hb, h.l11⟩
/-- The checker at block g, its places in block ga. -/
structure ChkAt (w0 w : World) (g ga : Nat) (p : Pg) (d : Hd) (P : List Pl) : Prop where
  hb : w.heap[g]? = some (.cells #[.int .i64 p.m, .int .i64 p.r0, .int .i64 p.r1, .int .i64 p.r2, .int .i64 p.r3, .int .i64 p.r4, .slice d.a6 p.consts.length d.c6, .slice d.a7 p.wins.length d.c7, .slice d.a8 p.crons.length d.c8, .int .i64 p.locals, .int .i64 p.height, .slice d.a11 p.code.length d.c11, .slice (some ⟨ga, 0, none⟩) P.length P.length] 93 (0, 0))
  ha : w.heap[ga]? = some (.cells (cellsOf encP P) 73 (0, 0))
  gb : w0.heap.size ≤ g
  ab : w0.heap.size ≤ ga
  ne : g ≠ ga
  pg : PgIn w0 p d
  bel : Below w0.heap.size w0 w
section
variable {w0 w w' : World} {g ga : Nat} {p : Pg} {d : Hd} {P Q : List Pl}
theorem ChkAt.below (i : ChkAt w0 w g ga p d P) (hb : Below w.heap.size w w') : ChkAt w0 w' g ga p d P :=
  ⟨blk_below i.hb hb, blk_below i.ha hb, i.gb, i.ab, i.ne, i.pg, i.bel.trans (hb.mono i.bel.size)⟩
theorem ChkAt.now (i : ChkAt w0 w g ga p d P) : PgIn w p d := i.pg.below i.bel
/-- A place's cells. -/
theorem ChkAt.cell (i : ChkAt w0 w g ga p d P) {j : Nat} (hj : j < P.length) : w.cell? ⟨ga, j * 3, none⟩ = some (.int .i64 (P.getD j Pl.z).h) ∧ w.cell? ⟨ga, j * 3 + 1, none⟩ = some (.int .i64 (P.getD j Pl.z).t) ∧ w.cell? ⟨ga, j * 3 + 2, none⟩ = some (.bool (P.getD j Pl.z).k) := by
  have h0 : P[j]? = some (P.getD j Pl.z) := by rw [List.getD_eq_getElem?_getD, List.getElem?_eq_getElem hj]; rfl
  refine ⟨?_, ?_, ?_⟩
  · rw [blk_cell i.ha]
    have := cells_get_of (enc := encP) (j := 0) encP_len h0 (by decide)
    simpa [encP] using this
  · rw [blk_cell i.ha]
    have := cells_get_of (enc := encP) (j := 1) encP_len h0 (by decide)
    simpa [encP] using this
  · rw [blk_cell i.ha]
    have := cells_get_of (enc := encP) (j := 2) encP_len h0 (by decide)
    simpa [encP] using this
theorem ChkAt.set (i : ChkAt w0 w g ga p d P) {j : Nat} (hj : j < P.length) (x : Pl) : ChkAt w0 (((w.setCell ⟨ga, j * 3, none⟩ (.int .i64 x.h)).setCell ⟨ga, j * 3 + 1, none⟩ (.int .i64 x.t)).setCell ⟨ga, j * 3 + 2, none⟩ (.bool x.k)) g ga p d (P.set j x) := by
  have hne : ¬ g = ga := i.ne
  refine ⟨?_, ?_, i.gb, i.ab, i.ne, i.pg, ?_⟩
  · rw [List.length_set]
    exact blk_far (p := ⟨ga, j * 3 + 2, none⟩) (blk_far (p := ⟨ga, j * 3 + 1, none⟩) (blk_far (p := ⟨ga, j * 3, none⟩) i.hb hne _) hne _) hne _
  · have h1 := blk_set (blk_set (blk_set i.ha (j * 3) (.int .i64 x.h)) (j * 3 + 1) (.int .i64 x.t)) (j * 3 + 2) (.bool x.k)
    rw [cells_set3 (P := P) encP_len (show encP x = [.int .i64 x.h, .int .i64 x.t, .bool x.k] from rfl) hj] at h1
    exact h1
  · exact ((i.bel.setCell (p := ⟨ga, j * 3, none⟩) i.ab _).setCell (p := ⟨ga, j * 3 + 1, none⟩) i.ab _).setCell (p := ⟨ga, j * 3 + 2, none⟩) i.ab _
end
end Go.Proofs.YtdgljnidkhfgpaaDoor
