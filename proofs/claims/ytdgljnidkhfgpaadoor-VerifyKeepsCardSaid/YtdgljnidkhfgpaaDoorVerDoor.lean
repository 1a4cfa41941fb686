/-
  What the door's condition gives a walk of the verifier: the table and the fields lie in their variables; a world that meets it.
-/
import Derived.LaidMore
import Derived.LaidHandle
import Derived.OpenShut
import Derived.MakeChecks
import Derived.Test.YtdgljnidkhfgpaaDoorVerDownLaw
import Derived.Test.YtdgljnidkhfgpaaDoorRows
namespace Go.Proofs.YtdgljnidkhfgpaaDoor
set_option linter.unusedVariables false
set_option linter.unusedSimpArgs false
open Go.ChangeShapes Go.WideShapes Go.ChangeAt Go.RowKit
section
variable {H : Type} {enc : TypeId × Value → H} {P : Program} {w : World} {base : Nat} {sp : Nat → Bool} {held : Bool}
theorem open_rows {t e : TypeId} {n m fuel : Nat} {fs : Array Field} {cs : List Value} {rows : List (List Int)} {p : List MemPlace}
    (ht : P.underlying t = some (.array n e)) (he : P.underlying e = some (.struct fs)) (hm : P.cellsOf e = m)
    (hf : ∀ j, j < m → ∃ f, fs[j]? = some f ∧ f.offset = j ∧ P.cellsOf f.type = 1 ∧ P.underlying f.type = some (.int .i64))
    (h : DataW.trod enc P w base sp held fuel t cs = some (.agg (rows.map fun r => .agg (r.map fun z => .lit (.int .i64 z))), p)) :
    ∀ (i : Nat) (r : List Int), i < n → rows[i]? = some r → ∀ (j : Nat) (z : Int), j < m → r[j]? = some z → cs[i * m + j]? = some (.int .i64 z) := by
  intro i r hi hr j z hj hz
  obtain ⟨xs, k, rfl, hx, hlen, hn, hel⟩ := DataW.trod_array ht h
  rw [hm] at hel
  have hi' := hel i hi
  simp only [Prod.mk.injEq, DataW.agg.injEq] at hx
  obtain ⟨hx1, _⟩ := hx
  obtain ⟨x, hxi⟩ : ∃ x, xs[i]? = some x := ⟨xs[i]'(by omega), List.getElem?_eq_getElem (by omega)⟩
  rw [hxi] at hi'
  have e1 : some (DataW.agg (H := H) (r.map fun z => .lit (.int .i64 z))) = some x.1 := by
    have a := congrArg (fun l => l[i]?) hx1
    simp only [List.getElem?_map, hr, hxi, Option.map_some] at a
    exact a
  injection e1 with e1
  obtain ⟨x1, x2⟩ := x
  simp only at e1
  subst e1
  obtain ⟨ys, k2, rfl, hy, hylen, hyn, hyel⟩ := DataW.trod_struct he hi'
  simp only [Prod.mk.injEq, DataW.agg.injEq] at hy
  obtain ⟨hy1, _⟩ := hy
  obtain ⟨f, hf1, hf2, hf3, hf4⟩ := hf j hj
  have hj' := hyel j f hf1
  rw [hf2, hf3] at hj'
  have e2 := congrArg (fun l => l[j]?) hy1
  simp only [List.getElem?_map, hz, Option.map_some] at e2
  cases hyj : ys[j]? with
  | none => rw [hyj] at e2; cases e2
  | some y =>
    rw [hyj] at e2 hj'
    simp only [Option.map_some, Option.some.injEq] at e2
    obtain ⟨y1, y2⟩ := y
    simp only at e2
    subst e2
    obtain ⟨v, hv1, hv2, _⟩ := DataW.trod_int hf4 hj'
    simp only [Prod.mk.injEq, DataW.lit.injEq, Lit.int.injEq] at hv2
    obtain ⟨⟨_, rfl⟩, _⟩ := hv2
    have := congrArg (fun l => l[0]?) hv1
    simp only [List.getElem?_take, List.getElem?_drop, List.getElem?_cons_zero] at this
    rw [if_pos (by omega), if_pos (by omega)] at this
    simpa using this
end
theorem gFields : Tryd.prog.globalNamed "capstan/cron.fields" = some 1 := by kernel_rfl
theorem gTable : Tryd.prog.globalNamed "capstan/verify.table" = some 0 := by kernel_rfl
theorem tFields : (Tryd.prog.globals[1]?).map (·.type) = some 115 := by kernel_rfl
theorem tTable : (Tryd.prog.globals[0]?).map (·.type) = some 105 := by kernel_rfl
def rowsF : List (List Int) := [[0, 59], [0, 23], [1, 31], [1, 12], [0, 6]]
def rowsT : List (List Int) := tabL.map fun x => [x.1, x.2.1, x.2.2]
theorem eFields {H : Type} : (Rows.laid_capstan_cron_fields : DataW H) = .agg (rowsF.map fun r => .agg (r.map fun z => .lit (.int .i64 z))) := rfl
theorem eTable {H : Type} : (Rows.laid_capstan_verify_table : DataW H) = .agg (rowsT.map fun r => .agg (r.map fun z => .lit (.int .i64 z))) := rfl
def laid2 : List (String × DataW Unit) := [("capstan/cron.fields", Rows.laid_capstan_cron_fields), ("capstan/verify.table", Rows.laid_capstan_verify_table)]
theorem of_laid {W : World} (h : laidMetH Tryd.prog laid2 W) : FieldsAt W ∧ TabAt W := by
  rw [MakeChecks.laidMetH_plain _ _ _ (by kernel_rfl)] at h
  obtain ⟨ps, ⟨g0, t0, cs0, f0, p0, q0, hg0, ht0, hv0, hd0, ⟨g1, t1, cs1, f1, p1, q1, hg1, ht1, hv1, hd1, _, _⟩, _⟩, _, _⟩ := h
  obtain rfl := Option.some.inj (gFields.symm.trans hg0)
  obtain rfl := Option.some.inj (gTable.symm.trans hg1)
  obtain rfl := Option.some.inj (tFields.symm.trans ht0)
  obtain rfl := Option.some.inj (tTable.symm.trans ht1)
  rw [eFields] at hd0
  rw [eTable] at hd1
  have cF : Tryd.prog.cellsOf 114 = 2 := by kernel_rfl
  have cT : Tryd.prog.cellsOf 104 = 3 := by kernel_rfl
  have c3 : Tryd.prog.cellsOf 3 = 1 := by kernel_rfl
  have a0 := open_rows Tryd.underlying115 Tryd.underlying114 cF (by
    intro j hj
    rcases (show j = 0 ∨ j = 1 by omega) with rfl | rfl
    · exact ⟨_, rfl, rfl, c3, Tryd.underlying3⟩
    · exact ⟨_, rfl, rfl, c3, Tryd.underlying3⟩) hd0
  have a1 := open_rows Tryd.underlying105 Tryd.underlying104 cT (by
    intro j hj
    rcases (show j = 0 ∨ j = 1 ∨ j = 2 by omega) with rfl | rfl | rfl
    · exact ⟨_, rfl, rfl, c3, Tryd.underlying3⟩
    · exact ⟨_, rfl, rfl, c3, Tryd.underlying3⟩
    · exact ⟨_, rfl, rfl, c3, Tryd.underlying3⟩) hd1
  have v0 : ∀ k, W.cell? ⟨1, k, none⟩ = cs0.toList[k]? := fun k => (World.var?_cell hg0 hv0 k).trans (by simp)
  have v1 : ∀ k, W.cell? ⟨0, k, none⟩ = cs1.toList[k]? := fun k => (World.var?_cell hg1 hv1 k).trans (by simp)
  constructor
  · intro k hk
    rw [v0, v0]
    rcases (show k = 0 ∨ k = 1 ∨ k = 2 ∨ k = 3 ∨ k = 4 by omega) with rfl | rfl | rfl | rfl | rfl
    · exact ⟨a0 0 [0, 59] (by decide) rfl 0 0 (by decide) rfl, a0 0 [0, 59] (by decide) rfl 1 59 (by decide) rfl⟩
    · exact ⟨a0 1 [0, 23] (by decide) rfl 0 0 (by decide) rfl, a0 1 [0, 23] (by decide) rfl 1 23 (by decide) rfl⟩
    · exact ⟨a0 2 [1, 31] (by decide) rfl 0 1 (by decide) rfl, a0 2 [1, 31] (by decide) rfl 1 31 (by decide) rfl⟩
    · exact ⟨a0 3 [1, 12] (by decide) rfl 0 1 (by decide) rfl, a0 3 [1, 12] (by decide) rfl 1 12 (by decide) rfl⟩
    · exact ⟨a0 4 [0, 6] (by decide) rfl 0 0 (by decide) rfl, a0 4 [0, 6] (by decide) rfl 1 6 (by decide) rfl⟩
  · intro k hk
    rw [v1, v1, v1]
    have hr : rowsT[k]? = some [needT k, growT k, argT k] := by
      have hl : tabL.length = 34 := rfl
      unfold rowsT needT growT argT
      rw [List.getElem?_map, List.getElem?_eq_getElem (by omega), Int.toNat_natCast, List.getD_eq_getElem?_getD, List.getElem?_eq_getElem (by omega)]
      rfl
    exact ⟨a1 k _ hk hr 0 _ (by decide) rfl, a1 k _ hk hr 1 _ (by decide) rfl, a1 k _ hk hr 2 _ (by decide) rfl⟩
theorem door_met (os : Os) (args : Array Value) : laidMetH Tryd.prog laid2 ((World.doorLaid Tryd.prog 400 os).forCall (fun _ _ => 0) ⟨#[], args, []⟩).memory :=
  laidMetH_of_parts3 (fuel := 8) (laidMet_of_run' 8 (by kernel_rfl) (by kernel_rfl)) (by kernel_rfl) (by kernel_rfl)
end Go.Proofs.YtdgljnidkhfgpaaDoor
