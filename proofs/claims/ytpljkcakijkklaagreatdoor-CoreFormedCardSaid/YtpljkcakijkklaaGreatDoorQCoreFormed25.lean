/-
  Texts of this seat, joined, less what CoreFormed does not lean on: CoreDoor2.
-/
import Derived.Test.YtpljkcakijkklaaGreatDoorQCoreFormed24
import Derived.Test.YtpljkcakijkklaaGreatDoorQCoreFormed20
set_option linter.unusedVariables false
set_option linter.unusedSimpArgs false
section
namespace Go.Proofs.YtpljkcakijkklaaGreatDoor
set_option linter.unusedVariables false
set_option linter.unusedSimpArgs false
open Go.ChangeShapes Go.WideShapes Go.ChangeAt Go.RowKit
section
variable {H : Type} {enc : TypeId × Value → H} {P : Program} {w : World} {base : Nat} {sp : Nat → Bool} {held : Bool}
theorem open_rows {t e : TypeId} {n m fuel : Nat} {fs : Array Field} {cs : List Value} {rows : List (List Int)} {p : List MemPlace}
  (ht : P.underlying t = some (.array n e)) (he : P.underlying e = some (.struct fs)) (hm : P.cellsOf e = m)
  (hf : ∀ j, j < m → ∃ f, fs[j]? = some f ∧ f.offset = j ∧ P.cellsOf f.type = 1 ∧ P.underlying f.type = some (.int .i64))
  (h : DataW.trod enc P w base sp held fuel t cs = some (.agg (rows.map fun r => .agg (r.map fun z => .lit (.int .i64 z))), p)) :
  ∀ (i : Nat) (r : List Int), i < n → rows[i]? = some r → ∀ (j : Nat) (z : Int), j < m → r[j]? = some z → cs[i * m + j]? = some (.int .i64 z) := by
 intro i r hi hr j z hj hz
 obtain ⟨xs, k, rfl, hx, hlen, hn, hel⟩ := DataW.trod_array ht h
 rw [hm] at hel
 have hi' := hel i hi
 simp only [Prod.mk.injEq, DataW.agg.injEq] at hx
 obtain ⟨hx1, _⟩ := hx
 obtain ⟨x, hxi⟩ : ∃ x, xs[i]? = some x := ⟨xs[i]'(by omega), List.getElem?_eq_getElem (by omega)⟩
 rw [hxi] at hi'
 have e1 : some (DataW.agg (H := H) (r.map fun z => .lit (.int .i64 z))) = some x.1 := by
  have a := congrArg (fun l => l[i]?) hx1
  simp only [List.getElem?_map, hr, hxi, Option.map_some] at a
  exact a
 injection e1 with e1
 obtain ⟨x1, x2⟩ := x
 simp only at e1
 subst e1
 obtain ⟨ys, k2, rfl, hy, hylen, hyn, hyel⟩ := DataW.trod_struct he hi'
 simp only [Prod.mk.injEq, DataW.agg.injEq] at hy
 obtain ⟨hy1, _⟩ := hy
 obtain ⟨f, hf1, hf2, hf3, hf4⟩ := hf j hj
 have hj' := hyel j f hf1
 rw [hf2, hf3] at hj'
 have e2 := congrArg (fun l => l[j]?) hy1
 simp only [List.getElem?_map, hz, Option.map_some] at e2
 cases hyj : ys[j]? with
 | none => rw [hyj] at e2; cases e2
 | some y =>
  rw [hyj] at e2 hj'
  simp only [Option.map_some, Option.some.injEq] at e2
  obtain ⟨y1, y2⟩ := y
  simp only at e2
  subst e2
  obtain ⟨v, hv1, hv2, _⟩ := DataW.trod_int hf4 hj'
  simp only [Prod.mk.injEq, DataW.lit.injEq, Lit.int.injEq] at hv2
  obtain ⟨⟨_, rfl⟩, _⟩ := hv2
  have := congrArg (fun l => l[0]?) hv1
  simp only [List.getElem?_take, List.getElem?_drop, List.getElem?_cons_zero] at this
  rw [if_pos (by omega), if_pos (by omega)] at this
  simpa using this
end
theorem gFields : Tryz.prog.globalNamed "capstan/cron.fields" = some 0 := by kernel_rfl
theorem tFields : (Tryz.prog.globals[(0 : Nat)]?).map (·.type) = some 116 := by kernel_rfl
def rowsF : List (List Int) := [[0, 59], [0, 23], [1, 31], [1, 12], [0, 6]]
theorem eFields {H : Type} : (Rows.laid_capstan_cron_fields : DataW H) = .agg (rowsF.map fun r => .agg (r.map fun z => .lit (.int .i64 z))) := rfl
def laid3 : List (String × DataW Unit) := [("errors.errorType", Rows.laid_errors_errorType), ("capstan/cron.fields", Rows.laid_capstan_cron_fields)]
theorem of_laid3 {W : World} (h : laidMetH Tryz.prog laid3 W) : ErrT W ∧ FieldsAt W := by
 have h' : laidMet Tryz.prog [("capstan/cron.fields", Rows.laid_capstan_cron_fields)] W ∧ handlesMet Tryz.prog [("errors.errorType", Rows.laid_errors_errorType)] W := h
 refine ⟨errT_of_laid (show laidMetH Tryz.prog laid2 W from ⟨laidMet_nil _ _, h'.2⟩), ?_⟩
 obtain ⟨ps, ⟨g0, t0, cs0, f0, p0, q0, hg0, ht0, hv0, hd0, _, _⟩, _, _⟩ := h'.1
 obtain rfl := Option.some.inj (gFields.symm.trans hg0)
 obtain rfl := Option.some.inj (tFields.symm.trans ht0)
 rw [eFields] at hd0
 have cF : Tryz.prog.cellsOf 115 = 2 := by kernel_rfl
 have c3 : Tryz.prog.cellsOf 3 = 1 := by kernel_rfl
 have a0 := open_rows Tryz.underlying116 Tryz.underlying115 cF (by
  intro j hj
  rcases (show j = 0 ∨ j = 1 by omega) with rfl | rfl
  ·exact ⟨_, rfl, rfl, c3, Tryz.underlying3⟩
  ·exact ⟨_, rfl, rfl, c3, Tryz.underlying3⟩) hd0
 have v0 : ∀ k, W.cell? ⟨0, k, none⟩ = cs0.toList[k]? := fun k => (World.var?_cell hg0 hv0 k).trans (by simp)
 intro k hk
 rw [v0, v0]
 rcases (show k = 0 ∨ k = 1 ∨ k = 2 ∨ k = 3 ∨ k = 4 by omega) with rfl | rfl | rfl | rfl | rfl
 ·exact ⟨a0 0 [0, 59] (by decide) rfl 0 0 (by decide) rfl, a0 0 [0, 59] (by decide) rfl 1 59 (by decide) rfl⟩
 ·exact ⟨a0 1 [0, 23] (by decide) rfl 0 0 (by decide) rfl, a0 1 [0, 23] (by decide) rfl 1 23 (by decide) rfl⟩
 ·exact ⟨a0 2 [1, 31] (by decide) rfl 0 1 (by decide) rfl, a0 2 [1, 31] (by decide) rfl 1 31 (by decide) rfl⟩
 ·exact ⟨a0 3 [1, 12] (by decide) rfl 0 1 (by decide) rfl, a0 3 [1, 12] (by decide) rfl 1 12 (by decide) rfl⟩
 ·exact ⟨a0 4 [0, 6] (by decide) rfl 0 0 (by decide) rfl, a0 4 [0, 6] (by decide) rfl 1 6 (by decide) rfl⟩
theorem door_met3 (os : Os) (args : Array Value) : laidMetH Tryz.prog laid3 ((World.doorLaid Tryz.prog 400 os).forCall (fun _ _ => 0) ⟨#[], args, []⟩).memory :=
 laidMetH_of_parts3 (fuel := 8) (laidMet_of_run' 8 (by kernel_rfl) (by kernel_rfl)) (by kernel_rfl) (by kernel_rfl)
end Go.Proofs.YtpljkcakijkklaaGreatDoor

end
