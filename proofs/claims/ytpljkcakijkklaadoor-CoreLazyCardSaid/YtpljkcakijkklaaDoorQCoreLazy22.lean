/-
  Texts of this seat, joined, less what CoreLazy does not lean on: CoreDoor.
-/
import Derived.LaidMore
import Derived.LaidHandle
import Derived.OpenShut
import Derived.MakeChecks
import Derived.ChangeSame
import Derived.ChangeVars
import Derived.LaidLaws
import Derived.Stop.Joined
import Derived.Test.YtpljkcakijkklaaDoorQCoreLazy19
import Derived.Test.YtpljkcakijkklaaDoorRows
set_option linter.unusedVariables false
set_option linter.unusedSimpArgs false
section
namespace Go.Proofs.YtpljkcakijkklaaDoor
set_option linter.unusedVariables false
set_option linter.unusedSimpArgs false
open Go.ChangeShapes Go.WideShapes Go.ChangeAt Go.RowKit
theorem gErr : Tryd.prog.globalNamed "errors.errorType" = some 0 := by kernel_rfl
theorem rtRow : (Tryd.prog.cutTypes.find? (·.1 == "internal/reflectlite.rtype")).map (·.2) = some 125 := by kernel_rfl
theorem errRow : ((List.range Tryd.prog.types.size).filter fun t => Tryd.prog.rowNamed t [101, 114, 114, 111, 114]) = [70] := by kernel_rfl
theorem errHandle : typeHandle Tryd.prog 70 = .pointer (some ⟨3, 70, none⟩) := by kernel_rfl
def laid2 : List (String × DataW Unit) := [("errors.errorType", Rows.laid_errors_errorType)]
theorem errT_of_laid {W : World} (h : laidMetH Tryd.prog laid2 W) : ErrT W := by
 have h' : laidMet Tryd.prog [] W ∧ handlesMet Tryd.prog laid2 W := h
 obtain ⟨name, u, ty, e1, e2, e3, e4, e5⟩ := h'.2 _ (List.mem_singleton.2 rfl)
 have en : name = [101, 114, 114, 111, 114] := (Option.some.inj e1).symm
 subst en
 obtain rfl := Option.some.inj (rtRow.symm.trans e2)
 have hm : ty ∈ (List.range Tryd.prog.types.size).filter fun t => Tryd.prog.rowNamed t [101, 114, 114, 111, 114] := List.mem_filter.2 ⟨List.mem_range.2 e3, e4⟩
 rw [errRow] at hm
 obtain rfl := List.mem_singleton.1 hm
 rw [errHandle] at e5
 unfold ErrT
 simpa using World.var?_cell gErr e5 0
theorem door_met (os : Os) (args : Array Value) : laidMetH Tryd.prog laid2 ((World.doorLaid Tryd.prog 400 os).forCall (fun _ _ => 0) ⟨#[], args, []⟩).memory :=
 laidMetH_of_parts3 (fuel := 8) (laidMet_nil _ _) (by kernel_rfl) (by kernel_rfl)
end Go.Proofs.YtpljkcakijkklaaDoor

end
