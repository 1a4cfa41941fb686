/-
  Texts of this seat, joined, less what CoreEvals does not lean on: CEvalsRow.
-/
import Derived.Test.YtpljkcakijkklaaGreatDoorQCoreEvals24
import Derived.Test.YtpljkcakijkklaaGreatDoorQCoreEvals22
import Derived.Test.YtpljkcakijkklaaGreatDoorQCoreEvals25
set_option linter.unusedVariables false
set_option linter.unusedSimpArgs false
set_option maxHeartbeats 1000000
set_option maxRecDepth 100000
section
namespace Go.Proofs.YtpljkcakijkklaaGreatDoor
set_option linter.unusedVariables false
set_option linter.unusedSimpArgs false
open Go.RowKit
theorem CoreEvals_row {H : Type} {enc : TypeId × Value → H} {base : Nat} {d0 d1 : DataW H} {p0 p1 : List MemPlace} (v0 v1 : Value) (W : World) (hL : laidMetH Tryz.prog laid2 W)
  (hval0 : Value.okWide Tryz.prog W .any base 24 v0) (h0 : DataW.Trod enc Tryz.prog W 0 (fun _ => true) true 24 v0 d0 p0) (y0 : ∀ n ∈ DataW.weights Tryz.prog 24 d0, n ≤ reachBytes)
  (hval1 : Value.okWide Tryz.prog W .any base 28 v1) (h1 : DataW.Trod enc Tryz.prog W 0 (fun _ => true) true 28 v1 d1 p1) (y1 : ∀ n ∈ DataW.weights Tryz.prog 28 d1, n ≤ reachBytes) :
  Calls Tryz.prog 3 #[v0, v1] W fun e w' => e = .returned (.bool true) ∧ Below W.heap.size W w' := by
 obtain ⟨a, rfl, ha⟩ := core_arg hval0 h0 y0
 obtain ⟨u, rfl, hu⟩ := env_arg hval1 h1 y1
 exact CoreEvals_lies ha hu (errT_of_laid hL)
end Go.Proofs.YtpljkcakijkklaaGreatDoor

end
