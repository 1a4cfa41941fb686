/-
  Texts of this seat, joined, less what CoreCopies does not lean on: CCopiesRow.
-/
import Derived.Test.YtpljkcakijkklaaDoorQCoreCopies23
import Derived.Test.YtpljkcakijkklaaDoorQCoreCopies24
set_option linter.unusedVariables false
set_option linter.unusedSimpArgs false
set_option maxHeartbeats 1000000
set_option maxRecDepth 100000
section
namespace Go.Proofs.YtpljkcakijkklaaDoor
set_option linter.unusedVariables false
set_option linter.unusedSimpArgs false
open Go.RowKit
theorem CoreCopies_row {H : Type} {enc : TypeId × Value → H} {base : Nat} {d0 : DataW H} {p0 : List MemPlace} (v0 : Value) (W : World) (hL : laidMetH Tryd.prog laid2 W)
  (hval0 : Value.okWide Tryd.prog W .any base 53 v0) (h0 : DataW.Trod enc Tryd.prog W 0 (fun _ => true) true 53 v0 d0 p0) (y0 : ∀ n ∈ DataW.weights Tryd.prog 53 d0, n ≤ reachBytes) :
  Calls Tryd.prog 5 #[v0] W fun e w' => e = .returned (.bool true) ∧ Below W.heap.size W w' := by
 obtain ⟨q, rfl, hq⟩ := plan_arg hval0 h0 y0
 exact CoreCopies_lies hq (errT_of_laid hL)
end Go.Proofs.YtpljkcakijkklaaDoor

end
