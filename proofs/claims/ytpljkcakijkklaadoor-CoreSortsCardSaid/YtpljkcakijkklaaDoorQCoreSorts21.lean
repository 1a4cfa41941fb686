/-
  Texts of this seat, joined, less what CoreSorts does not lean on: CSortsRow.
-/
import Derived.Test.YtpljkcakijkklaaDoorQCoreSorts19
import Derived.Test.YtpljkcakijkklaaDoorQCoreSorts17
import Derived.Test.YtpljkcakijkklaaDoorQCoreSorts20
section
namespace Go.Proofs.YtpljkcakijkklaaDoor
set_option linter.unusedVariables false
set_option linter.unusedSimpArgs false
open Go.RowKit
set_option maxRecDepth 100000 in
theorem CoreSorts_row {H : Type} {enc : TypeId × Value → H} {base : Nat} {d0 d1 d2 : DataW H} {p0 p1 p2 : List MemPlace} (v0 v1 v2 : Value) (W : World) (hL : laidMetH Tryd.prog laid2 W)
    (hval0 : Value.okWide Tryd.prog W .any base 24 v0) (h0 : DataW.Trod enc Tryd.prog W 0 (fun _ => true) true 24 v0 d0 p0) (y0 : ∀ n ∈ DataW.weights Tryd.prog 24 d0, n ≤ reachBytes)
    (hval1 : Value.okWide Tryd.prog W .any base 24 v1) (h1 : DataW.Trod enc Tryd.prog W 0 (fun _ => true) true 24 v1 d1 p1) (y1 : ∀ n ∈ DataW.weights Tryd.prog 24 d1, n ≤ reachBytes)
    (hval2 : Value.okWide Tryd.prog W .any base 40 v2) (h2 : DataW.Trod enc Tryd.prog W 0 (fun _ => true) true 40 v2 d2 p2) (y2 : ∀ n ∈ DataW.weights Tryd.prog 40 d2, n ≤ reachBytes) :
    Calls Tryd.prog 4 #[v0, v1, v2] W fun e w' => e = .returned (.bool true) ∧ Below W.heap.size W w' := by
  obtain ⟨a, rfl, ha⟩ := core_arg hval0 h0 y0
  obtain ⟨b, rfl, hb⟩ := core_arg hval1 h1 y1
  obtain ⟨r0, r1, r2, rfl⟩ := three_arg hval2 h2 y2
  exact CoreSorts_lies r0 r1 r2 ha hb (errT_of_laid hL)
end Go.Proofs.YtpljkcakijkklaaDoor

end
