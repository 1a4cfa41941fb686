/-
  Texts of this seat, joined, less what CoreLazy does not lean on: CLazyRow.
-/
import Derived.Test.YtpljkcakijkklaaDoorQCoreLazy20
import Derived.Test.YtpljkcakijkklaaDoorQCoreLazy21
import Derived.Test.YtpljkcakijkklaaDoorQCoreLazy22
set_option linter.unusedVariables false
set_option linter.unusedSimpArgs false
set_option maxHeartbeats 1000000
set_option maxRecDepth 100000
section
namespace Go.Proofs.YtpljkcakijkklaaDoor
set_option linter.unusedVariables false
set_option linter.unusedSimpArgs false
open Go.RowKit
theorem u8_of_wf {n : Int} (h : (Lit.int .u8 n).wf = true) : 0 ≤ n ∧ n ≤ 255 := by
 have h2 : IntKind.u8.min ≤ n ∧ n ≤ IntKind.u8.max := by simpa [Lit.wf] using h
 have e : IntKind.u8.min = 0 := by decide
 have e2 : IntKind.u8.max = 255 := by decide
 omega
theorem CoreLazy_row {H : Type} {enc : TypeId × Value → H} {base : Nat} {d0 d1 d2 : DataW H} {p0 p1 p2 : List MemPlace} (v0 v1 v2 : Value) (W : World) (hL : laidMetH Tryd.prog laid2 W)
  (hval0 : Value.okWide Tryd.prog W .any base 24 v0) (h0 : DataW.Trod enc Tryd.prog W 0 (fun _ => true) true 24 v0 d0 p0) (y0 : ∀ n ∈ DataW.weights Tryd.prog 24 d0, n ≤ reachBytes)
  (hval1 : Value.okWide Tryd.prog W .any base 28 v1) (h1 : DataW.Trod enc Tryd.prog W 0 (fun _ => true) true 28 v1 d1 p1) (y1 : ∀ n ∈ DataW.weights Tryd.prog 28 d1, n ≤ reachBytes)
  (hval2 : Value.okWide Tryd.prog W .any base 5 v2) (h2 : DataW.Trod enc Tryd.prog W 0 (fun _ => true) true 5 v2 d2 p2) (y2 : ∀ n ∈ DataW.weights Tryd.prog 5 d2, n ≤ reachBytes) :
  Calls Tryd.prog 3 #[v0, v1, v2] W fun e w' => e = .returned (.bool true) ∧ Below W.heap.size W w' := by
 obtain ⟨a, rfl, ha⟩ := core_arg hval0 h0 y0
 obtain ⟨u, rfl, hu⟩ := env_arg hval1 h1 y1
 obtain ⟨n, rfl, -, -, hn⟩ := ChangeShapes.open_int Tryd.underlying5 hval2 h2
 exact CoreLazy_lies ha hu (errT_of_laid hL) (u8_of_wf hn)
end Go.Proofs.YtpljkcakijkklaaDoor

end
