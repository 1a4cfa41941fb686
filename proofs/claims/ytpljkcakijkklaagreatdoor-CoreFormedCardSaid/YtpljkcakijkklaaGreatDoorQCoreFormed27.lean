/-
  Texts of this seat, joined, less what CoreFormed does not lean on: CFormedRow.
-/
import Derived.Test.YtpljkcakijkklaaGreatDoorQCoreFormed26
import Derived.Test.YtpljkcakijkklaaGreatDoorQCoreFormed25
set_option linter.unusedVariables false
set_option linter.unusedSimpArgs false
section
namespace Go.Proofs.YtpljkcakijkklaaGreatDoor
set_option linter.unusedVariables false
set_option linter.unusedSimpArgs false
open Go.RowKit
set_option maxRecDepth 100000
theorem rules_arg {H : Type} {enc : TypeId × Value → H} {base : Nat} {d : DataW H} {p : List MemPlace} {v : Value} {W : World} (hval : Value.okWide Tryz.prog W .any base 44 v)
  (h : DataW.Trod enc Tryz.prog W 0 (fun _ => true) true 44 v d p) (y : ∀ n ∈ DataW.weights Tryz.prog 44 d, n ≤ reachBytes) : ∃ a b c d e : Int, v = .agg #[.int .i64 a, .int .i64 b, .int .i64 c, .int .i64 d, .int .i64 e] := by
 obtain ⟨cs, rfl, hsz⟩ := WideShapes.okWide_struct Tryz.underlying44 hval
 obtain ⟨fuel, hf⟩ := h
 obtain ⟨x, hc, hl⟩ := rulesp_opn hf y
 have : cs = #[.int .i64 x.1, .int .i64 x.2.1, .int .i64 x.2.2.1, .int .i64 x.2.2.2.1, .int .i64 x.2.2.2.2] := by
  have hs' : cs.toList = [.int .i64 x.1, .int .i64 x.2.1, .int .i64 x.2.2.1, .int .i64 x.2.2.2.1, .int .i64 x.2.2.2.2] := by simpa [Value.cells] using hc
  rw [← Array.toArray_toList (xs := cs), hs']
 rw [this]
 exact ⟨_, _, _, _, _, rfl⟩
theorem CoreFormed_row {H : Type} {enc : TypeId × Value → H} {base : Nat} {d0 d1 : DataW H} {p0 p1 : List MemPlace} (v0 v1 : Value) (W : World) (hL : laidMetH Tryz.prog laid3 W)
  (hval0 : Value.okWide Tryz.prog W .any base 49 v0) (h0 : DataW.Trod enc Tryz.prog W 0 (fun _ => true) true 49 v0 d0 p0) (y0 : ∀ n ∈ DataW.weights Tryz.prog 49 d0, n ≤ reachBytes)
  (hval1 : Value.okWide Tryz.prog W .any base 44 v1) (h1 : DataW.Trod enc Tryz.prog W 0 (fun _ => true) true 44 v1 d1 p1) (y1 : ∀ n ∈ DataW.weights Tryz.prog 44 d1, n ≤ reachBytes) :
  Calls Tryz.prog 4 #[v0, v1] W fun e w' => e = .returned (.bool true) ∧ Below W.heap.size W w' := by
 obtain ⟨q, rfl, hq⟩ := plan_arg hval0 h0 y0
 obtain ⟨a, b, c, d, e, rfl⟩ := rules_arg hval1 h1 y1
 obtain ⟨ht, hF⟩ := of_laid3 hL
 exact CoreFormed_lies hq hF ht
end Go.Proofs.YtpljkcakijkklaaGreatDoor

end
