/-
  RankKeeps: the law's call over what can be read as data.
-/
import Derived.Test.YtfojfgnhblgckaaRankKeepsLaw
import Derived.Test.YtfojfgnhblgckaaRankBoundsRow
namespace Go.Proofs.Ytfojfgnhblgckaa
open Go.RowKit Go.Proofs.YtfojfgnhblgckaaW.PrintWords Go.Proofs.YtfojfgnhblgckaaW.PrintLast Go.Proofs.YtfojfgnhblgckaaW.PrintMore

theorem RankKeeps_row {H : Type} {enc : TypeId × Value → H} {base : Nat} {d : DataW H} {p : List MemPlace} (v : Value) (x : Int) (W : World) (hval : Value.okWide Try.prog W .any base 22 v)
    (h : DataW.Trod enc Try.prog W 0 (fun _ => true) true 22 v d p) (y : ∀ n ∈ DataW.weights Try.prog 22 d, n ≤ reachBytes) (wf : (Lit.int .i64 x).wf = true) :
    Calls Try.prog 5 #[v, .int .i64 x] W fun e w' => e = .returned (.bool true) ∧ Below W.heap.size W w' := by
  obtain ⟨a, len, cap, rfl⟩ := WideShapes.okWide_slice Try.underlying22 hval
  obtain ⟨fuel, hf⟩ := h
  obtain ⟨s, hs, hok⟩ := opn_slice Try.underlying22 (opn_int Try.underlying2) hf y
  simp [Value.cells] at hs
  obtain ⟨rfl, rfl, rfl⟩ := hs
  obtain ⟨hl, hc⟩ := ints_c hok (by kernel_rfl)
  have h1 := hok.1
  have := RankKeeps_c s.at_ s.cap (s.all.take s.len) x W hc (by omega)
  rw [hl] at this
  exact this
end Go.Proofs.Ytfojfgnhblgckaa
