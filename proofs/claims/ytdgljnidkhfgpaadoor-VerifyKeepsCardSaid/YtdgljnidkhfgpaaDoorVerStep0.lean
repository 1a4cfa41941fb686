/-
  Words for the verifier's step.
-/
import Derived.Test.YtdgljnidkhfgpaaDoorVerStepPure
namespace Go.Proofs.YtdgljnidkhfgpaaDoor
set_option linter.unusedVariables false
set_option linter.unusedSimpArgs false
open Go.RowKit Go.Proofs.YtdgljnidkhfgpaaDoorW.PrintWords Go.Proofs.YtdgljnidkhfgpaaDoorW.PrintLast Go.Proofs.YtdgljnidkhfgpaaDoorW.PrintMore
/-- Two new blocks. -/
theorem two_new (w : World) (a b : Array Value) (s t : TypeId) : ((w.alloc (.cells a s)).alloc (.cells b t)).drew.heap[w.heap.size]? = some (.cells a s (0, 0)) ∧ ((w.alloc (.cells a s)).alloc (.cells b t)).drew.heap[w.heap.size + 1]? = some (.cells b t (0, 0)) ∧ Below w.heap.size w ((w.alloc (.cells a s)).alloc (.cells b t)).drew := by
  refine ⟨blk_drew (blk_alloc (blk_new w _) _), ?_, below_drew (below_alloc (below_alloc (Below.refl _ w) _) _)⟩
  have := blk_new (w.alloc (.cells a s)) (.cells b t)
  rw [World.size_alloc] at this
  exact blk_drew this
end Go.Proofs.YtdgljnidkhfgpaaDoor
