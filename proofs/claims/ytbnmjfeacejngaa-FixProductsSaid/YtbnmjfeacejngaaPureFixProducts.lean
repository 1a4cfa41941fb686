/-
  FixProducts: Div, Mul and Scale answer as the reference does. For all numbers of 64 bits.
-/
import Derived.Test.YtbnmjfeacejngaaXFixProductsx1
import Derived.Test.YtbnmjfeacejngaaBigRef5
namespace Go.Proofs.Ytbnmjfeacejngaa.Pure
open Go.RowKit Go.Proofs.Ytbnmjfeacejngaa Go.Proofs.Ytbnmjfeacejngaa.XFixProducts Go.Proofs.YtbnmjfeacejngaaW.PrintWords Go.Proofs.YtbnmjfeacejngaaW.PrintLast

theorem FixProducts : capstanlaw01_FixProducts.Pure := by
  intro a b c ha hb hc
  have ra := wf64 ha
  have rb := wf64 hb
  have rc := wf64 hc
  have aw : XAwake.capstanlaw01_awake.f = some true := by decide +kernel
  obtain ⟨k, hk⟩ : ∃ k, 1001 ≤ k := ⟨1001, Nat.le_refl _⟩
  refine ⟨k, ?_⟩
  unfold capstanlaw01_FixProducts.f
  refine Big.bind_of aw ?_
  rw [if_pos rfl]
  refine Big.bind_of (div_f ra rb) ?_
  refine Big.bind_of (Big.div_ref k (by omega) ra rb) ?_
  refine Big.bind_of (mul_f ra rb) ?_
  refine Big.bind_of (Big.mul_ref k (by omega) ra rb) ?_
  rw [if_pos rfl, if_pos rfl, if_pos (beq_self_eq_true _)]
  refine Big.bind_of (scale_f ra rb rc) ?_
  refine Big.bind_of (Big.scale_ref k hk ra rb rc) ?_
  rw [beq_self_eq_true]
end Go.Proofs.Ytbnmjfeacejngaa.Pure
