/-
  FixRounds: Floor, Ceil, Whole and Count answer as the reference does. For all numbers of 64 bits.
-/
import Derived.Test.YtbnmjfeacejngaaXFixRoundsx1
import Derived.Test.YtbnmjfeacejngaaBigRef5
namespace Go.Proofs.Ytbnmjfeacejngaa.Pure
open Go.RowKit Go.Proofs.Ytbnmjfeacejngaa Go.Proofs.Ytbnmjfeacejngaa.XFixRounds Go.Proofs.YtbnmjfeacejngaaW.PrintWords Go.Proofs.YtbnmjfeacejngaaW.PrintLast

theorem FixRounds : capstanlaw01_FixRounds.Pure := by
  intro a ha
  have ra := wf64 ha
  have aw : XAwake.capstanlaw01_awake.f = some true := by decide +kernel
  have r1 : R64 (a / 1000000) := by obtain ⟨h0, h1⟩ := ra; exact ⟨by omega, by omega⟩
  have r2 : R64 (-(-a / 1000000)) := by obtain ⟨h0, h1⟩ := ra; exact ⟨by omega, by omega⟩
  obtain ⟨k, hk⟩ : ∃ k, 1000 ≤ k := ⟨1000, Nat.le_refl _⟩
  refine ⟨k, ?_⟩
  unfold capstanlaw01_FixRounds.f
  refine Big.bind_of aw ?_
  rw [if_pos rfl]
  refine Big.bind_of (floor_f ra) ?_
  refine Big.bind_of (Big.floor_ref k hk ra) ?_
  rw [if_pos (by rw [heldI_of r1])]
  refine Big.bind_of (ceil_f ra) ?_
  refine Big.bind_of (Big.ceil_ref k hk ra) ?_
  rw [if_pos (by rw [heldI_of r2])]
  refine Big.bind_of (whole_f ra) ?_
  refine Big.bind_of (Big.whole_ref k hk ra) ?_
  rw [if_pos rfl]
  refine Big.bind_of (count_f ra) ?_
  refine Big.bind_of (Big.count_ref k hk ra) ?_
  rw [heldI_of r2, beq_self_eq_true]
end Go.Proofs.Ytbnmjfeacejngaa.Pure
