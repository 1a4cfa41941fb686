/-
  FixSums: for all a and b, Add, Sub, Neg and Abs give the exact sum, difference, negation and size, held at the ends of int64: the same as the reference. For all numbers of 64 bits.
-/
import Derived.Test.YtbnmjfeacejngaaXFixSumsx1
import Derived.Test.YtbnmjfeacejngaaBigRef2
namespace Go.Proofs.Ytbnmjfeacejngaa.Pure
open Go.RowKit Go.Proofs.Ytbnmjfeacejngaa Go.Proofs.Ytbnmjfeacejngaa.XFixSums Go.Proofs.YtbnmjfeacejngaaW.PrintWords Go.Proofs.YtbnmjfeacejngaaW.PrintLast

theorem FixSums : capstanlaw01_FixSums.Pure := by
  intro a b ha hb
  have ra := wf64 ha
  have rb := wf64 hb
  have aw : XAwake.capstanlaw01_awake.f = some true := by decide +kernel
  refine ⟨40, ?_⟩
  unfold capstanlaw01_FixSums.f
  rw [aw, add_f ra rb, sub_f ra rb, neg_f ra, abs_f ra, Big.add_ref ra rb, Big.sub_ref ra rb, Big.neg_ref ra, Big.abs_ref ra]
  simp
end Go.Proofs.Ytbnmjfeacejngaa.Pure
