/- Refs of this seat: part of the proof that the law answers true at every input and leaves its arguments as they were, without a condition; written by xprint.sh, a program of this session, out of the translation. -/
import Derived.Test.YtfojfgnhblgckaaProg
import Derived.Below
import Derived.Deep.Draws
import Derived.Deep.AppendLies
import Derived.Maps.AppendAt
import Derived.OwnWalk
import Derived.Laws.BytesArg
import Derived.Laws.MakeOwn
import Derived.Laws.OwnMore
import Derived.Deep.OwnRows
import Derived.Tactics
import Derived.Lib.ConvBytes
import Derived.Laws.Slices
import Derived.WalkKit
import Derived.KernelRfl
import Derived.RowKit3
import Derived.Deep.LoopGhost
import Derived.Deep.QuietTactic
import Derived.BigQuiet
import Derived.WideLaws
import Derived.Deep.DeepCutAuto
import Derived.Deep.CutBlock
import Derived.Deep.RegionHeld3
import Derived.Laws.Rows
import Derived.Lib.AppendStr
import Derived.ArgAppend
import Derived.Laws.IdiomCopy
import Derived.OrdersHeld
import Derived.Laws.BitsLemmas
import Derived.RowKit
import Derived.Test.YtfojfgnhblgckaaWWords
import Derived.Test.YtfojfgnhblgckaaWLast
import Derived.Test.YtfojfgnhblgckaaWTab
import Derived.Test.YtfojfgnhblgckaaWFour
import Derived.Test.YtfojfgnhblgckaaWQPut
import Derived.Test.YtfojfgnhblgckaaWApart
import Derived.Test.YtfojfgnhblgckaaWArr
import Derived.Test.YtfojfgnhblgckaaWZeros
import Derived.Test.YtfojfgnhblgckaaWFoot
import Derived.Test.YtfojfgnhblgckaaWKept
import Derived.Test.YtfojfgnhblgckaaWShare
import Derived.Test.YtfojfgnhblgckaaWN
import Derived.Test.YtfojfgnhblgckaaWFootNe
import Derived.Test.YtfojfgnhblgckaaWAt
import Derived.Test.YtfojfgnhblgckaaWEqStruct
import Derived.Test.YtfojfgnhblgckaaWRepsOne
import Derived.Test.YtfojfgnhblgckaaWInv
import Derived.Test.YtfojfgnhblgckaaWInvWords
import Derived.Test.YtfojfgnhblgckaaWGuard
import Derived.Test.YtfojfgnhblgckaaWNEv
import Derived.Test.YtfojfgnhblgckaaWMore
namespace Go.Proofs.Ytfojfgnhblgckaa.XRefs
open Go.RowKit Go.Proofs.YtfojfgnhblgckaaW.PrintWords Go.Proofs.YtfojfgnhblgckaaW.PrintLast Go.Proofs.YtfojfgnhblgckaaW.PrintMore
attribute [local go_sem] max2_int min2_int max_two min_two max_three min_three max_four min_four   -- for this text's walks alone
set_option linter.unusedVariables false
set_option linter.unusedSimpArgs false



def errW : Option Int → Value
  | none => .nilIface
  | some c => .iface 0 (.int .i64 c)
theorem errW_none : errW none = .nilIface := rfl
theorem errW_some (c : Int) : errW (some c) = .iface 0 (.int .i64 c) := rfl

theorem info2 : (Try.prog.info? 2).map (fun i => (i.zero, i.size, i.bytes)) = some (some (.int .i64 0), 1, 8) := by kernel_rfl
-- the values' own types

end Go.Proofs.Ytfojfgnhblgckaa.XRefs
