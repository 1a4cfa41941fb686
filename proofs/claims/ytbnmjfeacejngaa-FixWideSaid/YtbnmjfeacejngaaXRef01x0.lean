/- Ref01 of this seat: part of the proof that the law answers true at every input and leaves its arguments as they were, without a condition; written by xprint.sh, a program of this session, out of the translation. -/
import Derived.Test.YtbnmjfeacejngaaProg
import Derived.Below
import Derived.Deep.Draws
import Derived.Deep.AppendLies
import Derived.Maps.AppendAt
import Derived.OwnWalk
import Derived.Laws.BytesArg
import Derived.Laws.MakeOwn
import Derived.Laws.OwnMore
import Derived.Deep.OwnRows
import Derived.Tactics
import Derived.Lib.ConvBytes
import Derived.Laws.Slices
import Derived.WalkKit
import Derived.KernelRfl
import Derived.RowKit3
import Derived.Deep.LoopGhost
import Derived.Deep.QuietTactic
import Derived.BigQuiet
import Derived.WideLaws
import Derived.Deep.DeepCutAuto
import Derived.Deep.CutBlock
import Derived.Deep.RegionHeld3
import Derived.Laws.Rows
import Derived.Lib.AppendStr
import Derived.ArgAppend
import Derived.Laws.IdiomCopy
import Derived.OrdersHeld
import Derived.Laws.BitsLemmas
import Derived.RowKit
import Derived.Test.YtbnmjfeacejngaaFixFns
import Derived.Test.YtbnmjfeacejngaaWWords
import Derived.Test.YtbnmjfeacejngaaWLast
import Derived.Test.YtbnmjfeacejngaaWTab
import Derived.Test.YtbnmjfeacejngaaWFour
import Derived.Test.YtbnmjfeacejngaaWQPut
import Derived.Test.YtbnmjfeacejngaaWApart
import Derived.Test.YtbnmjfeacejngaaWArr
import Derived.Test.YtbnmjfeacejngaaWZeros
import Derived.Test.YtbnmjfeacejngaaWFoot
import Derived.Test.YtbnmjfeacejngaaWKept
import Derived.Test.YtbnmjfeacejngaaWShare
import Derived.Test.YtbnmjfeacejngaaWN
import Derived.Test.YtbnmjfeacejngaaWFootNe
import Derived.Test.YtbnmjfeacejngaaWAt
import Derived.Test.YtbnmjfeacejngaaWEqStruct
import Derived.Test.YtbnmjfeacejngaaWRepsOne
import Derived.Test.YtbnmjfeacejngaaWInv
import Derived.Test.YtbnmjfeacejngaaWInvWords
import Derived.Test.YtbnmjfeacejngaaWGuard
import Derived.Test.YtbnmjfeacejngaaWNEv
import Derived.Test.YtbnmjfeacejngaaWMore
namespace Go.Proofs.Ytbnmjfeacejngaa.XRef01
open Go.RowKit Go.Proofs.YtbnmjfeacejngaaW.PrintWords Go.Proofs.YtbnmjfeacejngaaW.PrintLast Go.Proofs.YtbnmjfeacejngaaW.PrintMore
attribute [local go_sem] max2_int min2_int max_two min_two max_three min_three max_four min_four   -- for this text's walks alone
set_option linter.unusedVariables false
set_option linter.unusedSimpArgs false



def errW : Option Int → Value
  | none => .nilIface
  | some c => .iface 0 (.int .i64 c)
theorem errW_none : errW none = .nilIface := rfl
theorem errW_some (c : Int) : errW (some c) = .iface 0 (.int .i64 c) := rfl

theorem info3 : (Try.prog.info? 3).map (fun i => (i.zero, i.size, i.bytes)) = some (some (.int .i64 0), 1, 8) := by kernel_rfl
-- the values' own types

end Go.Proofs.Ytbnmjfeacejngaa.XRef01
