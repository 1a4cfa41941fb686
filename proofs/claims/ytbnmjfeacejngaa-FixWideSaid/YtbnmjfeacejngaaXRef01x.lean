/- Ref01 of this seat: part of the proof that the law answers true at every input and leaves its arguments as they were, without a condition; written by xprint.sh, a program of this session, out of the translation. -/
import Derived.Test.YtbnmjfeacejngaaXRef01x0
import Derived.Test.YtbnmjfeacejngaaXRef01x1
import Derived.Test.YtbnmjfeacejngaaXRef01x2
import Derived.Test.YtbnmjfeacejngaaXRef01x3
import Derived.Test.YtbnmjfeacejngaaXRef01x4
import Derived.Test.YtbnmjfeacejngaaXRef01x5
import Derived.Test.YtbnmjfeacejngaaXRef01x6
namespace Go.Proofs.Ytbnmjfeacejngaa.XRef01
open Go.RowKit Go.Proofs.YtbnmjfeacejngaaW.PrintWords Go.Proofs.YtbnmjfeacejngaaW.PrintLast Go.Proofs.YtbnmjfeacejngaaW.PrintMore
attribute [local go_sem] max2_int min2_int max_two min_two max_three min_three max_four min_four   -- for this text's walks alone
set_option linter.unusedVariables false
set_option linter.unusedSimpArgs false

end Go.Proofs.Ytbnmjfeacejngaa.XRef01
