/- Ver of this seat: part of the proof that the law answers true at every input and leaves its arguments as they were, without a condition; written by xprint.sh, a program of this session, out of the translation. -/
import Derived.Test.YtdgljnidkhfgpaaDoorXVerx0
import Derived.Test.YtdgljnidkhfgpaaDoorXVerx1
import Derived.Test.YtdgljnidkhfgpaaDoorXVerx2
import Derived.Test.YtdgljnidkhfgpaaDoorXVerx3
namespace Go.Proofs.YtdgljnidkhfgpaaDoor.XVer
open Go.RowKit Go.Proofs.YtdgljnidkhfgpaaDoorW.PrintWords Go.Proofs.YtdgljnidkhfgpaaDoorW.PrintLast Go.Proofs.YtdgljnidkhfgpaaDoorW.PrintMore
attribute [local go_sem] max2_int min2_int max_two min_two max_three min_three max_four min_four   -- for this text's walks alone
set_option linter.unusedVariables false
set_option linter.unusedSimpArgs false

end Go.Proofs.YtdgljnidkhfgpaaDoor.XVer
