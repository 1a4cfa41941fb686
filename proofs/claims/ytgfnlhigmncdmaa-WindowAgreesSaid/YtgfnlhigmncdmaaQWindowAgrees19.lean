/-
  Texts of this seat, joined, less what WindowAgrees does not lean on: FixNum, BigRef, BigRef2, BigRef3, BigRef4.
-/
import Derived.Test.YtgfnlhigmncdmaaQWindowAgrees18
import Derived.ProofKit
import Derived.Test.YtgfnlhigmncdmaaQWindowAgrees10
import Derived.Test.YtgfnlhigmncdmaaQWindowAgrees2
section
namespace Go.Proofs.Ytgfnlhigmncdmaa
set_option linter.unusedVariables false
set_option linter.unusedSimpArgs false
open Go.RowKit

end Go.Proofs.Ytgfnlhigmncdmaa

end
section
namespace Go.Proofs.Ytgfnlhigmncdmaa.Big
set_option linter.unusedVariables false
set_option linter.unusedSimpArgs false
open Go.RowKit Go.Proofs.Ytgfnlhigmncdmaa Go.Proofs.Ytgfnlhigmncdmaa.XRef01 Go.Proofs.YtgfnlhigmncdmaaW.PrintWords Go.Proofs.YtgfnlhigmncdmaaW.PrintLast Go.Proofs.YtgfnlhigmncdmaaW.PrintMore

end Go.Proofs.Ytgfnlhigmncdmaa.Big

end
section
namespace Go.Proofs.Ytgfnlhigmncdmaa.Big
set_option linter.unusedVariables false
set_option linter.unusedSimpArgs false
open Go.RowKit Go.Proofs.Ytgfnlhigmncdmaa Go.Proofs.Ytgfnlhigmncdmaa.XRef01 Go.Proofs.YtgfnlhigmncdmaaW.PrintWords Go.Proofs.YtgfnlhigmncdmaaW.PrintLast Go.Proofs.YtgfnlhigmncdmaaW.PrintMore

end Go.Proofs.Ytgfnlhigmncdmaa.Big

end
section
namespace Go.Proofs.Ytgfnlhigmncdmaa.Big
set_option linter.unusedVariables false
set_option linter.unusedSimpArgs false
open Go.RowKit Go.Proofs.Ytgfnlhigmncdmaa Go.Proofs.Ytgfnlhigmncdmaa.XRef01 Go.Proofs.YtgfnlhigmncdmaaW.PrintWords Go.Proofs.YtgfnlhigmncdmaaW.PrintLast Go.Proofs.YtgfnlhigmncdmaaW.PrintMore

end Go.Proofs.Ytgfnlhigmncdmaa.Big

end
section
namespace Go.Proofs.Ytgfnlhigmncdmaa.Big
set_option linter.unusedVariables false
set_option linter.unusedSimpArgs false
open Go.RowKit Go.Proofs.Ytgfnlhigmncdmaa Go.Proofs.Ytgfnlhigmncdmaa.XRef01 Go.Proofs.YtgfnlhigmncdmaaW.PrintWords Go.Proofs.YtgfnlhigmncdmaaW.PrintLast Go.Proofs.YtgfnlhigmncdmaaW.PrintMore

end Go.Proofs.Ytgfnlhigmncdmaa.Big

end
