/-
  Texts of this seat, joined, less what CoreLazy does not lean on: TailH.
-/
import Derived.StillTail
import Derived.Test.YtpljkcakijkklaaDoorQCoreLazy8
set_option linter.unusedVariables false
set_option linter.unusedSimpArgs false
section
namespace Go.Proofs.YtpljkcakijkklaaDoor
set_option linter.unusedVariables false
set_option linter.unusedSimpArgs false
open Go.RowKit
section
variable {P : Program} {md : Region.Mode} {ops : Array Oper} {Q : Exit → Act → World → Prop} {S : World → Prop}
end
section
variable {P : Program} {l : List Oper} {Q : Exit → Act → World → Prop} {md : Region.Mode} {S : World → Prop} {oi : Oper} {v : Value} {n fuel : Nat} {listed : Array Bool} {a : Act} {w : World}
end
end Go.Proofs.YtpljkcakijkklaaDoor

end
