/-
  Texts of this seat, joined, less what CoreLazy does not lean on: WEqStruct.
-/
import Derived.Test.YtpljkcakijkklaaDoorQCoreLazy1
import Derived.Laws.StructEq
set_option linter.unusedVariables false
set_option linter.unusedSimpArgs false
section
namespace Go.Proofs.YtpljkcakijkklaaDoorW.PrintWords
open Go.RowKit
section
variable {P : Program} {d : Nat} {xs ys : Array Value} {f : Field} {fs : List Field} {a b : Value} {r s : Bool} {w : World}
end
end Go.Proofs.YtpljkcakijkklaaDoorW.PrintWords

end
