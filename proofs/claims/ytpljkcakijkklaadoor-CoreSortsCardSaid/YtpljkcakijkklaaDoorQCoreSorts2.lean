/-
  Texts of this seat, joined, less what CoreSorts does not lean on: WEqStruct.
-/
import Derived.Test.YtpljkcakijkklaaDoorQCoreSorts1
import Derived.Laws.StructEq
section
namespace Go.Proofs.YtpljkcakijkklaaDoorW.PrintWords
open Go.RowKit
section
variable {P : Program} {d : Nat} {xs ys : Array Value} {f : Field} {fs : List Field} {a b : Value} {r s : Bool} {w : World}
end
end Go.Proofs.YtpljkcakijkklaaDoorW.PrintWords

end
