/-
  No cell of these rows narrows 'for every input' (looked for: loops, veiled, ifaces, maps, wideKeys, modest, calm, conditions, laid).
  DERIVED. THE GIVEN ROWS OF THIS SEAT. 5 by the template 'for every input the law returns true; each argument reads behind the call as it read before'; 0 by the template 'total and deterministic' (their statements: YtgfnlhigmncdmaaTotals.lean).
  GIVEN WITH THE SEED: the statements are not yours to turn. If you find one false, say at which input.
  Laid BY PROGRAM, IN A SANDBOX (cutbox-rows.mjs): the forced cells as the released guide's own fill.sh prints them over the translation ee8d284bcf1f9a34… (all of the seat's roots in one cut). By AI agents, Wed Nov 11 2026. No macro, syntax, notation, axiom, sorry.
-/
import Derived.Test.YtgfnlhigmncdmaaChecked
import GoSem.Claim
import GoSem.ClaimJoined
import GoSem.ClaimMapViews
import Derived.JoinedTies
import Derived.KernelRfl
namespace Go.Proofs.Ytgfnlhigmncdmaa
/- THE CELL 'sum', in the pinned program and in every row, IS THE sha256 OF THE DUMP (.gsa) THAT YtgfnlhigmncdmaaProg.lean LOADS. Nothing in Lean hashes anything: it is a label: what it is worth is what the hold of that sum in a sandbox is worth. -/
noncomputable def Try.pinned : Pinned := { name := "ytgfnlhigmncdmaa", sum := "ee8d284bcf1f9a346b45b1fdca5720cc19b0ea6f9a4257b8e439714bacddbe19", checked := Try.checked }
namespace Rows
def none {H : Type} : Left H := { results := [], args := [] }

/-- 'capstanlaw08.WindowFloods': WHATEVER THE INPUT: true; the input reads as it did. -/
def windowFloodsSpec : ChangeSpec := { name := "windowFloods", fn := fun _ => fun
  | [d1, d2, d3] => { results := [.lit (.bool true)], args := [d1, d2, d3] }
  | _ => none }
def windowFloodsRow : OpenClaim := { program := "ytgfnlhigmncdmaa", sum := "ee8d284bcf1f9a346b45b1fdca5720cc19b0ea6f9a4257b8e439714bacddbe19", func := "capstan/capstanlaw08.WindowFloods", spec := "windowFloods", inPlace := ["math/bits.Sub64", "math/bits.Add64"], named := ["math/bits.divideError", "math/bits.overflowError"], apart := false }
def WindowFloodsSaid : Prop := windowFloodsRow.holds Try.pinned (OpenSpec.ofChange windowFloodsSpec)

/-- ITS FALSE NEIGHBOUR: 'it returns false'. Refute it at one input. -/
def windowFloodsWrong : ChangeSpec := { name := "windowFloods", fn := fun _ => fun
  | [d1, d2, d3] => { results := [.lit (.bool false)], args := [d1, d2, d3] }
  | _ => none }
def WindowFloodsWrongFalsely : Prop := windowFloodsRow.holds Try.pinned (OpenSpec.ofChange windowFloodsWrong)

/-- 'capstanlaw08.WindowAgrees': WHATEVER THE INPUT: true; the input reads as it did. -/
def windowAgreesSpec : ChangeSpec := { name := "windowAgrees", fn := fun _ => fun
  | [d1, d2, d3] => { results := [.lit (.bool true)], args := [d1, d2, d3] }
  | _ => none }
def windowAgreesRow : OpenClaim := { program := "ytgfnlhigmncdmaa", sum := "ee8d284bcf1f9a346b45b1fdca5720cc19b0ea6f9a4257b8e439714bacddbe19", func := "capstan/capstanlaw08.WindowAgrees", spec := "windowAgrees", inPlace := ["math/bits.Sub64", "math/bits.Add64"], named := ["math/bits.divideError", "math/bits.overflowError"], apart := false }
def WindowAgreesSaid : Prop := windowAgreesRow.holds Try.pinned (OpenSpec.ofChange windowAgreesSpec)

/-- ITS FALSE NEIGHBOUR: 'it returns false'. Refute it at one input. -/
def windowAgreesWrong : ChangeSpec := { name := "windowAgrees", fn := fun _ => fun
  | [d1, d2, d3] => { results := [.lit (.bool false)], args := [d1, d2, d3] }
  | _ => none }
def WindowAgreesWrongFalsely : Prop := windowAgreesRow.holds Try.pinned (OpenSpec.ofChange windowAgreesWrong)

/-- 'capstanlaw08.WindowPlays': WHATEVER THE INPUT: true; the input reads as it did. -/
def windowPlaysSpec : ChangeSpec := { name := "windowPlays", fn := fun _ => fun
  | [d1, d2] => { results := [.lit (.bool true)], args := [d1, d2] }
  | _ => none }
def windowPlaysRow : OpenClaim := { program := "ytgfnlhigmncdmaa", sum := "ee8d284bcf1f9a346b45b1fdca5720cc19b0ea6f9a4257b8e439714bacddbe19", func := "capstan/capstanlaw08.WindowPlays", spec := "windowPlays", inPlace := ["math/bits.Sub64", "math/bits.Add64"], named := ["math/bits.divideError", "math/bits.overflowError"], apart := false }
def WindowPlaysSaid : Prop := windowPlaysRow.holds Try.pinned (OpenSpec.ofChange windowPlaysSpec)

/-- ITS FALSE NEIGHBOUR: 'it returns false'. Refute it at one input. -/
def windowPlaysWrong : ChangeSpec := { name := "windowPlays", fn := fun _ => fun
  | [d1, d2] => { results := [.lit (.bool false)], args := [d1, d2] }
  | _ => none }
def WindowPlaysWrongFalsely : Prop := windowPlaysRow.holds Try.pinned (OpenSpec.ofChange windowPlaysWrong)

/-- 'capstanlaw08.WindowStale': WHATEVER THE INPUT: true; the input reads as it did. -/
def windowStaleSpec : ChangeSpec := { name := "windowStale", fn := fun _ => fun
  | [d1, d2] => { results := [.lit (.bool true)], args := [d1, d2] }
  | _ => none }
def windowStaleRow : OpenClaim := { program := "ytgfnlhigmncdmaa", sum := "ee8d284bcf1f9a346b45b1fdca5720cc19b0ea6f9a4257b8e439714bacddbe19", func := "capstan/capstanlaw08.WindowStale", spec := "windowStale", inPlace := ["math/bits.Sub64", "math/bits.Add64"], named := ["math/bits.divideError", "math/bits.overflowError"], apart := false }
def WindowStaleSaid : Prop := windowStaleRow.holds Try.pinned (OpenSpec.ofChange windowStaleSpec)

/-- ITS FALSE NEIGHBOUR: 'it returns false'. Refute it at one input. -/
def windowStaleWrong : ChangeSpec := { name := "windowStale", fn := fun _ => fun
  | [d1, d2] => { results := [.lit (.bool false)], args := [d1, d2] }
  | _ => none }
def WindowStaleWrongFalsely : Prop := windowStaleRow.holds Try.pinned (OpenSpec.ofChange windowStaleWrong)

/-- 'capstanlaw08.WindowNil': WHATEVER THE INPUT: true; the input reads as it did. -/
def windowNilSpec : ChangeSpec := { name := "windowNil", fn := fun _ => fun
  | [d] => { results := [.lit (.bool true)], args := [d] }
  | _ => none }
def windowNilRow : OpenClaim := { program := "ytgfnlhigmncdmaa", sum := "ee8d284bcf1f9a346b45b1fdca5720cc19b0ea6f9a4257b8e439714bacddbe19", func := "capstan/capstanlaw08.WindowNil", spec := "windowNil", inPlace := ["math/bits.Sub64", "math/bits.Add64"], named := ["math/bits.divideError", "math/bits.overflowError"], apart := false }
def WindowNilSaid : Prop := windowNilRow.holds Try.pinned (OpenSpec.ofChange windowNilSpec)

/-- ITS FALSE NEIGHBOUR: 'it returns false'. Refute it at one input. -/
def windowNilWrong : ChangeSpec := { name := "windowNil", fn := fun _ => fun
  | [d] => { results := [.lit (.bool false)], args := [d] }
  | _ => none }
def WindowNilWrongFalsely : Prop := windowNilRow.holds Try.pinned (OpenSpec.ofChange windowNilWrong)

/- THE SECOND FORM. 'bulk': how many values and letters a reading holds, each counted each time it is reached (what is shared counts as often as it is met; a slice's spare places count too). A statement '..UptoSaid' is the law's where the arguments, and the package variables that the reading takes, are together of bulk at most 1048576: NARROWER than '..Said'. Prove '..Said' where nothing that the law and all that it calls make is longer than what came in: it says more and counts as full. Else prove '..UptoSaid'. A law counts once. -/
mutual
def uptoBulk {H : Type} : DataW H → Nat
  | .lit (.string bytes) => bytes.length + 1
  | .lit _ => 1
  | .nil => 1
  | .ptr d => uptoBulk d + 1
  | .slice elems spare => uptoBulkAll elems + uptoBulkAll spare + 1
  | .agg parts => uptoBulkAll parts + 1
  | .iface _ d => uptoBulk d + 1
  | .map entries => uptoBulkEntries entries + 1
  | .held _ => 1
def uptoBulkAll {H : Type} : List (DataW H) → Nat
  | [] => 0
  | d :: r => uptoBulk d + uptoBulkAll r
def uptoBulkEntries {H : Type} : List (Lit × DataW H) → Nat
  | [] => 0
  | x :: r => uptoBulkEntry x + uptoBulkEntries r
def uptoBulkEntry {H : Type} : Lit × DataW H → Nat
  | (.string bytes, d) => bytes.length + uptoBulk d + 1
  | (_, d) => uptoBulk d + 1
 end
def uptoSmall : (H : Type) → List (DataW H) → Bool := fun _ ds => decide (uptoBulkAll ds ≤ 1048576)
def OpenSpec.upto (s : _root_.Go.ChangeSpec) : _root_.Go.OpenSpec := { _root_.Go.OpenSpec.ofChange s with cond := some uptoSmall }

/-- 'capstanlaw08.WindowFloods', WHERE WHAT IT READS IS OF BULK AT MOST 1048576: true; the input reads as it did. -/
def windowFloodsUptoRow : OpenClaim := { program := "ytgfnlhigmncdmaa", sum := "ee8d284bcf1f9a346b45b1fdca5720cc19b0ea6f9a4257b8e439714bacddbe19", func := "capstan/capstanlaw08.WindowFloods", spec := "windowFloods", inPlace := ["math/bits.Sub64", "math/bits.Add64"], named := ["math/bits.divideError", "math/bits.overflowError"], apart := false, narrowed := true }
def WindowFloodsUptoSaid : Prop := windowFloodsUptoRow.holds Try.pinned (OpenSpec.upto windowFloodsSpec)

/-- 'capstanlaw08.WindowAgrees', WHERE WHAT IT READS IS OF BULK AT MOST 1048576: true; the input reads as it did. -/
def windowAgreesUptoRow : OpenClaim := { program := "ytgfnlhigmncdmaa", sum := "ee8d284bcf1f9a346b45b1fdca5720cc19b0ea6f9a4257b8e439714bacddbe19", func := "capstan/capstanlaw08.WindowAgrees", spec := "windowAgrees", inPlace := ["math/bits.Sub64", "math/bits.Add64"], named := ["math/bits.divideError", "math/bits.overflowError"], apart := false, narrowed := true }
def WindowAgreesUptoSaid : Prop := windowAgreesUptoRow.holds Try.pinned (OpenSpec.upto windowAgreesSpec)

/-- 'capstanlaw08.WindowPlays', WHERE WHAT IT READS IS OF BULK AT MOST 1048576: true; the input reads as it did. -/
def windowPlaysUptoRow : OpenClaim := { program := "ytgfnlhigmncdmaa", sum := "ee8d284bcf1f9a346b45b1fdca5720cc19b0ea6f9a4257b8e439714bacddbe19", func := "capstan/capstanlaw08.WindowPlays", spec := "windowPlays", inPlace := ["math/bits.Sub64", "math/bits.Add64"], named := ["math/bits.divideError", "math/bits.overflowError"], apart := false, narrowed := true }
def WindowPlaysUptoSaid : Prop := windowPlaysUptoRow.holds Try.pinned (OpenSpec.upto windowPlaysSpec)

/-- 'capstanlaw08.WindowStale', WHERE WHAT IT READS IS OF BULK AT MOST 1048576: true; the input reads as it did. -/
def windowStaleUptoRow : OpenClaim := { program := "ytgfnlhigmncdmaa", sum := "ee8d284bcf1f9a346b45b1fdca5720cc19b0ea6f9a4257b8e439714bacddbe19", func := "capstan/capstanlaw08.WindowStale", spec := "windowStale", inPlace := ["math/bits.Sub64", "math/bits.Add64"], named := ["math/bits.divideError", "math/bits.overflowError"], apart := false, narrowed := true }
def WindowStaleUptoSaid : Prop := windowStaleUptoRow.holds Try.pinned (OpenSpec.upto windowStaleSpec)

/-- 'capstanlaw08.WindowNil', WHERE WHAT IT READS IS OF BULK AT MOST 1048576: true; the input reads as it did. -/
def windowNilUptoRow : OpenClaim := { program := "ytgfnlhigmncdmaa", sum := "ee8d284bcf1f9a346b45b1fdca5720cc19b0ea6f9a4257b8e439714bacddbe19", func := "capstan/capstanlaw08.WindowNil", spec := "windowNil", inPlace := ["math/bits.Sub64", "math/bits.Add64"], named := ["math/bits.divideError", "math/bits.overflowError"], apart := false, narrowed := true }
def WindowNilUptoSaid : Prop := windowNilUptoRow.holds Try.pinned (OpenSpec.upto windowNilSpec)

end Rows
end Go.Proofs.Ytgfnlhigmncdmaa
