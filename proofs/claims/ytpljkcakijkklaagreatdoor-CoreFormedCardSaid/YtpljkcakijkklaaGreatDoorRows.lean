/-
  NARROWER THAN 'FOR EVERY INPUT', by the rows' own cells (each row's printed sentence says how): CoreEvals: loops, laid · CoreFormed: loops, laid · CoreDecides: loops, laid · CoreLadders: laid.
  DERIVED. THE GIVEN ROWS OF THIS SEAT. 4 by the template 'for every input the law returns true; each argument reads behind the call as it read before'; 0 by the template 'total and deterministic' (their statements: YtpljkcakijkklaaGreatDoorTotals.lean).
  GIVEN WITH THE SEED: the statements are not yours to turn. If you find one false, say at which input.
  Laid BY PROGRAM, IN A SANDBOX (cutbox-rows.mjs): the forced cells as the released guide's own fill.sh prints them over the translation 057ea01324bcc6a8… (all of the seat's roots in one cut). By AI agents, Wed Nov 11 2026. No macro, syntax, notation, axiom, sorry.
-/
import Derived.Test.YtpljkcakijkklaaGreatDoorChecked
import GoSem.Claim
import GoSem.ClaimJoined
import GoSem.ClaimMapViews
import Derived.JoinedTies
import Derived.KernelRfl
namespace Go.Proofs.YtpljkcakijkklaaGreatDoor
/- THE CELL 'sum', in the pinned program and in every row, IS THE sha256 OF THE DUMP (.gsa) THAT YtpljkcakijkklaaGreatDoorProg.lean LOADS. Nothing in Lean hashes anything: it is a label: what it is worth is what the hold of that sum in a sandbox is worth. -/
noncomputable def Tryz.pinned : Pinned := { name := "ytpljkcakijkklaagreatdoor", sum := "057ea01324bcc6a848d892b27937ffaf62542eb04831b6c3a44fb7935234fde7", checked := Tryz.checked }
namespace Rows
def none {H : Type} : Left H := { results := [], args := [] }

/- WHAT THE LISTED PACKAGE-LEVEL VARIABLES READ AS WHEN THE CALL BEGINS. Each datum BY PROGRAM (the guide's laid-datum.mjs) off the statement by which the dump's own 'gosem.cut.vars' lays the variable. In a bare row this is a premise. The card (YtpljkcakijkklaaGreatDoorCards.lean) ties it to the program's text. -/
def laid_errors_errorType {H : Type} : DataW H := .iface "internal/reflectlite.rtype" (.agg [.ptr (.lit (.string [101, 114, 114, 111, 114]))])
def laid_capstan_cron_fields {H : Type} : DataW H := .agg [.agg [.lit (.int .i64 0), .lit (.int .i64 59)], .agg [.lit (.int .i64 0), .lit (.int .i64 23)], .agg [.lit (.int .i64 1), .lit (.int .i64 31)], .agg [.lit (.int .i64 1), .lit (.int .i64 12)], .agg [.lit (.int .i64 0), .lit (.int .i64 6)]]

/-- 'capstanlaw15.CoreEvals': WHATEVER THE INPUT: true; the input reads as it did. -/
def coreEvalsSpec : ChangeSpec := { name := "coreEvals", fn := fun _ => fun
  | [d1, d2] => { results := [.lit (.bool true)], args := [d1, d2] }
  | _ => none }
def coreEvalsRow : OpenClaim := { program := "ytpljkcakijkklaagreatdoor", sum := "057ea01324bcc6a848d892b27937ffaf62542eb04831b6c3a44fb7935234fde7", func := "capstan/capstanlaw15.CoreEvals", spec := "coreEvals", inPlace := ["math/bits.Sub64", "math/bits.Add64", "internal/reflectlite.ValueOf", "(internal/reflectlite.Value).Type", "(internal/reflectlite.Value).IsNil", "internal/reflectlite.TypeOf", "(internal/reflectlite.Value).Elem", "(internal/reflectlite.Value).Set"], unfollowed := true, recurses := true, named := ["math/bits.divideError", "math/bits.overflowError", "errors.errorType"], loops := true, apart := false, laid := [("errors.errorType", laid_errors_errorType)] }
def CoreEvalsSaid : Prop := coreEvalsRow.holds Tryz.pinned (OpenSpec.ofChange coreEvalsSpec)

/-- ITS FALSE NEIGHBOUR: 'it returns false'. Refute it at one input. -/
def coreEvalsWrong : ChangeSpec := { name := "coreEvals", fn := fun _ => fun
  | [d1, d2] => { results := [.lit (.bool false)], args := [d1, d2] }
  | _ => none }
def CoreEvalsWrongFalsely : Prop := coreEvalsRow.holds Tryz.pinned (OpenSpec.ofChange coreEvalsWrong)

/-- 'capstanlaw15.CoreFormed': WHATEVER THE INPUT: true; the input reads as it did. -/
def coreFormedSpec : ChangeSpec := { name := "coreFormed", fn := fun _ => fun
  | [d1, d2] => { results := [.lit (.bool true)], args := [d1, d2] }
  | _ => none }
def coreFormedRow : OpenClaim := { program := "ytpljkcakijkklaagreatdoor", sum := "057ea01324bcc6a848d892b27937ffaf62542eb04831b6c3a44fb7935234fde7", func := "capstan/capstanlaw15.CoreFormed", spec := "coreFormed", inPlace := ["math/bits.Sub64", "math/bits.Add64", "internal/reflectlite.ValueOf", "(internal/reflectlite.Value).Type", "(internal/reflectlite.Value).IsNil", "internal/reflectlite.TypeOf", "(internal/reflectlite.Value).Elem", "(internal/reflectlite.Value).Set"], unfollowed := true, recurses := true, named := ["math/bits.divideError", "math/bits.overflowError", "errors.errorType", "capstan/cron.fields"], loops := true, apart := false, laid := [("errors.errorType", laid_errors_errorType), ("capstan/cron.fields", laid_capstan_cron_fields)] }
def CoreFormedSaid : Prop := coreFormedRow.holds Tryz.pinned (OpenSpec.ofChange coreFormedSpec)

/-- ITS FALSE NEIGHBOUR: 'it returns false'. Refute it at one input. -/
def coreFormedWrong : ChangeSpec := { name := "coreFormed", fn := fun _ => fun
  | [d1, d2] => { results := [.lit (.bool false)], args := [d1, d2] }
  | _ => none }
def CoreFormedWrongFalsely : Prop := coreFormedRow.holds Tryz.pinned (OpenSpec.ofChange coreFormedWrong)

/-- 'capstanlaw15.CoreDecides': WHATEVER THE INPUT: true; the input reads as it did. -/
def coreDecidesSpec : ChangeSpec := { name := "coreDecides", fn := fun _ => fun
  | [d1, d2] => { results := [.lit (.bool true)], args := [d1, d2] }
  | _ => none }
def coreDecidesRow : OpenClaim := { program := "ytpljkcakijkklaagreatdoor", sum := "057ea01324bcc6a848d892b27937ffaf62542eb04831b6c3a44fb7935234fde7", func := "capstan/capstanlaw15.CoreDecides", spec := "coreDecides", inPlace := ["math/bits.Sub64", "math/bits.Add64", "internal/reflectlite.ValueOf", "(internal/reflectlite.Value).Type", "(internal/reflectlite.Value).IsNil", "internal/reflectlite.TypeOf", "(internal/reflectlite.Value).Elem", "(internal/reflectlite.Value).Set"], unfollowed := true, recurses := true, named := ["math/bits.divideError", "math/bits.overflowError", "errors.errorType", "capstan/cron.fields"], loops := true, apart := false, laid := [("errors.errorType", laid_errors_errorType), ("capstan/cron.fields", laid_capstan_cron_fields)] }
def CoreDecidesSaid : Prop := coreDecidesRow.holds Tryz.pinned (OpenSpec.ofChange coreDecidesSpec)

/-- ITS FALSE NEIGHBOUR: 'it returns false'. Refute it at one input. -/
def coreDecidesWrong : ChangeSpec := { name := "coreDecides", fn := fun _ => fun
  | [d1, d2] => { results := [.lit (.bool false)], args := [d1, d2] }
  | _ => none }
def CoreDecidesWrongFalsely : Prop := coreDecidesRow.holds Tryz.pinned (OpenSpec.ofChange coreDecidesWrong)

/-- 'capstanlaw15.CoreLadders': WHATEVER THE INPUT: true; the input reads as it did. -/
def coreLaddersSpec : ChangeSpec := { name := "coreLadders", fn := fun _ => fun
  | [d1, d2, d3] => { results := [.lit (.bool true)], args := [d1, d2, d3] }
  | _ => none }
def coreLaddersRow : OpenClaim := { program := "ytpljkcakijkklaagreatdoor", sum := "057ea01324bcc6a848d892b27937ffaf62542eb04831b6c3a44fb7935234fde7", func := "capstan/capstanlaw15.CoreLadders", spec := "coreLadders", inPlace := ["math/bits.Sub64", "math/bits.Add64", "internal/reflectlite.ValueOf", "(internal/reflectlite.Value).Type", "(internal/reflectlite.Value).IsNil", "internal/reflectlite.TypeOf", "(internal/reflectlite.Value).Elem", "(internal/reflectlite.Value).Set"], unfollowed := true, recurses := true, named := ["math/bits.divideError", "math/bits.overflowError", "errors.errorType", "capstan/cron.fields"], apart := false, laid := [("errors.errorType", laid_errors_errorType), ("capstan/cron.fields", laid_capstan_cron_fields)] }
def CoreLaddersSaid : Prop := coreLaddersRow.holds Tryz.pinned (OpenSpec.ofChange coreLaddersSpec)

/-- ITS FALSE NEIGHBOUR: 'it returns false'. Refute it at one input. -/
def coreLaddersWrong : ChangeSpec := { name := "coreLadders", fn := fun _ => fun
  | [d1, d2, d3] => { results := [.lit (.bool false)], args := [d1, d2, d3] }
  | _ => none }
def CoreLaddersWrongFalsely : Prop := coreLaddersRow.holds Tryz.pinned (OpenSpec.ofChange coreLaddersWrong)

/- THE SECOND FORM. 'bulk': how many values and letters a reading holds, each counted each time it is reached (what is shared counts as often as it is met; a slice's spare places count too). A statement '..UptoSaid' is the law's where the arguments, and the package variables that the reading takes, are together of bulk at most 1048576: NARROWER than '..Said'. Prove '..Said' where nothing that the law and all that it calls make is longer than what came in: it says more and counts as full. Else prove '..UptoSaid'. A law counts once. -/
mutual
def uptoBulk {H : Type} : DataW H → Nat
  | .lit (.string bytes) => bytes.length + 1
  | .lit _ => 1
  | .nil => 1
  | .ptr d => uptoBulk d + 1
  | .slice elems spare => uptoBulkAll elems + uptoBulkAll spare + 1
  | .agg parts => uptoBulkAll parts + 1
  | .iface _ d => uptoBulk d + 1
  | .map entries => uptoBulkEntries entries + 1
  | .held _ => 1
def uptoBulkAll {H : Type} : List (DataW H) → Nat
  | [] => 0
  | d :: r => uptoBulk d + uptoBulkAll r
def uptoBulkEntries {H : Type} : List (Lit × DataW H) → Nat
  | [] => 0
  | x :: r => uptoBulkEntry x + uptoBulkEntries r
def uptoBulkEntry {H : Type} : Lit × DataW H → Nat
  | (.string bytes, d) => bytes.length + uptoBulk d + 1
  | (_, d) => uptoBulk d + 1
 end
def uptoSmall : (H : Type) → List (DataW H) → Bool := fun _ ds => decide (uptoBulkAll ds ≤ 1048576)
def OpenSpec.upto (s : _root_.Go.ChangeSpec) : _root_.Go.OpenSpec := { _root_.Go.OpenSpec.ofChange s with cond := some uptoSmall }

/-- 'capstanlaw15.CoreEvals', WHERE WHAT IT READS IS OF BULK AT MOST 1048576: true; the input reads as it did. -/
def coreEvalsUptoRow : OpenClaim := { program := "ytpljkcakijkklaagreatdoor", sum := "057ea01324bcc6a848d892b27937ffaf62542eb04831b6c3a44fb7935234fde7", func := "capstan/capstanlaw15.CoreEvals", spec := "coreEvals", inPlace := ["math/bits.Sub64", "math/bits.Add64", "internal/reflectlite.ValueOf", "(internal/reflectlite.Value).Type", "(internal/reflectlite.Value).IsNil", "internal/reflectlite.TypeOf", "(internal/reflectlite.Value).Elem", "(internal/reflectlite.Value).Set"], unfollowed := true, recurses := true, named := ["math/bits.divideError", "math/bits.overflowError", "errors.errorType"], loops := true, apart := false, laid := [("errors.errorType", laid_errors_errorType)], narrowed := true }
def CoreEvalsUptoSaid : Prop := coreEvalsUptoRow.holds Tryz.pinned (OpenSpec.upto coreEvalsSpec)

/-- 'capstanlaw15.CoreFormed', WHERE WHAT IT READS IS OF BULK AT MOST 1048576: true; the input reads as it did. -/
def coreFormedUptoRow : OpenClaim := { program := "ytpljkcakijkklaagreatdoor", sum := "057ea01324bcc6a848d892b27937ffaf62542eb04831b6c3a44fb7935234fde7", func := "capstan/capstanlaw15.CoreFormed", spec := "coreFormed", inPlace := ["math/bits.Sub64", "math/bits.Add64", "internal/reflectlite.ValueOf", "(internal/reflectlite.Value).Type", "(internal/reflectlite.Value).IsNil", "internal/reflectlite.TypeOf", "(internal/reflectlite.Value).Elem", "(internal/reflectlite.Value).Set"], unfollowed := true, recurses := true, named := ["math/bits.divideError", "math/bits.overflowError", "errors.errorType", "capstan/cron.fields"], loops := true, apart := false, laid := [("errors.errorType", laid_errors_errorType), ("capstan/cron.fields", laid_capstan_cron_fields)], narrowed := true }
def CoreFormedUptoSaid : Prop := coreFormedUptoRow.holds Tryz.pinned (OpenSpec.upto coreFormedSpec)

/-- 'capstanlaw15.CoreDecides', WHERE WHAT IT READS IS OF BULK AT MOST 1048576: true; the input reads as it did. -/
def coreDecidesUptoRow : OpenClaim := { program := "ytpljkcakijkklaagreatdoor", sum := "057ea01324bcc6a848d892b27937ffaf62542eb04831b6c3a44fb7935234fde7", func := "capstan/capstanlaw15.CoreDecides", spec := "coreDecides", inPlace := ["math/bits.Sub64", "math/bits.Add64", "internal/reflectlite.ValueOf", "(internal/reflectlite.Value).Type", "(internal/reflectlite.Value).IsNil", "internal/reflectlite.TypeOf", "(internal/reflectlite.Value).Elem", "(internal/reflectlite.Value).Set"], unfollowed := true, recurses := true, named := ["math/bits.divideError", "math/bits.overflowError", "errors.errorType", "capstan/cron.fields"], loops := true, apart := false, laid := [("errors.errorType", laid_errors_errorType), ("capstan/cron.fields", laid_capstan_cron_fields)], narrowed := true }
def CoreDecidesUptoSaid : Prop := coreDecidesUptoRow.holds Tryz.pinned (OpenSpec.upto coreDecidesSpec)

/-- 'capstanlaw15.CoreLadders', WHERE WHAT IT READS IS OF BULK AT MOST 1048576: true; the input reads as it did. -/
def coreLaddersUptoRow : OpenClaim := { program := "ytpljkcakijkklaagreatdoor", sum := "057ea01324bcc6a848d892b27937ffaf62542eb04831b6c3a44fb7935234fde7", func := "capstan/capstanlaw15.CoreLadders", spec := "coreLadders", inPlace := ["math/bits.Sub64", "math/bits.Add64", "internal/reflectlite.ValueOf", "(internal/reflectlite.Value).Type", "(internal/reflectlite.Value).IsNil", "internal/reflectlite.TypeOf", "(internal/reflectlite.Value).Elem", "(internal/reflectlite.Value).Set"], unfollowed := true, recurses := true, named := ["math/bits.divideError", "math/bits.overflowError", "errors.errorType", "capstan/cron.fields"], apart := false, laid := [("errors.errorType", laid_errors_errorType), ("capstan/cron.fields", laid_capstan_cron_fields)], narrowed := true }
def CoreLaddersUptoSaid : Prop := coreLaddersUptoRow.holds Tryz.pinned (OpenSpec.upto coreLaddersSpec)

end Rows
end Go.Proofs.YtpljkcakijkklaaGreatDoor
