/-
  NARROWER THAN 'FOR EVERY INPUT', by the rows' own cells (each row's printed sentence says how): VerifyEmits: loops, laid · VerifyDown: laid · VerifyKeeps: laid.
  DERIVED. THE GIVEN ROWS OF THIS SEAT. 3 by the template 'for every input the law returns true; each argument reads behind the call as it read before'; 0 by the template 'total and deterministic' (their statements: YtdgljnidkhfgpaaDoorTotals.lean).
  GIVEN WITH THE SEED: the statements are not yours to turn. If you find one false, say at which input.
  Laid BY PROGRAM, IN A SANDBOX (cutbox-rows.mjs): the forced cells as the released guide's own fill.sh prints them over the translation 14907a9fbe86db91… (all of the seat's roots in one cut). By AI agents, Wed Nov 11 2026. No macro, syntax, notation, axiom, sorry.
-/
import Derived.Test.YtdgljnidkhfgpaaDoorChecked
import GoSem.Claim
import GoSem.ClaimJoined
import GoSem.ClaimMapViews
import Derived.JoinedTies
import Derived.KernelRfl
namespace Go.Proofs.YtdgljnidkhfgpaaDoor
/- THE CELL 'sum', in the pinned program and in every row, IS THE sha256 OF THE DUMP (.gsa) THAT YtdgljnidkhfgpaaDoorProg.lean LOADS. Nothing in Lean hashes anything: it is a label: what it is worth is what the hold of that sum in a sandbox is worth. -/
noncomputable def Tryd.pinned : Pinned := { name := "ytdgljnidkhfgpaadoor", sum := "14907a9fbe86db91d8501c8f25784a554a441b9ce07ed8c501b38c63b973d664", checked := Tryd.checked }
namespace Rows
def none {H : Type} : Left H := { results := [], args := [] }

/- WHAT THE LISTED PACKAGE-LEVEL VARIABLES READ AS WHEN THE CALL BEGINS. Each datum BY PROGRAM (the guide's laid-datum.mjs) off the statement by which the dump's own 'gosem.cut.vars' lays the variable. In a bare row this is a premise. The card (YtdgljnidkhfgpaaDoorCards.lean) ties it to the program's text. -/
def laid_capstan_cron_fields {H : Type} : DataW H := .agg [.agg [.lit (.int .i64 0), .lit (.int .i64 59)], .agg [.lit (.int .i64 0), .lit (.int .i64 23)], .agg [.lit (.int .i64 1), .lit (.int .i64 31)], .agg [.lit (.int .i64 1), .lit (.int .i64 12)], .agg [.lit (.int .i64 0), .lit (.int .i64 6)]]
def laid_capstan_verify_table {H : Type} : DataW H := .agg [.agg [.lit (.int .i64 0), .lit (.int .i64 0), .lit (.int .i64 0)], .agg [.lit (.int .i64 0), .lit (.int .i64 1), .lit (.int .i64 1)], .agg [.lit (.int .i64 0), .lit (.int .i64 1), .lit (.int .i64 0)], .agg [.lit (.int .i64 0), .lit (.int .i64 1), .lit (.int .i64 2)], .agg [.lit (.int .i64 0), .lit (.int .i64 1), .lit (.int .i64 3)], .agg [.lit (.int .i64 0), .lit (.int .i64 1), .lit (.int .i64 4)], .agg [.lit (.int .i64 1), .lit (.int .i64 0), .lit (.int .i64 0)], .agg [.lit (.int .i64 1), .lit (.int .i64 0), .lit (.int .i64 0)], .agg [.lit (.int .i64 1), .lit (.int .i64 0), .lit (.int .i64 0)], .agg [.lit (.int .i64 1), .lit (.int .i64 0), .lit (.int .i64 0)], .agg [.lit (.int .i64 1), .lit (.int .i64 0), .lit (.int .i64 0)], .agg [.lit (.int .i64 1), .lit (.int .i64 0), .lit (.int .i64 5)], .agg [.lit (.int .i64 2), .lit (.int .i64 (-1)), .lit (.int .i64 0)], .agg [.lit (.int .i64 2), .lit (.int .i64 (-1)), .lit (.int .i64 0)], .agg [.lit (.int .i64 2), .lit (.int .i64 (-1)), .lit (.int .i64 0)], .agg [.lit (.int .i64 2), .lit (.int .i64 (-1)), .lit (.int .i64 0)], .agg [.lit (.int .i64 2), .lit (.int .i64 (-1)), .lit (.int .i64 0)], .agg [.lit (.int .i64 2), .lit (.int .i64 (-1)), .lit (.int .i64 0)], .agg [.lit (.int .i64 2), .lit (.int .i64 (-1)), .lit (.int .i64 0)], .agg [.lit (.int .i64 2), .lit (.int .i64 (-1)), .lit (.int .i64 0)], .agg [.lit (.int .i64 2), .lit (.int .i64 (-1)), .lit (.int .i64 0)], .agg [.lit (.int .i64 2), .lit (.int .i64 (-1)), .lit (.int .i64 0)], .agg [.lit (.int .i64 2), .lit (.int .i64 (-1)), .lit (.int .i64 0)], .agg [.lit (.int .i64 0), .lit (.int .i64 0), .lit (.int .i64 6)], .agg [.lit (.int .i64 1), .lit (.int .i64 (-1)), .lit (.int .i64 7)], .agg [.lit (.int .i64 0), .lit (.int .i64 0), .lit (.int .i64 8)], .agg [.lit (.int .i64 0), .lit (.int .i64 0), .lit (.int .i64 9)], .agg [.lit (.int .i64 0), .lit (.int .i64 0), .lit (.int .i64 10)], .agg [.lit (.int .i64 1), .lit (.int .i64 0), .lit (.int .i64 11)], .agg [.lit (.int .i64 0), .lit (.int .i64 0), .lit (.int .i64 12)], .agg [.lit (.int .i64 1), .lit (.int .i64 (-1)), .lit (.int .i64 12)], .agg [.lit (.int .i64 1), .lit (.int .i64 (-1)), .lit (.int .i64 12)], .agg [.lit (.int .i64 1), .lit (.int .i64 1), .lit (.int .i64 0)], .agg [.lit (.int .i64 1), .lit (.int .i64 (-1)), .lit (.int .i64 0)]]

/-- 'capstanlaw23.VerifyEmits': WHATEVER THE INPUT: true; the input reads as it did. -/
def verifyEmitsSpec : ChangeSpec := { name := "verifyEmits", fn := fun _ => fun
  | [d] => { results := [.lit (.bool true)], args := [d] }
  | _ => none }
def verifyEmitsRow : OpenClaim := { program := "ytdgljnidkhfgpaadoor", sum := "14907a9fbe86db91d8501c8f25784a554a441b9ce07ed8c501b38c63b973d664", func := "capstan/capstanlaw23.VerifyEmits", spec := "verifyEmits", unfollowed := true, recurses := true, named := ["capstan/cron.fields", "capstan/verify.table"], loops := true, apart := false, laid := [("capstan/cron.fields", laid_capstan_cron_fields), ("capstan/verify.table", laid_capstan_verify_table)] }
def VerifyEmitsSaid : Prop := verifyEmitsRow.holds Tryd.pinned (OpenSpec.ofChange verifyEmitsSpec)

/-- ITS FALSE NEIGHBOUR: 'it returns false'. Refute it at one input. -/
def verifyEmitsWrong : ChangeSpec := { name := "verifyEmits", fn := fun _ => fun
  | [d] => { results := [.lit (.bool false)], args := [d] }
  | _ => none }
def VerifyEmitsWrongFalsely : Prop := verifyEmitsRow.holds Tryd.pinned (OpenSpec.ofChange verifyEmitsWrong)

/-- 'capstanlaw23.VerifyDown': WHATEVER THE INPUT: true; the input reads as it did. -/
def verifyDownSpec : ChangeSpec := { name := "verifyDown", fn := fun _ => fun
  | [d] => { results := [.lit (.bool true)], args := [d] }
  | _ => none }
def verifyDownRow : OpenClaim := { program := "ytdgljnidkhfgpaadoor", sum := "14907a9fbe86db91d8501c8f25784a554a441b9ce07ed8c501b38c63b973d664", func := "capstan/capstanlaw23.VerifyDown", spec := "verifyDown", unfollowed := true, recurses := true, named := ["capstan/cron.fields", "capstan/verify.table"], apart := false, laid := [("capstan/cron.fields", laid_capstan_cron_fields), ("capstan/verify.table", laid_capstan_verify_table)] }
def VerifyDownSaid : Prop := verifyDownRow.holds Tryd.pinned (OpenSpec.ofChange verifyDownSpec)

/-- ITS FALSE NEIGHBOUR: 'it returns false'. Refute it at one input. -/
def verifyDownWrong : ChangeSpec := { name := "verifyDown", fn := fun _ => fun
  | [d] => { results := [.lit (.bool false)], args := [d] }
  | _ => none }
def VerifyDownWrongFalsely : Prop := verifyDownRow.holds Tryd.pinned (OpenSpec.ofChange verifyDownWrong)

/-- 'capstanlaw23.VerifyKeeps': WHATEVER THE INPUT: true; the input reads as it did. -/
def verifyKeepsSpec : ChangeSpec := { name := "verifyKeeps", fn := fun _ => fun
  | [d] => { results := [.lit (.bool true)], args := [d] }
  | _ => none }
def verifyKeepsRow : OpenClaim := { program := "ytdgljnidkhfgpaadoor", sum := "14907a9fbe86db91d8501c8f25784a554a441b9ce07ed8c501b38c63b973d664", func := "capstan/capstanlaw23.VerifyKeeps", spec := "verifyKeeps", unfollowed := true, recurses := true, named := ["capstan/cron.fields", "capstan/verify.table"], apart := false, laid := [("capstan/cron.fields", laid_capstan_cron_fields), ("capstan/verify.table", laid_capstan_verify_table)] }
def VerifyKeepsSaid : Prop := verifyKeepsRow.holds Tryd.pinned (OpenSpec.ofChange verifyKeepsSpec)

/-- ITS FALSE NEIGHBOUR: 'it returns false'. Refute it at one input. -/
def verifyKeepsWrong : ChangeSpec := { name := "verifyKeeps", fn := fun _ => fun
  | [d] => { results := [.lit (.bool false)], args := [d] }
  | _ => none }
def VerifyKeepsWrongFalsely : Prop := verifyKeepsRow.holds Tryd.pinned (OpenSpec.ofChange verifyKeepsWrong)

/- THE SECOND FORM. 'bulk': how many values and letters a reading holds, each counted each time it is reached (what is shared counts as often as it is met; a slice's spare places count too). A statement '..UptoSaid' is the law's where the arguments, and the package variables that the reading takes, are together of bulk at most 1048576: NARROWER than '..Said'. Prove '..Said' where nothing that the law and all that it calls make is longer than what came in: it says more and counts as full. Else prove '..UptoSaid'. A law counts once. -/
mutual
def uptoBulk {H : Type} : DataW H → Nat
  | .lit (.string bytes) => bytes.length + 1
  | .lit _ => 1
  | .nil => 1
  | .ptr d => uptoBulk d + 1
  | .slice elems spare => uptoBulkAll elems + uptoBulkAll spare + 1
  | .agg parts => uptoBulkAll parts + 1
  | .iface _ d => uptoBulk d + 1
  | .map entries => uptoBulkEntries entries + 1
  | .held _ => 1
def uptoBulkAll {H : Type} : List (DataW H) → Nat
  | [] => 0
  | d :: r => uptoBulk d + uptoBulkAll r
def uptoBulkEntries {H : Type} : List (Lit × DataW H) → Nat
  | [] => 0
  | x :: r => uptoBulkEntry x + uptoBulkEntries r
def uptoBulkEntry {H : Type} : Lit × DataW H → Nat
  | (.string bytes, d) => bytes.length + uptoBulk d + 1
  | (_, d) => uptoBulk d + 1
 end
def uptoSmall : (H : Type) → List (DataW H) → Bool := fun _ ds => decide (uptoBulkAll ds ≤ 1048576)
def OpenSpec.upto (s : _root_.Go.ChangeSpec) : _root_.Go.OpenSpec := { _root_.Go.OpenSpec.ofChange s with cond := some uptoSmall }

/-- 'capstanlaw23.VerifyEmits', WHERE WHAT IT READS IS OF BULK AT MOST 1048576: true; the input reads as it did. -/
def verifyEmitsUptoRow : OpenClaim := { program := "ytdgljnidkhfgpaadoor", sum := "14907a9fbe86db91d8501c8f25784a554a441b9ce07ed8c501b38c63b973d664", func := "capstan/capstanlaw23.VerifyEmits", spec := "verifyEmits", unfollowed := true, recurses := true, named := ["capstan/cron.fields", "capstan/verify.table"], loops := true, apart := false, laid := [("capstan/cron.fields", laid_capstan_cron_fields), ("capstan/verify.table", laid_capstan_verify_table)], narrowed := true }
def VerifyEmitsUptoSaid : Prop := verifyEmitsUptoRow.holds Tryd.pinned (OpenSpec.upto verifyEmitsSpec)

/-- 'capstanlaw23.VerifyDown', WHERE WHAT IT READS IS OF BULK AT MOST 1048576: true; the input reads as it did. -/
def verifyDownUptoRow : OpenClaim := { program := "ytdgljnidkhfgpaadoor", sum := "14907a9fbe86db91d8501c8f25784a554a441b9ce07ed8c501b38c63b973d664", func := "capstan/capstanlaw23.VerifyDown", spec := "verifyDown", unfollowed := true, recurses := true, named := ["capstan/cron.fields", "capstan/verify.table"], apart := false, laid := [("capstan/cron.fields", laid_capstan_cron_fields), ("capstan/verify.table", laid_capstan_verify_table)], narrowed := true }
def VerifyDownUptoSaid : Prop := verifyDownUptoRow.holds Tryd.pinned (OpenSpec.upto verifyDownSpec)

/-- 'capstanlaw23.VerifyKeeps', WHERE WHAT IT READS IS OF BULK AT MOST 1048576: true; the input reads as it did. -/
def verifyKeepsUptoRow : OpenClaim := { program := "ytdgljnidkhfgpaadoor", sum := "14907a9fbe86db91d8501c8f25784a554a441b9ce07ed8c501b38c63b973d664", func := "capstan/capstanlaw23.VerifyKeeps", spec := "verifyKeeps", unfollowed := true, recurses := true, named := ["capstan/cron.fields", "capstan/verify.table"], apart := false, laid := [("capstan/cron.fields", laid_capstan_cron_fields), ("capstan/verify.table", laid_capstan_verify_table)], narrowed := true }
def VerifyKeepsUptoSaid : Prop := verifyKeepsUptoRow.holds Tryd.pinned (OpenSpec.upto verifyKeepsSpec)

end Rows
end Go.Proofs.YtdgljnidkhfgpaaDoor
