/-
  No cell of these rows narrows 'for every input' (looked for: loops, veiled, ifaces, maps, wideKeys, modest, calm, conditions, laid).
  DERIVED. THE GIVEN ROWS OF THIS SEAT. 8 by the template 'for every input the law returns true; each argument reads behind the call as it read before'; 0 by the template 'total and deterministic' (their statements: YtmlnbmbobkoipaaTotals.lean).
  GIVEN WITH THE SEED: the statements are not yours to turn. If you find one false, say at which input.
  Laid BY PROGRAM, IN A SANDBOX (cutbox-rows.mjs): the forced cells as the released guide's own fill.sh prints them over the translation a303786455cbfc32… (all of the seat's roots in one cut). By AI agents, Wed Nov 11 2026. No macro, syntax, notation, axiom, sorry.
-/
import Derived.Test.YtmlnbmbobkoipaaChecked
import GoSem.Claim
import GoSem.ClaimJoined
import GoSem.ClaimMapViews
import Derived.JoinedTies
import Derived.KernelRfl
namespace Go.Proofs.Ytmlnbmbobkoipaa
/- THE CELL 'sum', in the pinned program and in every row, IS THE sha256 OF THE DUMP (.gsa) THAT YtmlnbmbobkoipaaProg.lean LOADS. Nothing in Lean hashes anything: it is a label: what it is worth is what the hold of that sum in a sandbox is worth. -/
noncomputable def Try.pinned : Pinned := { name := "ytmlnbmbobkoipaa", sum := "a303786455cbfc327cdf8214f0b82b025231ce35496edeb06f4313b9abb4ee2e", checked := Try.checked }
namespace Rows
def none {H : Type} : Left H := { results := [], args := [] }

/-- 'capstanlaw06.MonoKeeps': WHATEVER THE INPUT: true; the input reads as it did. -/
def monoKeepsSpec : ChangeSpec := { name := "monoKeeps", fn := fun _ => fun
  | [d1, d2] => { results := [.lit (.bool true)], args := [d1, d2] }
  | _ => none }
def monoKeepsRow : OpenClaim := { program := "ytmlnbmbobkoipaa", sum := "a303786455cbfc327cdf8214f0b82b025231ce35496edeb06f4313b9abb4ee2e", func := "capstan/capstanlaw06.MonoKeeps", spec := "monoKeeps", apart := false }
def MonoKeepsSaid : Prop := monoKeepsRow.holds Try.pinned (OpenSpec.ofChange monoKeepsSpec)

/-- ITS FALSE NEIGHBOUR: 'it returns false'. Refute it at one input. -/
def monoKeepsWrong : ChangeSpec := { name := "monoKeeps", fn := fun _ => fun
  | [d1, d2] => { results := [.lit (.bool false)], args := [d1, d2] }
  | _ => none }
def MonoKeepsWrongFalsely : Prop := monoKeepsRow.holds Try.pinned (OpenSpec.ofChange monoKeepsWrong)

/-- 'capstanlaw06.MonoPlays': WHATEVER THE INPUT: true; the input reads as it did. -/
def monoPlaysSpec : ChangeSpec := { name := "monoPlays", fn := fun _ => fun
  | [d1, d2] => { results := [.lit (.bool true)], args := [d1, d2] }
  | _ => none }
def monoPlaysRow : OpenClaim := { program := "ytmlnbmbobkoipaa", sum := "a303786455cbfc327cdf8214f0b82b025231ce35496edeb06f4313b9abb4ee2e", func := "capstan/capstanlaw06.MonoPlays", spec := "monoPlays", apart := false }
def MonoPlaysSaid : Prop := monoPlaysRow.holds Try.pinned (OpenSpec.ofChange monoPlaysSpec)

/-- ITS FALSE NEIGHBOUR: 'it returns false'. Refute it at one input. -/
def monoPlaysWrong : ChangeSpec := { name := "monoPlays", fn := fun _ => fun
  | [d1, d2] => { results := [.lit (.bool false)], args := [d1, d2] }
  | _ => none }
def MonoPlaysWrongFalsely : Prop := monoPlaysRow.holds Try.pinned (OpenSpec.ofChange monoPlaysWrong)

/-- 'capstanlaw06.MonoKept': WHATEVER THE INPUT: true; the input reads as it did. -/
def monoKeptSpec : ChangeSpec := { name := "monoKept", fn := fun _ => fun
  | [d1, d2] => { results := [.lit (.bool true)], args := [d1, d2] }
  | _ => none }
def monoKeptRow : OpenClaim := { program := "ytmlnbmbobkoipaa", sum := "a303786455cbfc327cdf8214f0b82b025231ce35496edeb06f4313b9abb4ee2e", func := "capstan/capstanlaw06.MonoKept", spec := "monoKept", apart := false }
def MonoKeptSaid : Prop := monoKeptRow.holds Try.pinned (OpenSpec.ofChange monoKeptSpec)

/-- ITS FALSE NEIGHBOUR: 'it returns false'. Refute it at one input. -/
def monoKeptWrong : ChangeSpec := { name := "monoKept", fn := fun _ => fun
  | [d1, d2] => { results := [.lit (.bool false)], args := [d1, d2] }
  | _ => none }
def MonoKeptWrongFalsely : Prop := monoKeptRow.holds Try.pinned (OpenSpec.ofChange monoKeptWrong)

/-- 'capstanlaw06.MonoNil': WHATEVER THE INPUT: true; the input reads as it did. -/
def monoNilSpec : ChangeSpec := { name := "monoNil", fn := fun _ => fun
  | [d] => { results := [.lit (.bool true)], args := [d] }
  | _ => none }
def monoNilRow : OpenClaim := { program := "ytmlnbmbobkoipaa", sum := "a303786455cbfc327cdf8214f0b82b025231ce35496edeb06f4313b9abb4ee2e", func := "capstan/capstanlaw06.MonoNil", spec := "monoNil", apart := false }
def MonoNilSaid : Prop := monoNilRow.holds Try.pinned (OpenSpec.ofChange monoNilSpec)

/-- ITS FALSE NEIGHBOUR: 'it returns false'. Refute it at one input. -/
def monoNilWrong : ChangeSpec := { name := "monoNil", fn := fun _ => fun
  | [d] => { results := [.lit (.bool false)], args := [d] }
  | _ => none }
def MonoNilWrongFalsely : Prop := monoNilRow.holds Try.pinned (OpenSpec.ofChange monoNilWrong)

/-- 'capstanlaw05.RingTypes': WHATEVER THE INPUT: true; the input reads as it did. -/
def ringTypesSpec : ChangeSpec := { name := "ringTypes", fn := fun _ => fun
  | [d1, d2] => { results := [.lit (.bool true)], args := [d1, d2] }
  | _ => none }
def ringTypesRow : OpenClaim := { program := "ytmlnbmbobkoipaa", sum := "a303786455cbfc327cdf8214f0b82b025231ce35496edeb06f4313b9abb4ee2e", func := "capstan/capstanlaw05.RingTypes", spec := "ringTypes", apart := false }
def RingTypesSaid : Prop := ringTypesRow.holds Try.pinned (OpenSpec.ofChange ringTypesSpec)

/-- ITS FALSE NEIGHBOUR: 'it returns false'. Refute it at one input. -/
def ringTypesWrong : ChangeSpec := { name := "ringTypes", fn := fun _ => fun
  | [d1, d2] => { results := [.lit (.bool false)], args := [d1, d2] }
  | _ => none }
def RingTypesWrongFalsely : Prop := ringTypesRow.holds Try.pinned (OpenSpec.ofChange ringTypesWrong)

/-- 'capstanlaw05.RingPlays': WHATEVER THE INPUT: true; the input reads as it did. -/
def ringPlaysSpec : ChangeSpec := { name := "ringPlays", fn := fun _ => fun
  | [d1, d2] => { results := [.lit (.bool true)], args := [d1, d2] }
  | _ => none }
def ringPlaysRow : OpenClaim := { program := "ytmlnbmbobkoipaa", sum := "a303786455cbfc327cdf8214f0b82b025231ce35496edeb06f4313b9abb4ee2e", func := "capstan/capstanlaw05.RingPlays", spec := "ringPlays", unfollowed := true, recurses := true, apart := false }
def RingPlaysSaid : Prop := ringPlaysRow.holds Try.pinned (OpenSpec.ofChange ringPlaysSpec)

/-- ITS FALSE NEIGHBOUR: 'it returns false'. Refute it at one input. -/
def ringPlaysWrong : ChangeSpec := { name := "ringPlays", fn := fun _ => fun
  | [d1, d2] => { results := [.lit (.bool false)], args := [d1, d2] }
  | _ => none }
def RingPlaysWrongFalsely : Prop := ringPlaysRow.holds Try.pinned (OpenSpec.ofChange ringPlaysWrong)

/-- 'capstanlaw05.RingKeeps': WHATEVER THE INPUT: true; the input reads as it did. -/
def ringKeepsSpec : ChangeSpec := { name := "ringKeeps", fn := fun _ => fun
  | [d1, d2] => { results := [.lit (.bool true)], args := [d1, d2] }
  | _ => none }
def ringKeepsRow : OpenClaim := { program := "ytmlnbmbobkoipaa", sum := "a303786455cbfc327cdf8214f0b82b025231ce35496edeb06f4313b9abb4ee2e", func := "capstan/capstanlaw05.RingKeeps", spec := "ringKeeps", unfollowed := true, recurses := true, apart := false }
def RingKeepsSaid : Prop := ringKeepsRow.holds Try.pinned (OpenSpec.ofChange ringKeepsSpec)

/-- ITS FALSE NEIGHBOUR: 'it returns false'. Refute it at one input. -/
def ringKeepsWrong : ChangeSpec := { name := "ringKeeps", fn := fun _ => fun
  | [d1, d2] => { results := [.lit (.bool false)], args := [d1, d2] }
  | _ => none }
def RingKeepsWrongFalsely : Prop := ringKeepsRow.holds Try.pinned (OpenSpec.ofChange ringKeepsWrong)

/-- 'capstanlaw05.RingNil': WHATEVER THE INPUT: true; the input reads as it did. -/
def ringNilSpec : ChangeSpec := { name := "ringNil", fn := fun _ => fun
  | [d1, d2] => { results := [.lit (.bool true)], args := [d1, d2] }
  | _ => none }
def ringNilRow : OpenClaim := { program := "ytmlnbmbobkoipaa", sum := "a303786455cbfc327cdf8214f0b82b025231ce35496edeb06f4313b9abb4ee2e", func := "capstan/capstanlaw05.RingNil", spec := "ringNil", unfollowed := true, recurses := true, apart := false }
def RingNilSaid : Prop := ringNilRow.holds Try.pinned (OpenSpec.ofChange ringNilSpec)

/-- ITS FALSE NEIGHBOUR: 'it returns false'. Refute it at one input. -/
def ringNilWrong : ChangeSpec := { name := "ringNil", fn := fun _ => fun
  | [d1, d2] => { results := [.lit (.bool false)], args := [d1, d2] }
  | _ => none }
def RingNilWrongFalsely : Prop := ringNilRow.holds Try.pinned (OpenSpec.ofChange ringNilWrong)

/- THE SECOND FORM. 'bulk': how many values and letters a reading holds, each counted each time it is reached (what is shared counts as often as it is met; a slice's spare places count too). A statement '..UptoSaid' is the law's where the arguments, and the package variables that the reading takes, are together of bulk at most 1048576: NARROWER than '..Said'. Prove '..Said' where nothing that the law and all that it calls make is longer than what came in: it says more and counts as full. Else prove '..UptoSaid'. A law counts once. -/
mutual
def uptoBulk {H : Type} : DataW H → Nat
  | .lit (.string bytes) => bytes.length + 1
  | .lit _ => 1
  | .nil => 1
  | .ptr d => uptoBulk d + 1
  | .slice elems spare => uptoBulkAll elems + uptoBulkAll spare + 1
  | .agg parts => uptoBulkAll parts + 1
  | .iface _ d => uptoBulk d + 1
  | .map entries => uptoBulkEntries entries + 1
  | .held _ => 1
def uptoBulkAll {H : Type} : List (DataW H) → Nat
  | [] => 0
  | d :: r => uptoBulk d + uptoBulkAll r
def uptoBulkEntries {H : Type} : List (Lit × DataW H) → Nat
  | [] => 0
  | x :: r => uptoBulkEntry x + uptoBulkEntries r
def uptoBulkEntry {H : Type} : Lit × DataW H → Nat
  | (.string bytes, d) => bytes.length + uptoBulk d + 1
  | (_, d) => uptoBulk d + 1
 end
def uptoSmall : (H : Type) → List (DataW H) → Bool := fun _ ds => decide (uptoBulkAll ds ≤ 1048576)
def OpenSpec.upto (s : _root_.Go.ChangeSpec) : _root_.Go.OpenSpec := { _root_.Go.OpenSpec.ofChange s with cond := some uptoSmall }

/-- 'capstanlaw06.MonoKeeps', WHERE WHAT IT READS IS OF BULK AT MOST 1048576: true; the input reads as it did. -/
def monoKeepsUptoRow : OpenClaim := { program := "ytmlnbmbobkoipaa", sum := "a303786455cbfc327cdf8214f0b82b025231ce35496edeb06f4313b9abb4ee2e", func := "capstan/capstanlaw06.MonoKeeps", spec := "monoKeeps", apart := false, narrowed := true }
def MonoKeepsUptoSaid : Prop := monoKeepsUptoRow.holds Try.pinned (OpenSpec.upto monoKeepsSpec)

/-- 'capstanlaw06.MonoPlays', WHERE WHAT IT READS IS OF BULK AT MOST 1048576: true; the input reads as it did. -/
def monoPlaysUptoRow : OpenClaim := { program := "ytmlnbmbobkoipaa", sum := "a303786455cbfc327cdf8214f0b82b025231ce35496edeb06f4313b9abb4ee2e", func := "capstan/capstanlaw06.MonoPlays", spec := "monoPlays", apart := false, narrowed := true }
def MonoPlaysUptoSaid : Prop := monoPlaysUptoRow.holds Try.pinned (OpenSpec.upto monoPlaysSpec)

/-- 'capstanlaw06.MonoKept', WHERE WHAT IT READS IS OF BULK AT MOST 1048576: true; the input reads as it did. -/
def monoKeptUptoRow : OpenClaim := { program := "ytmlnbmbobkoipaa", sum := "a303786455cbfc327cdf8214f0b82b025231ce35496edeb06f4313b9abb4ee2e", func := "capstan/capstanlaw06.MonoKept", spec := "monoKept", apart := false, narrowed := true }
def MonoKeptUptoSaid : Prop := monoKeptUptoRow.holds Try.pinned (OpenSpec.upto monoKeptSpec)

/-- 'capstanlaw06.MonoNil', WHERE WHAT IT READS IS OF BULK AT MOST 1048576: true; the input reads as it did. -/
def monoNilUptoRow : OpenClaim := { program := "ytmlnbmbobkoipaa", sum := "a303786455cbfc327cdf8214f0b82b025231ce35496edeb06f4313b9abb4ee2e", func := "capstan/capstanlaw06.MonoNil", spec := "monoNil", apart := false, narrowed := true }
def MonoNilUptoSaid : Prop := monoNilUptoRow.holds Try.pinned (OpenSpec.upto monoNilSpec)

/-- 'capstanlaw05.RingTypes', WHERE WHAT IT READS IS OF BULK AT MOST 1048576: true; the input reads as it did. -/
def ringTypesUptoRow : OpenClaim := { program := "ytmlnbmbobkoipaa", sum := "a303786455cbfc327cdf8214f0b82b025231ce35496edeb06f4313b9abb4ee2e", func := "capstan/capstanlaw05.RingTypes", spec := "ringTypes", apart := false, narrowed := true }
def RingTypesUptoSaid : Prop := ringTypesUptoRow.holds Try.pinned (OpenSpec.upto ringTypesSpec)

/-- 'capstanlaw05.RingPlays', WHERE WHAT IT READS IS OF BULK AT MOST 1048576: true; the input reads as it did. -/
def ringPlaysUptoRow : OpenClaim := { program := "ytmlnbmbobkoipaa", sum := "a303786455cbfc327cdf8214f0b82b025231ce35496edeb06f4313b9abb4ee2e", func := "capstan/capstanlaw05.RingPlays", spec := "ringPlays", unfollowed := true, recurses := true, apart := false, narrowed := true }
def RingPlaysUptoSaid : Prop := ringPlaysUptoRow.holds Try.pinned (OpenSpec.upto ringPlaysSpec)

/-- 'capstanlaw05.RingKeeps', WHERE WHAT IT READS IS OF BULK AT MOST 1048576: true; the input reads as it did. -/
def ringKeepsUptoRow : OpenClaim := { program := "ytmlnbmbobkoipaa", sum := "a303786455cbfc327cdf8214f0b82b025231ce35496edeb06f4313b9abb4ee2e", func := "capstan/capstanlaw05.RingKeeps", spec := "ringKeeps", unfollowed := true, recurses := true, apart := false, narrowed := true }
def RingKeepsUptoSaid : Prop := ringKeepsUptoRow.holds Try.pinned (OpenSpec.upto ringKeepsSpec)

/-- 'capstanlaw05.RingNil', WHERE WHAT IT READS IS OF BULK AT MOST 1048576: true; the input reads as it did. -/
def ringNilUptoRow : OpenClaim := { program := "ytmlnbmbobkoipaa", sum := "a303786455cbfc327cdf8214f0b82b025231ce35496edeb06f4313b9abb4ee2e", func := "capstan/capstanlaw05.RingNil", spec := "ringNil", unfollowed := true, recurses := true, apart := false, narrowed := true }
def RingNilUptoSaid : Prop := ringNilUptoRow.holds Try.pinned (OpenSpec.upto ringNilSpec)

end Rows
end Go.Proofs.Ytmlnbmbobkoipaa
