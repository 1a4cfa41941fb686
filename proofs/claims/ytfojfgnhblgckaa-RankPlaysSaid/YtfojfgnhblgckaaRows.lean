/-
  No cell of these rows narrows 'for every input' (looked for: loops, veiled, ifaces, maps, wideKeys, modest, calm, conditions, laid).
  DERIVED. THE GIVEN ROWS OF THIS SEAT. 4 by the template 'for every input the law returns true; each argument reads behind the call as it read before'; 0 by the template 'total and deterministic' (their statements: YtfojfgnhblgckaaTotals.lean).
  GIVEN WITH THE SEED: the statements are not yours to turn. If you find one false, say at which input.
  Laid BY PROGRAM, IN A SANDBOX (cutbox-rows.mjs): the forced cells as the released guide's own fill.sh prints them over the translation 24ad89571378fcad… (all of the seat's roots in one cut). By AI agents, Wed Nov 11 2026. No macro, syntax, notation, axiom, sorry.
-/
import Derived.Test.YtfojfgnhblgckaaChecked
import GoSem.Claim
import GoSem.ClaimJoined
import GoSem.ClaimMapViews
import Derived.JoinedTies
import Derived.KernelRfl
namespace Go.Proofs.Ytfojfgnhblgckaa
/- THE CELL 'sum', in the pinned program and in every row, IS THE sha256 OF THE DUMP (.gsa) THAT YtfojfgnhblgckaaProg.lean LOADS. Nothing in Lean hashes anything: it is a label: what it is worth is what the hold of that sum in a sandbox is worth. -/
noncomputable def Try.pinned : Pinned := { name := "ytfojfgnhblgckaa", sum := "24ad89571378fcad98a2617c21f690c05334d5dbc584f386c72097a3d20f344c", checked := Try.checked }
namespace Rows
def none {H : Type} : Left H := { results := [], args := [] }

/-- 'capstanlaw07.RankBounds': WHATEVER THE INPUT: true; the input reads as it did. -/
def rankBoundsSpec : ChangeSpec := { name := "rankBounds", fn := fun _ => fun
  | [d1, d2] => { results := [.lit (.bool true)], args := [d1, d2] }
  | _ => none }
def rankBoundsRow : OpenClaim := { program := "ytfojfgnhblgckaa", sum := "24ad89571378fcad98a2617c21f690c05334d5dbc584f386c72097a3d20f344c", func := "capstan/capstanlaw07.RankBounds", spec := "rankBounds", named := ["math/bits.divideError", "math/bits.overflowError"], apart := false }
def RankBoundsSaid : Prop := rankBoundsRow.holds Try.pinned (OpenSpec.ofChange rankBoundsSpec)

/-- ITS FALSE NEIGHBOUR: 'it returns false'. Refute it at one input. -/
def rankBoundsWrong : ChangeSpec := { name := "rankBounds", fn := fun _ => fun
  | [d1, d2] => { results := [.lit (.bool false)], args := [d1, d2] }
  | _ => none }
def RankBoundsWrongFalsely : Prop := rankBoundsRow.holds Try.pinned (OpenSpec.ofChange rankBoundsWrong)

/-- 'capstanlaw07.RankPlays': WHATEVER THE INPUT: true; the input reads as it did. -/
def rankPlaysSpec : ChangeSpec := { name := "rankPlays", fn := fun _ => fun
  | [d] => { results := [.lit (.bool true)], args := [d] }
  | _ => none }
def rankPlaysRow : OpenClaim := { program := "ytfojfgnhblgckaa", sum := "24ad89571378fcad98a2617c21f690c05334d5dbc584f386c72097a3d20f344c", func := "capstan/capstanlaw07.RankPlays", spec := "rankPlays", named := ["math/bits.divideError", "math/bits.overflowError"], apart := false }
def RankPlaysSaid : Prop := rankPlaysRow.holds Try.pinned (OpenSpec.ofChange rankPlaysSpec)

/-- ITS FALSE NEIGHBOUR: 'it returns false'. Refute it at one input. -/
def rankPlaysWrong : ChangeSpec := { name := "rankPlays", fn := fun _ => fun
  | [d] => { results := [.lit (.bool false)], args := [d] }
  | _ => none }
def RankPlaysWrongFalsely : Prop := rankPlaysRow.holds Try.pinned (OpenSpec.ofChange rankPlaysWrong)

/-- 'capstanlaw07.RankKeeps': WHATEVER THE INPUT: true; the input reads as it did. -/
def rankKeepsSpec : ChangeSpec := { name := "rankKeeps", fn := fun _ => fun
  | [d1, d2] => { results := [.lit (.bool true)], args := [d1, d2] }
  | _ => none }
def rankKeepsRow : OpenClaim := { program := "ytfojfgnhblgckaa", sum := "24ad89571378fcad98a2617c21f690c05334d5dbc584f386c72097a3d20f344c", func := "capstan/capstanlaw07.RankKeeps", spec := "rankKeeps", named := ["math/bits.divideError", "math/bits.overflowError"], apart := false }
def RankKeepsSaid : Prop := rankKeepsRow.holds Try.pinned (OpenSpec.ofChange rankKeepsSpec)

/-- ITS FALSE NEIGHBOUR: 'it returns false'. Refute it at one input. -/
def rankKeepsWrong : ChangeSpec := { name := "rankKeeps", fn := fun _ => fun
  | [d1, d2] => { results := [.lit (.bool false)], args := [d1, d2] }
  | _ => none }
def RankKeepsWrongFalsely : Prop := rankKeepsRow.holds Try.pinned (OpenSpec.ofChange rankKeepsWrong)

/-- 'capstanlaw07.RankNil': WHATEVER THE INPUT: true; the input reads as it did. -/
def rankNilSpec : ChangeSpec := { name := "rankNil", fn := fun _ => fun
  | [d] => { results := [.lit (.bool true)], args := [d] }
  | _ => none }
def rankNilRow : OpenClaim := { program := "ytfojfgnhblgckaa", sum := "24ad89571378fcad98a2617c21f690c05334d5dbc584f386c72097a3d20f344c", func := "capstan/capstanlaw07.RankNil", spec := "rankNil", named := ["math/bits.divideError", "math/bits.overflowError"], apart := false }
def RankNilSaid : Prop := rankNilRow.holds Try.pinned (OpenSpec.ofChange rankNilSpec)

/-- ITS FALSE NEIGHBOUR: 'it returns false'. Refute it at one input. -/
def rankNilWrong : ChangeSpec := { name := "rankNil", fn := fun _ => fun
  | [d] => { results := [.lit (.bool false)], args := [d] }
  | _ => none }
def RankNilWrongFalsely : Prop := rankNilRow.holds Try.pinned (OpenSpec.ofChange rankNilWrong)

/- THE SECOND FORM. 'bulk': how many values and letters a reading holds, each counted each time it is reached (what is shared counts as often as it is met; a slice's spare places count too). A statement '..UptoSaid' is the law's where the arguments, and the package variables that the reading takes, are together of bulk at most 1048576: NARROWER than '..Said'. Prove '..Said' where nothing that the law and all that it calls make is longer than what came in: it says more and counts as full. Else prove '..UptoSaid'. A law counts once. -/
mutual
def uptoBulk {H : Type} : DataW H → Nat
  | .lit (.string bytes) => bytes.length + 1
  | .lit _ => 1
  | .nil => 1
  | .ptr d => uptoBulk d + 1
  | .slice elems spare => uptoBulkAll elems + uptoBulkAll spare + 1
  | .agg parts => uptoBulkAll parts + 1
  | .iface _ d => uptoBulk d + 1
  | .map entries => uptoBulkEntries entries + 1
  | .held _ => 1
def uptoBulkAll {H : Type} : List (DataW H) → Nat
  | [] => 0
  | d :: r => uptoBulk d + uptoBulkAll r
def uptoBulkEntries {H : Type} : List (Lit × DataW H) → Nat
  | [] => 0
  | x :: r => uptoBulkEntry x + uptoBulkEntries r
def uptoBulkEntry {H : Type} : Lit × DataW H → Nat
  | (.string bytes, d) => bytes.length + uptoBulk d + 1
  | (_, d) => uptoBulk d + 1
 end
def uptoSmall : (H : Type) → List (DataW H) → Bool := fun _ ds => decide (uptoBulkAll ds ≤ 1048576)
def OpenSpec.upto (s : _root_.Go.ChangeSpec) : _root_.Go.OpenSpec := { _root_.Go.OpenSpec.ofChange s with cond := some uptoSmall }

/-- 'capstanlaw07.RankBounds', WHERE WHAT IT READS IS OF BULK AT MOST 1048576: true; the input reads as it did. -/
def rankBoundsUptoRow : OpenClaim := { program := "ytfojfgnhblgckaa", sum := "24ad89571378fcad98a2617c21f690c05334d5dbc584f386c72097a3d20f344c", func := "capstan/capstanlaw07.RankBounds", spec := "rankBounds", named := ["math/bits.divideError", "math/bits.overflowError"], apart := false, narrowed := true }
def RankBoundsUptoSaid : Prop := rankBoundsUptoRow.holds Try.pinned (OpenSpec.upto rankBoundsSpec)

/-- 'capstanlaw07.RankPlays', WHERE WHAT IT READS IS OF BULK AT MOST 1048576: true; the input reads as it did. -/
def rankPlaysUptoRow : OpenClaim := { program := "ytfojfgnhblgckaa", sum := "24ad89571378fcad98a2617c21f690c05334d5dbc584f386c72097a3d20f344c", func := "capstan/capstanlaw07.RankPlays", spec := "rankPlays", named := ["math/bits.divideError", "math/bits.overflowError"], apart := false, narrowed := true }
def RankPlaysUptoSaid : Prop := rankPlaysUptoRow.holds Try.pinned (OpenSpec.upto rankPlaysSpec)

/-- 'capstanlaw07.RankKeeps', WHERE WHAT IT READS IS OF BULK AT MOST 1048576: true; the input reads as it did. -/
def rankKeepsUptoRow : OpenClaim := { program := "ytfojfgnhblgckaa", sum := "24ad89571378fcad98a2617c21f690c05334d5dbc584f386c72097a3d20f344c", func := "capstan/capstanlaw07.RankKeeps", spec := "rankKeeps", named := ["math/bits.divideError", "math/bits.overflowError"], apart := false, narrowed := true }
def RankKeepsUptoSaid : Prop := rankKeepsUptoRow.holds Try.pinned (OpenSpec.upto rankKeepsSpec)

/-- 'capstanlaw07.RankNil', WHERE WHAT IT READS IS OF BULK AT MOST 1048576: true; the input reads as it did. -/
def rankNilUptoRow : OpenClaim := { program := "ytfojfgnhblgckaa", sum := "24ad89571378fcad98a2617c21f690c05334d5dbc584f386c72097a3d20f344c", func := "capstan/capstanlaw07.RankNil", spec := "rankNil", named := ["math/bits.divideError", "math/bits.overflowError"], apart := false, narrowed := true }
def RankNilUptoSaid : Prop := rankNilUptoRow.holds Try.pinned (OpenSpec.upto rankNilSpec)

end Rows
end Go.Proofs.Ytfojfgnhblgckaa
