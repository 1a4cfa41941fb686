/-
  DERIVED. GIVEN WITH THE SEED: THE CARDS: each row of YtpljkcakijkklaaGreatDoorRows.lean that lists a variable, with what it lists TIED to the program's text (the seventh form; the later family's looks); each row that meets fmt, with fmt's text TOLD by the authors' own Lean function (tested against real Go, not proved from fmt's source: count such statements apart). THE CARD IS WHAT COUNTS. Prove the row's statement (the work); the ties are given (YtpljkcakijkklaaGreatDoorTie.lean); close each card by the builder's one call (the guide's Derived/Test/ToyasCard.lean, 'card_holds'). Laid BY PROGRAM, IN A SANDBOX (cutbox-door.mjs). By AI agents, Wed Nov 11 2026. No macro, syntax, notation, axiom, sorry.
-/
import Derived.Test.YtpljkcakijkklaaGreatDoorRows
import GoSem.ClaimSeven
namespace Go.Proofs.YtpljkcakijkklaaGreatDoor
namespace Rows

/-- THE TIED CARD OF 'capstanlaw15.CoreEvals'. -/
def coreEvalsCard : Claim7 := { stood := { row := coreEvalsRow, standIns := [], harness := (true, "b0c1464533c4daf4949ea1b25c515175564c50951a20df133a0cce3c274462b9"), looks := true }, kinds := [], alts := [], laidByText := true, laidKinds := [.handle], laidTests := true, laidLooks := .later }
def CoreEvalsCardSaid : Prop := Claim7.holds Tryz.pinned (.plain (OpenSpec.ofChange coreEvalsSpec)) coreEvalsCard

/-- THE TIED CARD OF 'capstanlaw15.CoreFormed'. -/
def coreFormedCard : Claim7 := { stood := { row := coreFormedRow, standIns := [], harness := (true, "b0c1464533c4daf4949ea1b25c515175564c50951a20df133a0cce3c274462b9"), looks := true }, kinds := [], alts := [], laidByText := true, laidKinds := [.handle, .wider], laidTests := true, laidLooks := .later }
def CoreFormedCardSaid : Prop := Claim7.holds Tryz.pinned (.plain (OpenSpec.ofChange coreFormedSpec)) coreFormedCard

/-- THE TIED CARD OF 'capstanlaw15.CoreDecides'. -/
def coreDecidesCard : Claim7 := { stood := { row := coreDecidesRow, standIns := [], harness := (true, "b0c1464533c4daf4949ea1b25c515175564c50951a20df133a0cce3c274462b9"), looks := true }, kinds := [], alts := [], laidByText := true, laidKinds := [.handle, .wider], laidTests := true, laidLooks := .later }
def CoreDecidesCardSaid : Prop := Claim7.holds Tryz.pinned (.plain (OpenSpec.ofChange coreDecidesSpec)) coreDecidesCard

/-- THE TIED CARD OF 'capstanlaw15.CoreLadders'. -/
def coreLaddersCard : Claim7 := { stood := { row := coreLaddersRow, standIns := [], harness := (true, "b0c1464533c4daf4949ea1b25c515175564c50951a20df133a0cce3c274462b9"), looks := true }, kinds := [], alts := [], laidByText := true, laidKinds := [.handle, .wider], laidTests := true, laidLooks := .later }
def CoreLaddersCardSaid : Prop := Claim7.holds Tryz.pinned (.plain (OpenSpec.ofChange coreLaddersSpec)) coreLaddersCard

/-- THE SECOND FORM's CARD OF 'capstanlaw15.CoreEvals'. -/
def coreEvalsUptoCard : Claim7 := { stood := { row := coreEvalsUptoRow, standIns := [], harness := (true, "b0c1464533c4daf4949ea1b25c515175564c50951a20df133a0cce3c274462b9"), looks := true }, kinds := [], alts := [], laidByText := true, laidKinds := [.handle], laidTests := true, laidLooks := .later }
def CoreEvalsUptoCardSaid : Prop := Claim7.holds Tryz.pinned (.plain (OpenSpec.upto coreEvalsSpec)) coreEvalsUptoCard

/-- THE SECOND FORM's CARD OF 'capstanlaw15.CoreFormed'. -/
def coreFormedUptoCard : Claim7 := { stood := { row := coreFormedUptoRow, standIns := [], harness := (true, "b0c1464533c4daf4949ea1b25c515175564c50951a20df133a0cce3c274462b9"), looks := true }, kinds := [], alts := [], laidByText := true, laidKinds := [.handle, .wider], laidTests := true, laidLooks := .later }
def CoreFormedUptoCardSaid : Prop := Claim7.holds Tryz.pinned (.plain (OpenSpec.upto coreFormedSpec)) coreFormedUptoCard

/-- THE SECOND FORM's CARD OF 'capstanlaw15.CoreDecides'. -/
def coreDecidesUptoCard : Claim7 := { stood := { row := coreDecidesUptoRow, standIns := [], harness := (true, "b0c1464533c4daf4949ea1b25c515175564c50951a20df133a0cce3c274462b9"), looks := true }, kinds := [], alts := [], laidByText := true, laidKinds := [.handle, .wider], laidTests := true, laidLooks := .later }
def CoreDecidesUptoCardSaid : Prop := Claim7.holds Tryz.pinned (.plain (OpenSpec.upto coreDecidesSpec)) coreDecidesUptoCard

/-- THE SECOND FORM's CARD OF 'capstanlaw15.CoreLadders'. -/
def coreLaddersUptoCard : Claim7 := { stood := { row := coreLaddersUptoRow, standIns := [], harness := (true, "b0c1464533c4daf4949ea1b25c515175564c50951a20df133a0cce3c274462b9"), looks := true }, kinds := [], alts := [], laidByText := true, laidKinds := [.handle, .wider], laidTests := true, laidLooks := .later }
def CoreLaddersUptoCardSaid : Prop := Claim7.holds Tryz.pinned (.plain (OpenSpec.upto coreLaddersSpec)) coreLaddersUptoCard
end Rows
end Go.Proofs.YtpljkcakijkklaaGreatDoor
