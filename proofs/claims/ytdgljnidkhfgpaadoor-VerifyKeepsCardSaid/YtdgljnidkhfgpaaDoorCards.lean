/-
  DERIVED. GIVEN WITH THE SEED: THE CARDS: each row of YtdgljnidkhfgpaaDoorRows.lean that lists a variable, with what it lists TIED to the program's text (the seventh form; the later family's looks); each row that meets fmt, with fmt's text TOLD by the authors' own Lean function (tested against real Go, not proved from fmt's source: count such statements apart). THE CARD IS WHAT COUNTS. Prove the row's statement (the work); the ties are given (YtdgljnidkhfgpaaDoorTie.lean); close each card by the builder's one call (the guide's Derived/Test/ToyasCard.lean, 'card_holds'). Laid BY PROGRAM, IN A SANDBOX (cutbox-door.mjs). By AI agents, Wed Nov 11 2026. No macro, syntax, notation, axiom, sorry.
-/
import Derived.Test.YtdgljnidkhfgpaaDoorRows
import GoSem.ClaimSeven
namespace Go.Proofs.YtdgljnidkhfgpaaDoor
namespace Rows

/-- THE TIED CARD OF 'capstanlaw23.VerifyEmits'. -/
def verifyEmitsCard : Claim7 := { stood := { row := verifyEmitsRow, standIns := [], harness := (true, "bb879a16610b5090aa965ae321b997b626e5a4c06c51e9a5776da22f1e98acfd"), looks := false }, kinds := [], alts := [], laidByText := true, laidKinds := [.wider, .data], laidTests := true, laidLooks := .later }
def VerifyEmitsCardSaid : Prop := Claim7.holds Tryd.pinned (.plain (OpenSpec.ofChange verifyEmitsSpec)) verifyEmitsCard

/-- THE TIED CARD OF 'capstanlaw23.VerifyDown'. -/
def verifyDownCard : Claim7 := { stood := { row := verifyDownRow, standIns := [], harness := (true, "bb879a16610b5090aa965ae321b997b626e5a4c06c51e9a5776da22f1e98acfd"), looks := false }, kinds := [], alts := [], laidByText := true, laidKinds := [.wider, .data], laidTests := true, laidLooks := .later }
def VerifyDownCardSaid : Prop := Claim7.holds Tryd.pinned (.plain (OpenSpec.ofChange verifyDownSpec)) verifyDownCard

/-- THE TIED CARD OF 'capstanlaw23.VerifyKeeps'. -/
def verifyKeepsCard : Claim7 := { stood := { row := verifyKeepsRow, standIns := [], harness := (true, "bb879a16610b5090aa965ae321b997b626e5a4c06c51e9a5776da22f1e98acfd"), looks := false }, kinds := [], alts := [], laidByText := true, laidKinds := [.wider, .data], laidTests := true, laidLooks := .later }
def VerifyKeepsCardSaid : Prop := Claim7.holds Tryd.pinned (.plain (OpenSpec.ofChange verifyKeepsSpec)) verifyKeepsCard

/-- THE SECOND FORM's CARD OF 'capstanlaw23.VerifyEmits'. -/
def verifyEmitsUptoCard : Claim7 := { stood := { row := verifyEmitsUptoRow, standIns := [], harness := (true, "bb879a16610b5090aa965ae321b997b626e5a4c06c51e9a5776da22f1e98acfd"), looks := false }, kinds := [], alts := [], laidByText := true, laidKinds := [.wider, .data], laidTests := true, laidLooks := .later }
def VerifyEmitsUptoCardSaid : Prop := Claim7.holds Tryd.pinned (.plain (OpenSpec.upto verifyEmitsSpec)) verifyEmitsUptoCard

/-- THE SECOND FORM's CARD OF 'capstanlaw23.VerifyDown'. -/
def verifyDownUptoCard : Claim7 := { stood := { row := verifyDownUptoRow, standIns := [], harness := (true, "bb879a16610b5090aa965ae321b997b626e5a4c06c51e9a5776da22f1e98acfd"), looks := false }, kinds := [], alts := [], laidByText := true, laidKinds := [.wider, .data], laidTests := true, laidLooks := .later }
def VerifyDownUptoCardSaid : Prop := Claim7.holds Tryd.pinned (.plain (OpenSpec.upto verifyDownSpec)) verifyDownUptoCard

/-- THE SECOND FORM's CARD OF 'capstanlaw23.VerifyKeeps'. -/
def verifyKeepsUptoCard : Claim7 := { stood := { row := verifyKeepsUptoRow, standIns := [], harness := (true, "bb879a16610b5090aa965ae321b997b626e5a4c06c51e9a5776da22f1e98acfd"), looks := false }, kinds := [], alts := [], laidByText := true, laidKinds := [.wider, .data], laidTests := true, laidLooks := .later }
def VerifyKeepsUptoCardSaid : Prop := Claim7.holds Tryd.pinned (.plain (OpenSpec.upto verifyKeepsSpec)) verifyKeepsUptoCard
end Rows
end Go.Proofs.YtdgljnidkhfgpaaDoor
