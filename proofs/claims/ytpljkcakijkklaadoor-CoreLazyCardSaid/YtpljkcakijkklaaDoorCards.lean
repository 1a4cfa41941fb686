/-
  DERIVED. GIVEN WITH THE SEED: THE CARDS: each row of YtpljkcakijkklaaDoorRows.lean that lists a variable, with what it lists TIED to the program's text (the seventh form; the later family's looks); each row that meets fmt, with fmt's text TOLD by the authors' own Lean function (tested against real Go, not proved from fmt's source: count such statements apart). THE CARD IS WHAT COUNTS. Prove the row's statement (the work); the ties are given (YtpljkcakijkklaaDoorTie.lean); close each card by the builder's one call (the guide's Derived/Test/ToyasCard.lean, 'card_holds'). Laid BY PROGRAM, IN A SANDBOX (cutbox-door.mjs). By AI agents, Wed Nov 11 2026. No macro, syntax, notation, axiom, sorry.
-/
import Derived.Test.YtpljkcakijkklaaDoorRows
import GoSem.ClaimSeven
namespace Go.Proofs.YtpljkcakijkklaaDoor
namespace Rows

/-- THE TIED CARD OF 'capstanlaw15.CoreLazy'. -/
def coreLazyCard : Claim7 := { stood := { row := coreLazyRow, standIns := [], harness := (true, "518f46a288ea9bd073bcf8350c8aaaccd6a904275e82648cd7818bd699087dc7"), looks := true }, kinds := [], alts := [], laidByText := true, laidKinds := [.handle], laidTests := true, laidLooks := .later }
def CoreLazyCardSaid : Prop := Claim7.holds Tryd.pinned (.plain (OpenSpec.ofChange coreLazySpec)) coreLazyCard

/-- THE TIED CARD OF 'capstanlaw15.CoreSorts'. -/
def coreSortsCard : Claim7 := { stood := { row := coreSortsRow, standIns := [], harness := (true, "518f46a288ea9bd073bcf8350c8aaaccd6a904275e82648cd7818bd699087dc7"), looks := true }, kinds := [], alts := [], laidByText := true, laidKinds := [.handle], laidTests := true, laidLooks := .later }
def CoreSortsCardSaid : Prop := Claim7.holds Tryd.pinned (.plain (OpenSpec.ofChange coreSortsSpec)) coreSortsCard

/-- THE TIED CARD OF 'capstanlaw15.CoreCopies'. -/
def coreCopiesCard : Claim7 := { stood := { row := coreCopiesRow, standIns := [], harness := (true, "518f46a288ea9bd073bcf8350c8aaaccd6a904275e82648cd7818bd699087dc7"), looks := true }, kinds := [], alts := [], laidByText := true, laidKinds := [.handle], laidTests := true, laidLooks := .later }
def CoreCopiesCardSaid : Prop := Claim7.holds Tryd.pinned (.plain (OpenSpec.ofChange coreCopiesSpec)) coreCopiesCard

/-- THE SECOND FORM's CARD OF 'capstanlaw15.CoreLazy'. -/
def coreLazyUptoCard : Claim7 := { stood := { row := coreLazyUptoRow, standIns := [], harness := (true, "518f46a288ea9bd073bcf8350c8aaaccd6a904275e82648cd7818bd699087dc7"), looks := true }, kinds := [], alts := [], laidByText := true, laidKinds := [.handle], laidTests := true, laidLooks := .later }
def CoreLazyUptoCardSaid : Prop := Claim7.holds Tryd.pinned (.plain (OpenSpec.upto coreLazySpec)) coreLazyUptoCard

/-- THE SECOND FORM's CARD OF 'capstanlaw15.CoreSorts'. -/
def coreSortsUptoCard : Claim7 := { stood := { row := coreSortsUptoRow, standIns := [], harness := (true, "518f46a288ea9bd073bcf8350c8aaaccd6a904275e82648cd7818bd699087dc7"), looks := true }, kinds := [], alts := [], laidByText := true, laidKinds := [.handle], laidTests := true, laidLooks := .later }
def CoreSortsUptoCardSaid : Prop := Claim7.holds Tryd.pinned (.plain (OpenSpec.upto coreSortsSpec)) coreSortsUptoCard

/-- THE SECOND FORM's CARD OF 'capstanlaw15.CoreCopies'. -/
def coreCopiesUptoCard : Claim7 := { stood := { row := coreCopiesUptoRow, standIns := [], harness := (true, "518f46a288ea9bd073bcf8350c8aaaccd6a904275e82648cd7818bd699087dc7"), looks := true }, kinds := [], alts := [], laidByText := true, laidKinds := [.handle], laidTests := true, laidLooks := .later }
def CoreCopiesUptoCardSaid : Prop := Claim7.holds Tryd.pinned (.plain (OpenSpec.upto coreCopiesSpec)) coreCopiesUptoCard
end Rows
end Go.Proofs.YtpljkcakijkklaaDoor
