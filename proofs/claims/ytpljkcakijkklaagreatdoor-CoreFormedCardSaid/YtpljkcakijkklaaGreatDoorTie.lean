/-
  DERIVED. GIVEN WITH THE SEED: THE PROGRAM's TIES (one call each: nine closed facts by the kernel) AND EACH ROW's TIE, after the 31st guide's Derived/Test/Toyas{Tie, Card}.lean. No idea stands in it: it is a product of the set-up. Laid BY PROGRAM, IN A SANDBOX (cutbox-door.mjs). By AI agents, Wed Nov 11 2026. No macro, syntax, notation, axiom, sorry.
-/
import Derived.Test.YtpljkcakijkklaaGreatDoorRows
import Derived.LaidByTextLater
import Derived.SevenTiedAt
import Derived.LaidSub
import Derived.LaidOnce
namespace Go.Proofs.YtpljkcakijkklaaGreatDoor
open Go
set_option maxRecDepth 100000
theorem seatTie1 : Tryz.prog.laidByTextLater [("errors.errorType", Rows.laid_errors_errorType), ("capstan/cron.fields", Rows.laid_capstan_cron_fields)] [.handle, .wider] true :=
  Program.laidByTextLater_by_one 26 8 11 (by kernel_rfl) (by kernel_rfl) (by kernel_rfl) (by kernel_rfl) (by kernel_rfl) (by kernel_rfl) (fun _ _ => by kernel_rfl)
theorem noOwnUnsafe : Tryz.pinned.checked.prog.headLifts.contains "ownunsafe" = false := by kernel_rfl
theorem tie : Tryz.prog.laidByTextLater [("errors.errorType", Rows.laid_errors_errorType)] [.handle] true :=
  Program.laidByTextLater.sub seatTie1 ["errors.errorType"] (by kernel_rfl) (by kernel_rfl)
theorem coreEvals_row_tie : Rows.coreEvalsRow.laidByTextAt .later Tryz.pinned [.handle] true :=
  OpenClaim.laidByTextAt_later rfl rfl tie noOwnUnsafe
theorem tie2 : Tryz.prog.laidByTextLater [("errors.errorType", Rows.laid_errors_errorType), ("capstan/cron.fields", Rows.laid_capstan_cron_fields)] [.handle, .wider] true :=
  Program.laidByTextLater.sub seatTie1 ["errors.errorType", "capstan/cron.fields"] (by kernel_rfl) (by kernel_rfl)
theorem coreFormed_row_tie : Rows.coreFormedRow.laidByTextAt .later Tryz.pinned [.handle, .wider] true :=
  OpenClaim.laidByTextAt_later rfl rfl tie2 noOwnUnsafe
theorem coreDecides_row_tie : Rows.coreDecidesRow.laidByTextAt .later Tryz.pinned [.handle, .wider] true :=
  OpenClaim.laidByTextAt_later rfl rfl tie2 noOwnUnsafe
theorem coreLadders_row_tie : Rows.coreLaddersRow.laidByTextAt .later Tryz.pinned [.handle, .wider] true :=
  OpenClaim.laidByTextAt_later rfl rfl tie2 noOwnUnsafe
theorem coreEvalsUpto_row_tie : Rows.coreEvalsUptoRow.laidByTextAt .later Tryz.pinned [.handle] true :=
  OpenClaim.laidByTextAt_later rfl rfl tie noOwnUnsafe
theorem coreFormedUpto_row_tie : Rows.coreFormedUptoRow.laidByTextAt .later Tryz.pinned [.handle, .wider] true :=
  OpenClaim.laidByTextAt_later rfl rfl tie2 noOwnUnsafe
theorem coreDecidesUpto_row_tie : Rows.coreDecidesUptoRow.laidByTextAt .later Tryz.pinned [.handle, .wider] true :=
  OpenClaim.laidByTextAt_later rfl rfl tie2 noOwnUnsafe
theorem coreLaddersUpto_row_tie : Rows.coreLaddersUptoRow.laidByTextAt .later Tryz.pinned [.handle, .wider] true :=
  OpenClaim.laidByTextAt_later rfl rfl tie2 noOwnUnsafe
end Go.Proofs.YtpljkcakijkklaaGreatDoor
