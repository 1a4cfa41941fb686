/-
  DERIVED. GIVEN WITH THE SEED: THE PROGRAM's TIES (one call each: nine closed facts by the kernel) AND EACH ROW's TIE, after the 31st guide's Derived/Test/Toyas{Tie, Card}.lean. No idea stands in it: it is a product of the set-up. Laid BY PROGRAM, IN A SANDBOX (cutbox-door.mjs). By AI agents, Wed Nov 11 2026. No macro, syntax, notation, axiom, sorry.
-/
import Derived.Test.YtdgljnidkhfgpaaDoorRows
import Derived.LaidByTextLater
import Derived.SevenTiedAt
import Derived.LaidSub
import Derived.LaidOnce
namespace Go.Proofs.YtdgljnidkhfgpaaDoor
open Go
set_option maxRecDepth 100000
theorem seatTie1 : Tryd.prog.laidByTextLater [("capstan/cron.fields", Rows.laid_capstan_cron_fields), ("capstan/verify.table", Rows.laid_capstan_verify_table)] [.wider, .data] true :=
  Program.laidByTextLater_by_one 57 8 103 (by kernel_rfl) (by kernel_rfl) (by kernel_rfl) (by kernel_rfl) (by kernel_rfl) (by kernel_rfl) (fun _ _ => by kernel_rfl)
theorem noOwnUnsafe : Tryd.pinned.checked.prog.headLifts.contains "ownunsafe" = false := by kernel_rfl
theorem tie : Tryd.prog.laidByTextLater [("capstan/cron.fields", Rows.laid_capstan_cron_fields), ("capstan/verify.table", Rows.laid_capstan_verify_table)] [.wider, .data] true :=
  Program.laidByTextLater.sub seatTie1 ["capstan/cron.fields", "capstan/verify.table"] (by kernel_rfl) (by kernel_rfl)
theorem verifyEmits_row_tie : Rows.verifyEmitsRow.laidByTextAt .later Tryd.pinned [.wider, .data] true :=
  OpenClaim.laidByTextAt_later rfl rfl tie noOwnUnsafe
theorem verifyDown_row_tie : Rows.verifyDownRow.laidByTextAt .later Tryd.pinned [.wider, .data] true :=
  OpenClaim.laidByTextAt_later rfl rfl tie noOwnUnsafe
theorem verifyKeeps_row_tie : Rows.verifyKeepsRow.laidByTextAt .later Tryd.pinned [.wider, .data] true :=
  OpenClaim.laidByTextAt_later rfl rfl tie noOwnUnsafe
theorem verifyEmitsUpto_row_tie : Rows.verifyEmitsUptoRow.laidByTextAt .later Tryd.pinned [.wider, .data] true :=
  OpenClaim.laidByTextAt_later rfl rfl tie noOwnUnsafe
theorem verifyDownUpto_row_tie : Rows.verifyDownUptoRow.laidByTextAt .later Tryd.pinned [.wider, .data] true :=
  OpenClaim.laidByTextAt_later rfl rfl tie noOwnUnsafe
theorem verifyKeepsUpto_row_tie : Rows.verifyKeepsUptoRow.laidByTextAt .later Tryd.pinned [.wider, .data] true :=
  OpenClaim.laidByTextAt_later rfl rfl tie noOwnUnsafe
end Go.Proofs.YtdgljnidkhfgpaaDoor
