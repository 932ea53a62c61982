/-
  DERIVED. GIVEN WITH THE SEED: THE PROGRAM's TIES (one call each: nine closed facts by the kernel) AND EACH ROW's TIE, after the 31st guide's Derived/Test/Toyas{Tie, Card}.lean. No idea stands in it: it is a product of the set-up. Laid BY PROGRAM, IN A SANDBOX (cutbox-door.mjs). By AI agents, Wed Nov 11 2026. No macro, syntax, notation, axiom, sorry.
-/
import Derived.Test.YtmofiicjaldmiaaGreatDoorRows
import Derived.LaidByTextLater
import Derived.SevenTiedAt
import Derived.LaidSub
import Derived.LaidOnce
namespace Go.Proofs.YtmofiicjaldmiaaGreatDoor
open Go
set_option maxRecDepth 100000
theorem seatTie1 : Tryz.prog.laidByTextLater [("errors.errorType", Rows.laid_errors_errorType), ("arcade/saves.errBroken", Rows.laid_arcade_saves_errBroken)] [.handle, .sentinel] true :=
  Program.laidByTextLater_by_one 35 8 2 (by kernel_rfl) (by kernel_rfl) (by kernel_rfl) (by kernel_rfl) (by kernel_rfl) (by kernel_rfl) (fun _ _ => by kernel_rfl)
theorem noOwnUnsafe : Tryz.pinned.checked.prog.headLifts.contains "ownunsafe" = false := by kernel_rfl
theorem tie : Tryz.prog.laidByTextLater [("errors.errorType", Rows.laid_errors_errorType), ("arcade/saves.errBroken", Rows.laid_arcade_saves_errBroken)] [.handle, .sentinel] true :=
  Program.laidByTextLater.sub seatTie1 ["errors.errorType", "arcade/saves.errBroken"] (by kernel_rfl) (by kernel_rfl)
theorem savesApart_row_tie : Rows.savesApartRow.laidByTextAt .later Tryz.pinned [.handle, .sentinel] true :=
  OpenClaim.laidByTextAt_later rfl rfl tie noOwnUnsafe
theorem savesAgain_row_tie : Rows.savesAgainRow.laidByTextAt .later Tryz.pinned [.handle, .sentinel] true :=
  OpenClaim.laidByTextAt_later rfl rfl tie noOwnUnsafe
theorem savesRoom_row_tie : Rows.savesRoomRow.laidByTextAt .later Tryz.pinned [.handle, .sentinel] true :=
  OpenClaim.laidByTextAt_later rfl rfl tie noOwnUnsafe
theorem savesCounted_row_tie : Rows.savesCountedRow.laidByTextAt .later Tryz.pinned [.handle, .sentinel] true :=
  OpenClaim.laidByTextAt_later rfl rfl tie noOwnUnsafe
theorem savesQuiet_row_tie : Rows.savesQuietRow.laidByTextAt .later Tryz.pinned [.handle, .sentinel] true :=
  OpenClaim.laidByTextAt_later rfl rfl tie noOwnUnsafe
theorem savesStrewn_row_tie : Rows.savesStrewnRow.laidByTextAt .later Tryz.pinned [.handle, .sentinel] true :=
  OpenClaim.laidByTextAt_later rfl rfl tie noOwnUnsafe
theorem savesKept_row_tie : Rows.savesKeptRow.laidByTextAt .later Tryz.pinned [.handle, .sentinel] true :=
  OpenClaim.laidByTextAt_later rfl rfl tie noOwnUnsafe
theorem savesCrash_row_tie : Rows.savesCrashRow.laidByTextAt .later Tryz.pinned [.handle, .sentinel] true :=
  OpenClaim.laidByTextAt_later rfl rfl tie noOwnUnsafe
theorem savesRuns_row_tie : Rows.savesRunsRow.laidByTextAt .later Tryz.pinned [.handle, .sentinel] true :=
  OpenClaim.laidByTextAt_later rfl rfl tie noOwnUnsafe
theorem savesAll_row_tie : Rows.savesAllRow.laidByTextAt .later Tryz.pinned [.handle, .sentinel] true :=
  OpenClaim.laidByTextAt_later rfl rfl tie noOwnUnsafe
theorem savesOpens_row_tie : Rows.savesOpensRow.laidByTextAt .later Tryz.pinned [.handle, .sentinel] true :=
  OpenClaim.laidByTextAt_later rfl rfl tie noOwnUnsafe
theorem savesApartUpto_row_tie : Rows.savesApartUptoRow.laidByTextAt .later Tryz.pinned [.handle, .sentinel] true :=
  OpenClaim.laidByTextAt_later rfl rfl tie noOwnUnsafe
theorem savesAgainUpto_row_tie : Rows.savesAgainUptoRow.laidByTextAt .later Tryz.pinned [.handle, .sentinel] true :=
  OpenClaim.laidByTextAt_later rfl rfl tie noOwnUnsafe
theorem savesRoomUpto_row_tie : Rows.savesRoomUptoRow.laidByTextAt .later Tryz.pinned [.handle, .sentinel] true :=
  OpenClaim.laidByTextAt_later rfl rfl tie noOwnUnsafe
theorem savesCountedUpto_row_tie : Rows.savesCountedUptoRow.laidByTextAt .later Tryz.pinned [.handle, .sentinel] true :=
  OpenClaim.laidByTextAt_later rfl rfl tie noOwnUnsafe
theorem savesQuietUpto_row_tie : Rows.savesQuietUptoRow.laidByTextAt .later Tryz.pinned [.handle, .sentinel] true :=
  OpenClaim.laidByTextAt_later rfl rfl tie noOwnUnsafe
theorem savesStrewnUpto_row_tie : Rows.savesStrewnUptoRow.laidByTextAt .later Tryz.pinned [.handle, .sentinel] true :=
  OpenClaim.laidByTextAt_later rfl rfl tie noOwnUnsafe
theorem savesKeptUpto_row_tie : Rows.savesKeptUptoRow.laidByTextAt .later Tryz.pinned [.handle, .sentinel] true :=
  OpenClaim.laidByTextAt_later rfl rfl tie noOwnUnsafe
theorem savesCrashUpto_row_tie : Rows.savesCrashUptoRow.laidByTextAt .later Tryz.pinned [.handle, .sentinel] true :=
  OpenClaim.laidByTextAt_later rfl rfl tie noOwnUnsafe
theorem savesRunsUpto_row_tie : Rows.savesRunsUptoRow.laidByTextAt .later Tryz.pinned [.handle, .sentinel] true :=
  OpenClaim.laidByTextAt_later rfl rfl tie noOwnUnsafe
theorem savesAllUpto_row_tie : Rows.savesAllUptoRow.laidByTextAt .later Tryz.pinned [.handle, .sentinel] true :=
  OpenClaim.laidByTextAt_later rfl rfl tie noOwnUnsafe
theorem savesOpensUpto_row_tie : Rows.savesOpensUptoRow.laidByTextAt .later Tryz.pinned [.handle, .sentinel] true :=
  OpenClaim.laidByTextAt_later rfl rfl tie noOwnUnsafe
end Go.Proofs.YtmofiicjaldmiaaGreatDoor
