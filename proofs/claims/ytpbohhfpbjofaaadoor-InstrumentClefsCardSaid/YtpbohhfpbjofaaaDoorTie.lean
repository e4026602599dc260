/-
  DERIVED. GIVEN WITH THE SEED: THE PROGRAM's TIES (one call each: nine closed facts by the kernel) AND EACH ROW's TIE, after the 31st guide's Derived/Test/Toyas{Tie, Card}.lean. No idea stands in it: it is a product of the set-up. Laid BY PROGRAM, IN A SANDBOX (cutbox-door.mjs). By AI agents, Wed Nov 11 2026. No macro, syntax, notation, axiom, sorry.
-/
import Derived.Test.YtpbohhfpbjofaaaDoorRows
import Derived.LaidByTextLater
import Derived.SevenTiedAt
import Derived.LaidSub
import Derived.LaidOnce
namespace Go.Proofs.YtpbohhfpbjofaaaDoor
open Go
set_option maxRecDepth 100000
theorem seatTie1 : Tryd.prog.laidByTextLater [("partbook/pitch.naturals", Rows.laid_partbook_pitch_naturals), ("partbook/key.sharps", Rows.laid_partbook_key_sharps)] [.data, .widerDeep] true :=
  Program.laidByTextLater_by_one 19 8 8 (by kernel_rfl) (by kernel_rfl) (by kernel_rfl) (by kernel_rfl) (by kernel_rfl) (by kernel_rfl) (fun _ _ => by kernel_rfl)
theorem noOwnUnsafe : Tryd.pinned.checked.prog.headLifts.contains "ownunsafe" = false := by kernel_rfl
theorem tie : Tryd.prog.laidByTextLater [("partbook/pitch.naturals", Rows.laid_partbook_pitch_naturals)] [.data] true :=
  Program.laidByTextLater.sub seatTie1 ["partbook/pitch.naturals"] (by kernel_rfl) (by kernel_rfl)
theorem instrumentMatchesReference_row_tie : Rows.instrumentMatchesReferenceRow.laidByTextAt .later Tryd.pinned [.data] true :=
  OpenClaim.laidByTextAt_later rfl rfl tie noOwnUnsafe
theorem instrumentBack_row_tie : Rows.instrumentBackRow.laidByTextAt .later Tryd.pinned [.data] true :=
  OpenClaim.laidByTextAt_later rfl rfl tie noOwnUnsafe
theorem instrumentKeys_row_tie : Rows.instrumentKeysRow.laidByTextAt .later Tryd.pinned [.data] true :=
  OpenClaim.laidByTextAt_later rfl rfl tie noOwnUnsafe
theorem instrumentFits_row_tie : Rows.instrumentFitsRow.laidByTextAt .later Tryd.pinned [.data] true :=
  OpenClaim.laidByTextAt_later rfl rfl tie noOwnUnsafe
theorem instrumentClefs_row_tie : Rows.instrumentClefsRow.laidByTextAt .later Tryd.pinned [.data] true :=
  OpenClaim.laidByTextAt_later rfl rfl tie noOwnUnsafe
theorem instrumentMoves_row_tie : Rows.instrumentMovesRow.laidByTextAt .later Tryd.pinned [.data] true :=
  OpenClaim.laidByTextAt_later rfl rfl tie noOwnUnsafe
theorem tie2 : Tryd.prog.laidByTextLater [("partbook/pitch.naturals", Rows.laid_partbook_pitch_naturals), ("partbook/key.sharps", Rows.laid_partbook_key_sharps)] [.data, .widerDeep] true :=
  Program.laidByTextLater.sub seatTie1 ["partbook/pitch.naturals", "partbook/key.sharps"] (by kernel_rfl) (by kernel_rfl)
theorem instrumentScale_row_tie : Rows.instrumentScaleRow.laidByTextAt .later Tryd.pinned [.data, .widerDeep] true :=
  OpenClaim.laidByTextAt_later rfl rfl tie2 noOwnUnsafe
theorem instrumentMatchesReferenceUpto_row_tie : Rows.instrumentMatchesReferenceUptoRow.laidByTextAt .later Tryd.pinned [.data] true :=
  OpenClaim.laidByTextAt_later rfl rfl tie noOwnUnsafe
theorem instrumentBackUpto_row_tie : Rows.instrumentBackUptoRow.laidByTextAt .later Tryd.pinned [.data] true :=
  OpenClaim.laidByTextAt_later rfl rfl tie noOwnUnsafe
theorem instrumentKeysUpto_row_tie : Rows.instrumentKeysUptoRow.laidByTextAt .later Tryd.pinned [.data] true :=
  OpenClaim.laidByTextAt_later rfl rfl tie noOwnUnsafe
theorem instrumentFitsUpto_row_tie : Rows.instrumentFitsUptoRow.laidByTextAt .later Tryd.pinned [.data] true :=
  OpenClaim.laidByTextAt_later rfl rfl tie noOwnUnsafe
theorem instrumentClefsUpto_row_tie : Rows.instrumentClefsUptoRow.laidByTextAt .later Tryd.pinned [.data] true :=
  OpenClaim.laidByTextAt_later rfl rfl tie noOwnUnsafe
theorem instrumentMovesUpto_row_tie : Rows.instrumentMovesUptoRow.laidByTextAt .later Tryd.pinned [.data] true :=
  OpenClaim.laidByTextAt_later rfl rfl tie noOwnUnsafe
theorem instrumentScaleUpto_row_tie : Rows.instrumentScaleUptoRow.laidByTextAt .later Tryd.pinned [.data, .widerDeep] true :=
  OpenClaim.laidByTextAt_later rfl rfl tie2 noOwnUnsafe
end Go.Proofs.YtpbohhfpbjofaaaDoor
