/-
  DERIVED. GIVEN WITH THE SEED: THE CARDS: each row of YtpbohhfpbjofaaaDoorRows.lean that lists a variable, with what it lists TIED to the program's text (the seventh form; the later family's looks); each row that meets fmt, with fmt's text TOLD by the authors' own Lean function (tested against real Go, not proved from fmt's source: count such statements apart). THE CARD IS WHAT COUNTS. Prove the row's statement (the work); the ties are given (YtpbohhfpbjofaaaDoorTie.lean); close each card by the builder's one call (the guide's Derived/Test/ToyasCard.lean, 'card_holds'). Laid BY PROGRAM, IN A SANDBOX (cutbox-door.mjs). By AI agents, Wed Nov 11 2026. No macro, syntax, notation, axiom, sorry.
-/
import Derived.Test.YtpbohhfpbjofaaaDoorRows
import GoSem.ClaimSeven
namespace Go.Proofs.YtpbohhfpbjofaaaDoor
namespace Rows

/-- THE TIED CARD OF 'partbooklaw13.InstrumentMatchesReference'. -/
def instrumentMatchesReferenceCard : Claim7 := { stood := { row := instrumentMatchesReferenceRow, standIns := [], harness := (true, "19689292bf0540093b6932ef81374c213f8e5d873c309d71f8f410faed3d5643"), looks := false }, kinds := [], alts := [], laidByText := true, laidKinds := [.data], laidTests := true, laidLooks := .later }
def InstrumentMatchesReferenceCardSaid : Prop := Claim7.holds Tryd.pinned (.plain (OpenSpec.ofChange instrumentMatchesReferenceSpec)) instrumentMatchesReferenceCard

/-- THE TIED CARD OF 'partbooklaw13.InstrumentBack'. -/
def instrumentBackCard : Claim7 := { stood := { row := instrumentBackRow, standIns := [], harness := (true, "19689292bf0540093b6932ef81374c213f8e5d873c309d71f8f410faed3d5643"), looks := false }, kinds := [], alts := [], laidByText := true, laidKinds := [.data], laidTests := true, laidLooks := .later }
def InstrumentBackCardSaid : Prop := Claim7.holds Tryd.pinned (.plain (OpenSpec.ofChange instrumentBackSpec)) instrumentBackCard

/-- THE TIED CARD OF 'partbooklaw13.InstrumentKeys'. -/
def instrumentKeysCard : Claim7 := { stood := { row := instrumentKeysRow, standIns := [], harness := (true, "19689292bf0540093b6932ef81374c213f8e5d873c309d71f8f410faed3d5643"), looks := false }, kinds := [], alts := [], laidByText := true, laidKinds := [.data], laidTests := true, laidLooks := .later }
def InstrumentKeysCardSaid : Prop := Claim7.holds Tryd.pinned (.plain (OpenSpec.ofChange instrumentKeysSpec)) instrumentKeysCard

/-- THE TIED CARD OF 'partbooklaw13.InstrumentFits'. -/
def instrumentFitsCard : Claim7 := { stood := { row := instrumentFitsRow, standIns := [], harness := (true, "19689292bf0540093b6932ef81374c213f8e5d873c309d71f8f410faed3d5643"), looks := false }, kinds := [], alts := [], laidByText := true, laidKinds := [.data], laidTests := true, laidLooks := .later }
def InstrumentFitsCardSaid : Prop := Claim7.holds Tryd.pinned (.plain (OpenSpec.ofChange instrumentFitsSpec)) instrumentFitsCard

/-- THE TIED CARD OF 'partbooklaw13.InstrumentClefs'. -/
def instrumentClefsCard : Claim7 := { stood := { row := instrumentClefsRow, standIns := [], harness := (true, "19689292bf0540093b6932ef81374c213f8e5d873c309d71f8f410faed3d5643"), looks := false }, kinds := [], alts := [], laidByText := true, laidKinds := [.data], laidTests := true, laidLooks := .later }
def InstrumentClefsCardSaid : Prop := Claim7.holds Tryd.pinned (.plain (OpenSpec.ofChange instrumentClefsSpec)) instrumentClefsCard

/-- THE TIED CARD OF 'partbooklaw13.InstrumentMoves'. -/
def instrumentMovesCard : Claim7 := { stood := { row := instrumentMovesRow, standIns := [], harness := (true, "19689292bf0540093b6932ef81374c213f8e5d873c309d71f8f410faed3d5643"), looks := false }, kinds := [], alts := [], laidByText := true, laidKinds := [.data], laidTests := true, laidLooks := .later }
def InstrumentMovesCardSaid : Prop := Claim7.holds Tryd.pinned (.plain (OpenSpec.ofChange instrumentMovesSpec)) instrumentMovesCard

/-- THE TIED CARD OF 'partbooklaw13.InstrumentScale'. -/
def instrumentScaleCard : Claim7 := { stood := { row := instrumentScaleRow, standIns := [], harness := (true, "19689292bf0540093b6932ef81374c213f8e5d873c309d71f8f410faed3d5643"), looks := false }, kinds := [], alts := [], laidByText := true, laidKinds := [.data, .widerDeep], laidTests := true, laidLooks := .later }
def InstrumentScaleCardSaid : Prop := Claim7.holds Tryd.pinned (.plain (OpenSpec.ofChange instrumentScaleSpec)) instrumentScaleCard

/-- THE SECOND FORM's CARD OF 'partbooklaw13.InstrumentMatchesReference'. -/
def instrumentMatchesReferenceUptoCard : Claim7 := { stood := { row := instrumentMatchesReferenceUptoRow, standIns := [], harness := (true, "19689292bf0540093b6932ef81374c213f8e5d873c309d71f8f410faed3d5643"), looks := false }, kinds := [], alts := [], laidByText := true, laidKinds := [.data], laidTests := true, laidLooks := .later }
def InstrumentMatchesReferenceUptoCardSaid : Prop := Claim7.holds Tryd.pinned (.plain (OpenSpec.upto instrumentMatchesReferenceSpec)) instrumentMatchesReferenceUptoCard

/-- THE SECOND FORM's CARD OF 'partbooklaw13.InstrumentBack'. -/
def instrumentBackUptoCard : Claim7 := { stood := { row := instrumentBackUptoRow, standIns := [], harness := (true, "19689292bf0540093b6932ef81374c213f8e5d873c309d71f8f410faed3d5643"), looks := false }, kinds := [], alts := [], laidByText := true, laidKinds := [.data], laidTests := true, laidLooks := .later }
def InstrumentBackUptoCardSaid : Prop := Claim7.holds Tryd.pinned (.plain (OpenSpec.upto instrumentBackSpec)) instrumentBackUptoCard

/-- THE SECOND FORM's CARD OF 'partbooklaw13.InstrumentKeys'. -/
def instrumentKeysUptoCard : Claim7 := { stood := { row := instrumentKeysUptoRow, standIns := [], harness := (true, "19689292bf0540093b6932ef81374c213f8e5d873c309d71f8f410faed3d5643"), looks := false }, kinds := [], alts := [], laidByText := true, laidKinds := [.data], laidTests := true, laidLooks := .later }
def InstrumentKeysUptoCardSaid : Prop := Claim7.holds Tryd.pinned (.plain (OpenSpec.upto instrumentKeysSpec)) instrumentKeysUptoCard

/-- THE SECOND FORM's CARD OF 'partbooklaw13.InstrumentFits'. -/
def instrumentFitsUptoCard : Claim7 := { stood := { row := instrumentFitsUptoRow, standIns := [], harness := (true, "19689292bf0540093b6932ef81374c213f8e5d873c309d71f8f410faed3d5643"), looks := false }, kinds := [], alts := [], laidByText := true, laidKinds := [.data], laidTests := true, laidLooks := .later }
def InstrumentFitsUptoCardSaid : Prop := Claim7.holds Tryd.pinned (.plain (OpenSpec.upto instrumentFitsSpec)) instrumentFitsUptoCard

/-- THE SECOND FORM's CARD OF 'partbooklaw13.InstrumentClefs'. -/
def instrumentClefsUptoCard : Claim7 := { stood := { row := instrumentClefsUptoRow, standIns := [], harness := (true, "19689292bf0540093b6932ef81374c213f8e5d873c309d71f8f410faed3d5643"), looks := false }, kinds := [], alts := [], laidByText := true, laidKinds := [.data], laidTests := true, laidLooks := .later }
def InstrumentClefsUptoCardSaid : Prop := Claim7.holds Tryd.pinned (.plain (OpenSpec.upto instrumentClefsSpec)) instrumentClefsUptoCard

/-- THE SECOND FORM's CARD OF 'partbooklaw13.InstrumentMoves'. -/
def instrumentMovesUptoCard : Claim7 := { stood := { row := instrumentMovesUptoRow, standIns := [], harness := (true, "19689292bf0540093b6932ef81374c213f8e5d873c309d71f8f410faed3d5643"), looks := false }, kinds := [], alts := [], laidByText := true, laidKinds := [.data], laidTests := true, laidLooks := .later }
def InstrumentMovesUptoCardSaid : Prop := Claim7.holds Tryd.pinned (.plain (OpenSpec.upto instrumentMovesSpec)) instrumentMovesUptoCard

/-- THE SECOND FORM's CARD OF 'partbooklaw13.InstrumentScale'. -/
def instrumentScaleUptoCard : Claim7 := { stood := { row := instrumentScaleUptoRow, standIns := [], harness := (true, "19689292bf0540093b6932ef81374c213f8e5d873c309d71f8f410faed3d5643"), looks := false }, kinds := [], alts := [], laidByText := true, laidKinds := [.data, .widerDeep], laidTests := true, laidLooks := .later }
def InstrumentScaleUptoCardSaid : Prop := Claim7.holds Tryd.pinned (.plain (OpenSpec.upto instrumentScaleSpec)) instrumentScaleUptoCard
end Rows
end Go.Proofs.YtpbohhfpbjofaaaDoor
