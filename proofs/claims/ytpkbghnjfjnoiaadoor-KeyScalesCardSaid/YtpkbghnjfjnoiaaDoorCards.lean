/-
  DERIVED. GIVEN WITH THE SEED: THE CARDS: each row of YtpkbghnjfjnoiaaDoorRows.lean that lists a variable, with what it lists TIED to the program's text (the seventh form; the later family's looks); each row that meets fmt, with fmt's text TOLD by the authors' own Lean function (tested against real Go, not proved from fmt's source: count such statements apart). THE CARD IS WHAT COUNTS. Prove the row's statement (the work); the ties are given (YtpkbghnjfjnoiaaDoorTie.lean); close each card by the builder's one call (the guide's Derived/Test/ToyasCard.lean, 'card_holds'). Laid BY PROGRAM, IN A SANDBOX (cutbox-door.mjs). By AI agents, Wed Nov 11 2026. No macro, syntax, notation, axiom, sorry.
-/
import Derived.Test.YtpkbghnjfjnoiaaDoorRows
import GoSem.ClaimSeven
namespace Go.Proofs.YtpkbghnjfjnoiaaDoor
namespace Rows

/-- THE TIED CARD OF 'partbooklaw03.KeyMatchesReference'. -/
def keyMatchesReferenceCard : Claim7 := { stood := { row := keyMatchesReferenceRow, standIns := [], harness := (true, "a6eb40b6e3a5aabde20ae0844d87add579ea35fc0820b595d773fc7012380601"), looks := false }, kinds := [], alts := [], laidByText := true, laidKinds := [.widerDeep], laidTests := true, laidLooks := .later }
def KeyMatchesReferenceCardSaid : Prop := Claim7.holds Tryd.pinned (.plain (OpenSpec.ofChange keyMatchesReferenceSpec)) keyMatchesReferenceCard

/-- THE TIED CARD OF 'partbooklaw03.KeyNext'. -/
def keyNextCard : Claim7 := { stood := { row := keyNextRow, standIns := [], harness := (true, "a6eb40b6e3a5aabde20ae0844d87add579ea35fc0820b595d773fc7012380601"), looks := false }, kinds := [], alts := [], laidByText := true, laidKinds := [.widerDeep], laidTests := true, laidLooks := .later }
def KeyNextCardSaid : Prop := Claim7.holds Tryd.pinned (.plain (OpenSpec.ofChange keyNextSpec)) keyNextCard

/-- THE TIED CARD OF 'partbooklaw03.KeyMoves'. -/
def keyMovesCard : Claim7 := { stood := { row := keyMovesRow, standIns := [], harness := (true, "a6eb40b6e3a5aabde20ae0844d87add579ea35fc0820b595d773fc7012380601"), looks := false }, kinds := [], alts := [], laidByText := true, laidKinds := [.widerDeep], laidTests := true, laidLooks := .later }
def KeyMovesCardSaid : Prop := Claim7.holds Tryd.pinned (.plain (OpenSpec.ofChange keyMovesSpec)) keyMovesCard

/-- THE TIED CARD OF 'partbooklaw03.KeyReads'. -/
def keyReadsCard : Claim7 := { stood := { row := keyReadsRow, standIns := [], harness := (true, "a6eb40b6e3a5aabde20ae0844d87add579ea35fc0820b595d773fc7012380601"), looks := false }, kinds := [], alts := [], laidByText := true, laidKinds := [.widerDeep], laidTests := true, laidLooks := .later }
def KeyReadsCardSaid : Prop := Claim7.holds Tryd.pinned (.plain (OpenSpec.ofChange keyReadsSpec)) keyReadsCard

/-- THE TIED CARD OF 'partbooklaw03.KeyAdds'. -/
def keyAddsCard : Claim7 := { stood := { row := keyAddsRow, standIns := [], harness := (true, "a6eb40b6e3a5aabde20ae0844d87add579ea35fc0820b595d773fc7012380601"), looks := false }, kinds := [], alts := [], laidByText := true, laidKinds := [.widerDeep], laidTests := true, laidLooks := .later }
def KeyAddsCardSaid : Prop := Claim7.holds Tryd.pinned (.plain (OpenSpec.ofChange keyAddsSpec)) keyAddsCard

/-- THE TIED CARD OF 'partbooklaw03.KeyScales'. -/
def keyScalesCard : Claim7 := { stood := { row := keyScalesRow, standIns := [], harness := (true, "a6eb40b6e3a5aabde20ae0844d87add579ea35fc0820b595d773fc7012380601"), looks := false }, kinds := [], alts := [], laidByText := true, laidKinds := [.data, .widerDeep], laidTests := true, laidLooks := .later }
def KeyScalesCardSaid : Prop := Claim7.holds Tryd.pinned (.plain (OpenSpec.ofChange keyScalesSpec)) keyScalesCard

/-- THE SECOND FORM's CARD OF 'partbooklaw03.KeyMatchesReference'. -/
def keyMatchesReferenceUptoCard : Claim7 := { stood := { row := keyMatchesReferenceUptoRow, standIns := [], harness := (true, "a6eb40b6e3a5aabde20ae0844d87add579ea35fc0820b595d773fc7012380601"), looks := false }, kinds := [], alts := [], laidByText := true, laidKinds := [.widerDeep], laidTests := true, laidLooks := .later }
def KeyMatchesReferenceUptoCardSaid : Prop := Claim7.holds Tryd.pinned (.plain (OpenSpec.upto keyMatchesReferenceSpec)) keyMatchesReferenceUptoCard

/-- THE SECOND FORM's CARD OF 'partbooklaw03.KeyNext'. -/
def keyNextUptoCard : Claim7 := { stood := { row := keyNextUptoRow, standIns := [], harness := (true, "a6eb40b6e3a5aabde20ae0844d87add579ea35fc0820b595d773fc7012380601"), looks := false }, kinds := [], alts := [], laidByText := true, laidKinds := [.widerDeep], laidTests := true, laidLooks := .later }
def KeyNextUptoCardSaid : Prop := Claim7.holds Tryd.pinned (.plain (OpenSpec.upto keyNextSpec)) keyNextUptoCard

/-- THE SECOND FORM's CARD OF 'partbooklaw03.KeyMoves'. -/
def keyMovesUptoCard : Claim7 := { stood := { row := keyMovesUptoRow, standIns := [], harness := (true, "a6eb40b6e3a5aabde20ae0844d87add579ea35fc0820b595d773fc7012380601"), looks := false }, kinds := [], alts := [], laidByText := true, laidKinds := [.widerDeep], laidTests := true, laidLooks := .later }
def KeyMovesUptoCardSaid : Prop := Claim7.holds Tryd.pinned (.plain (OpenSpec.upto keyMovesSpec)) keyMovesUptoCard

/-- THE SECOND FORM's CARD OF 'partbooklaw03.KeyReads'. -/
def keyReadsUptoCard : Claim7 := { stood := { row := keyReadsUptoRow, standIns := [], harness := (true, "a6eb40b6e3a5aabde20ae0844d87add579ea35fc0820b595d773fc7012380601"), looks := false }, kinds := [], alts := [], laidByText := true, laidKinds := [.widerDeep], laidTests := true, laidLooks := .later }
def KeyReadsUptoCardSaid : Prop := Claim7.holds Tryd.pinned (.plain (OpenSpec.upto keyReadsSpec)) keyReadsUptoCard

/-- THE SECOND FORM's CARD OF 'partbooklaw03.KeyAdds'. -/
def keyAddsUptoCard : Claim7 := { stood := { row := keyAddsUptoRow, standIns := [], harness := (true, "a6eb40b6e3a5aabde20ae0844d87add579ea35fc0820b595d773fc7012380601"), looks := false }, kinds := [], alts := [], laidByText := true, laidKinds := [.widerDeep], laidTests := true, laidLooks := .later }
def KeyAddsUptoCardSaid : Prop := Claim7.holds Tryd.pinned (.plain (OpenSpec.upto keyAddsSpec)) keyAddsUptoCard

/-- THE SECOND FORM's CARD OF 'partbooklaw03.KeyScales'. -/
def keyScalesUptoCard : Claim7 := { stood := { row := keyScalesUptoRow, standIns := [], harness := (true, "a6eb40b6e3a5aabde20ae0844d87add579ea35fc0820b595d773fc7012380601"), looks := false }, kinds := [], alts := [], laidByText := true, laidKinds := [.data, .widerDeep], laidTests := true, laidLooks := .later }
def KeyScalesUptoCardSaid : Prop := Claim7.holds Tryd.pinned (.plain (OpenSpec.upto keyScalesSpec)) keyScalesUptoCard
end Rows
end Go.Proofs.YtpkbghnjfjnoiaaDoor
