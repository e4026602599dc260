/-
  NARROWER THAN 'FOR EVERY INPUT', by the rows' own cells (each row's printed sentence says how): InstrumentMatchesReference: laid · InstrumentBack: laid · InstrumentKeys: laid · InstrumentFits: laid · InstrumentClefs: laid · InstrumentMoves: laid · InstrumentScale: laid.
  DERIVED. THE GIVEN ROWS OF THIS SEAT. 7 by the template 'for every input the law returns true; each argument reads behind the call as it read before'; 0 by the template 'total and deterministic' (their statements: YtpbohhfpbjofaaaDoorTotals.lean).
  GIVEN WITH THE SEED: the statements are not yours to turn. If you find one false, say at which input.
  Laid BY PROGRAM, IN A SANDBOX (cutbox-rows.mjs): the forced cells as the released guide's own fill.sh prints them over the translation eeb29cb28f9aea17… (all of the seat's roots in one cut). By AI agents, Wed Nov 11 2026. No macro, syntax, notation, axiom, sorry.
-/
import Derived.Test.YtpbohhfpbjofaaaDoorChecked
import GoSem.Claim
import GoSem.ClaimJoined
import GoSem.ClaimMapViews
import Derived.JoinedTies
import Derived.KernelRfl
namespace Go.Proofs.YtpbohhfpbjofaaaDoor
/- THE CELL 'sum', in the pinned program and in every row, IS THE sha256 OF THE DUMP (.gsa) THAT YtpbohhfpbjofaaaDoorProg.lean LOADS. Nothing in Lean hashes anything: it is a label: what it is worth is what the hold of that sum in a sandbox is worth. -/
noncomputable def Tryd.pinned : Pinned := { name := "ytpbohhfpbjofaaadoor", sum := "eeb29cb28f9aea17d7886e649bd17e0aef80384b973a5c6cc3414b66f82f5fea", checked := Tryd.checked }
namespace Rows
def none {H : Type} : Left H := { results := [], args := [] }

/- WHAT THE LISTED PACKAGE-LEVEL VARIABLES READ AS WHEN THE CALL BEGINS. Each datum BY PROGRAM (the guide's laid-datum.mjs) off the statement by which the dump's own 'gosem.cut.vars' lays the variable. In a bare row this is a premise. The card (YtpbohhfpbjofaaaDoorCards.lean) ties it to the program's text. -/
def laid_partbook_pitch_naturals {H : Type} : DataW H := .agg [.lit (.int .i64 0), .lit (.int .i64 2), .lit (.int .i64 4), .lit (.int .i64 5), .lit (.int .i64 7), .lit (.int .i64 9), .lit (.int .i64 11)]
def laid_partbook_key_sharps {H : Type} : DataW H := .agg [.lit (.int .i64 3), .lit (.int .i64 0), .lit (.int .i64 4), .lit (.int .i64 1), .lit (.int .i64 5), .lit (.int .i64 2), .lit (.int .i64 6)]

/-- 'partbooklaw13.InstrumentMatchesReference': WHATEVER THE INPUT: true; the input reads as it did. -/
def instrumentMatchesReferenceSpec : ChangeSpec := { name := "instrumentMatchesReference", fn := fun _ => fun
  | [d1, d2, d3, d4] => { results := [.lit (.bool true)], args := [d1, d2, d3, d4] }
  | _ => none }
def instrumentMatchesReferenceRow : OpenClaim := { program := "ytpbohhfpbjofaaadoor", sum := "eeb29cb28f9aea17d7886e649bd17e0aef80384b973a5c6cc3414b66f82f5fea", func := "partbook/partbooklaw13.InstrumentMatchesReference", spec := "instrumentMatchesReference", unfollowed := true, recurses := true, named := ["partbook/pitch.naturals"], apart := false, laid := [("partbook/pitch.naturals", laid_partbook_pitch_naturals)] }
def InstrumentMatchesReferenceSaid : Prop := instrumentMatchesReferenceRow.holds Tryd.pinned (OpenSpec.ofChange instrumentMatchesReferenceSpec)

/-- ITS FALSE NEIGHBOUR: 'it returns false'. Refute it at one input. -/
def instrumentMatchesReferenceWrong : ChangeSpec := { name := "instrumentMatchesReference", fn := fun _ => fun
  | [d1, d2, d3, d4] => { results := [.lit (.bool false)], args := [d1, d2, d3, d4] }
  | _ => none }
def InstrumentMatchesReferenceWrongFalsely : Prop := instrumentMatchesReferenceRow.holds Tryd.pinned (OpenSpec.ofChange instrumentMatchesReferenceWrong)

/-- 'partbooklaw13.InstrumentBack': WHATEVER THE INPUT: true; the input reads as it did. -/
def instrumentBackSpec : ChangeSpec := { name := "instrumentBack", fn := fun _ => fun
  | [d1, d2, d3, d4] => { results := [.lit (.bool true)], args := [d1, d2, d3, d4] }
  | _ => none }
def instrumentBackRow : OpenClaim := { program := "ytpbohhfpbjofaaadoor", sum := "eeb29cb28f9aea17d7886e649bd17e0aef80384b973a5c6cc3414b66f82f5fea", func := "partbook/partbooklaw13.InstrumentBack", spec := "instrumentBack", unfollowed := true, recurses := true, named := ["partbook/pitch.naturals"], apart := false, laid := [("partbook/pitch.naturals", laid_partbook_pitch_naturals)] }
def InstrumentBackSaid : Prop := instrumentBackRow.holds Tryd.pinned (OpenSpec.ofChange instrumentBackSpec)

/-- ITS FALSE NEIGHBOUR: 'it returns false'. Refute it at one input. -/
def instrumentBackWrong : ChangeSpec := { name := "instrumentBack", fn := fun _ => fun
  | [d1, d2, d3, d4] => { results := [.lit (.bool false)], args := [d1, d2, d3, d4] }
  | _ => none }
def InstrumentBackWrongFalsely : Prop := instrumentBackRow.holds Tryd.pinned (OpenSpec.ofChange instrumentBackWrong)

/-- 'partbooklaw13.InstrumentKeys': WHATEVER THE INPUT: true; the input reads as it did. -/
def instrumentKeysSpec : ChangeSpec := { name := "instrumentKeys", fn := fun _ => fun
  | [d1, d2, d3] => { results := [.lit (.bool true)], args := [d1, d2, d3] }
  | _ => none }
def instrumentKeysRow : OpenClaim := { program := "ytpbohhfpbjofaaadoor", sum := "eeb29cb28f9aea17d7886e649bd17e0aef80384b973a5c6cc3414b66f82f5fea", func := "partbook/partbooklaw13.InstrumentKeys", spec := "instrumentKeys", unfollowed := true, recurses := true, named := ["partbook/pitch.naturals"], apart := false, laid := [("partbook/pitch.naturals", laid_partbook_pitch_naturals)] }
def InstrumentKeysSaid : Prop := instrumentKeysRow.holds Tryd.pinned (OpenSpec.ofChange instrumentKeysSpec)

/-- ITS FALSE NEIGHBOUR: 'it returns false'. Refute it at one input. -/
def instrumentKeysWrong : ChangeSpec := { name := "instrumentKeys", fn := fun _ => fun
  | [d1, d2, d3] => { results := [.lit (.bool false)], args := [d1, d2, d3] }
  | _ => none }
def InstrumentKeysWrongFalsely : Prop := instrumentKeysRow.holds Tryd.pinned (OpenSpec.ofChange instrumentKeysWrong)

/-- 'partbooklaw13.InstrumentFits': WHATEVER THE INPUT: true; the input reads as it did. -/
def instrumentFitsSpec : ChangeSpec := { name := "instrumentFits", fn := fun _ => fun
  | [d1, d2, d3, d4] => { results := [.lit (.bool true)], args := [d1, d2, d3, d4] }
  | _ => none }
def instrumentFitsRow : OpenClaim := { program := "ytpbohhfpbjofaaadoor", sum := "eeb29cb28f9aea17d7886e649bd17e0aef80384b973a5c6cc3414b66f82f5fea", func := "partbook/partbooklaw13.InstrumentFits", spec := "instrumentFits", unfollowed := true, recurses := true, named := ["partbook/pitch.naturals"], apart := false, laid := [("partbook/pitch.naturals", laid_partbook_pitch_naturals)] }
def InstrumentFitsSaid : Prop := instrumentFitsRow.holds Tryd.pinned (OpenSpec.ofChange instrumentFitsSpec)

/-- ITS FALSE NEIGHBOUR: 'it returns false'. Refute it at one input. -/
def instrumentFitsWrong : ChangeSpec := { name := "instrumentFits", fn := fun _ => fun
  | [d1, d2, d3, d4] => { results := [.lit (.bool false)], args := [d1, d2, d3, d4] }
  | _ => none }
def InstrumentFitsWrongFalsely : Prop := instrumentFitsRow.holds Tryd.pinned (OpenSpec.ofChange instrumentFitsWrong)

/-- 'partbooklaw13.InstrumentClefs': WHATEVER THE INPUT: true; the input reads as it did. -/
def instrumentClefsSpec : ChangeSpec := { name := "instrumentClefs", fn := fun _ => fun
  | [d1, d2] => { results := [.lit (.bool true)], args := [d1, d2] }
  | _ => none }
def instrumentClefsRow : OpenClaim := { program := "ytpbohhfpbjofaaadoor", sum := "eeb29cb28f9aea17d7886e649bd17e0aef80384b973a5c6cc3414b66f82f5fea", func := "partbook/partbooklaw13.InstrumentClefs", spec := "instrumentClefs", unfollowed := true, recurses := true, named := ["partbook/pitch.naturals"], apart := false, laid := [("partbook/pitch.naturals", laid_partbook_pitch_naturals)] }
def InstrumentClefsSaid : Prop := instrumentClefsRow.holds Tryd.pinned (OpenSpec.ofChange instrumentClefsSpec)

/-- ITS FALSE NEIGHBOUR: 'it returns false'. Refute it at one input. -/
def instrumentClefsWrong : ChangeSpec := { name := "instrumentClefs", fn := fun _ => fun
  | [d1, d2] => { results := [.lit (.bool false)], args := [d1, d2] }
  | _ => none }
def InstrumentClefsWrongFalsely : Prop := instrumentClefsRow.holds Tryd.pinned (OpenSpec.ofChange instrumentClefsWrong)

/-- 'partbooklaw13.InstrumentMoves': WHATEVER THE INPUT: true; the input reads as it did. -/
def instrumentMovesSpec : ChangeSpec := { name := "instrumentMoves", fn := fun _ => fun
  | [d1, d2, d3, d4] => { results := [.lit (.bool true)], args := [d1, d2, d3, d4] }
  | _ => none }
def instrumentMovesRow : OpenClaim := { program := "ytpbohhfpbjofaaadoor", sum := "eeb29cb28f9aea17d7886e649bd17e0aef80384b973a5c6cc3414b66f82f5fea", func := "partbook/partbooklaw13.InstrumentMoves", spec := "instrumentMoves", unfollowed := true, recurses := true, named := ["partbook/pitch.naturals"], apart := false, laid := [("partbook/pitch.naturals", laid_partbook_pitch_naturals)] }
def InstrumentMovesSaid : Prop := instrumentMovesRow.holds Tryd.pinned (OpenSpec.ofChange instrumentMovesSpec)

/-- ITS FALSE NEIGHBOUR: 'it returns false'. Refute it at one input. -/
def instrumentMovesWrong : ChangeSpec := { name := "instrumentMoves", fn := fun _ => fun
  | [d1, d2, d3, d4] => { results := [.lit (.bool false)], args := [d1, d2, d3, d4] }
  | _ => none }
def InstrumentMovesWrongFalsely : Prop := instrumentMovesRow.holds Tryd.pinned (OpenSpec.ofChange instrumentMovesWrong)

/-- 'partbooklaw13.InstrumentScale': WHATEVER THE INPUT: true; the input reads as it did. -/
def instrumentScaleSpec : ChangeSpec := { name := "instrumentScale", fn := fun _ => fun
  | [d1, d2, d3, d4] => { results := [.lit (.bool true)], args := [d1, d2, d3, d4] }
  | _ => none }
def instrumentScaleRow : OpenClaim := { program := "ytpbohhfpbjofaaadoor", sum := "eeb29cb28f9aea17d7886e649bd17e0aef80384b973a5c6cc3414b66f82f5fea", func := "partbook/partbooklaw13.InstrumentScale", spec := "instrumentScale", unfollowed := true, recurses := true, named := ["partbook/pitch.naturals", "partbook/key.sharps"], apart := false, laid := [("partbook/pitch.naturals", laid_partbook_pitch_naturals), ("partbook/key.sharps", laid_partbook_key_sharps)] }
def InstrumentScaleSaid : Prop := instrumentScaleRow.holds Tryd.pinned (OpenSpec.ofChange instrumentScaleSpec)

/-- ITS FALSE NEIGHBOUR: 'it returns false'. Refute it at one input. -/
def instrumentScaleWrong : ChangeSpec := { name := "instrumentScale", fn := fun _ => fun
  | [d1, d2, d3, d4] => { results := [.lit (.bool false)], args := [d1, d2, d3, d4] }
  | _ => none }
def InstrumentScaleWrongFalsely : Prop := instrumentScaleRow.holds Tryd.pinned (OpenSpec.ofChange instrumentScaleWrong)

/- THE SECOND FORM. 'bulk': how many values and letters a reading holds, each counted each time it is reached (what is shared counts as often as it is met; a slice's spare places count too). A statement '..UptoSaid' is the law's where the arguments, and the package variables that the reading takes, are together of bulk at most 1048576: NARROWER than '..Said'. Prove '..Said' where nothing that the law and all that it calls make is longer than what came in: it says more and counts as full. Else prove '..UptoSaid'. A law counts once. -/
mutual
def uptoBulk {H : Type} : DataW H → Nat
  | .lit (.string bytes) => bytes.length + 1
  | .lit _ => 1
  | .nil => 1
  | .ptr d => uptoBulk d + 1
  | .slice elems spare => uptoBulkAll elems + uptoBulkAll spare + 1
  | .agg parts => uptoBulkAll parts + 1
  | .iface _ d => uptoBulk d + 1
  | .map entries => uptoBulkEntries entries + 1
  | .held _ => 1
def uptoBulkAll {H : Type} : List (DataW H) → Nat
  | [] => 0
  | d :: r => uptoBulk d + uptoBulkAll r
def uptoBulkEntries {H : Type} : List (Lit × DataW H) → Nat
  | [] => 0
  | x :: r => uptoBulkEntry x + uptoBulkEntries r
def uptoBulkEntry {H : Type} : Lit × DataW H → Nat
  | (.string bytes, d) => bytes.length + uptoBulk d + 1
  | (_, d) => uptoBulk d + 1
 end
def uptoSmall : (H : Type) → List (DataW H) → Bool := fun _ ds => decide (uptoBulkAll ds ≤ 1048576)
def OpenSpec.upto (s : _root_.Go.ChangeSpec) : _root_.Go.OpenSpec := { _root_.Go.OpenSpec.ofChange s with cond := some uptoSmall }

/-- 'partbooklaw13.InstrumentMatchesReference', WHERE WHAT IT READS IS OF BULK AT MOST 1048576: true; the input reads as it did. -/
def instrumentMatchesReferenceUptoRow : OpenClaim := { program := "ytpbohhfpbjofaaadoor", sum := "eeb29cb28f9aea17d7886e649bd17e0aef80384b973a5c6cc3414b66f82f5fea", func := "partbook/partbooklaw13.InstrumentMatchesReference", spec := "instrumentMatchesReference", unfollowed := true, recurses := true, named := ["partbook/pitch.naturals"], apart := false, laid := [("partbook/pitch.naturals", laid_partbook_pitch_naturals)], narrowed := true }
def InstrumentMatchesReferenceUptoSaid : Prop := instrumentMatchesReferenceUptoRow.holds Tryd.pinned (OpenSpec.upto instrumentMatchesReferenceSpec)

/-- 'partbooklaw13.InstrumentBack', WHERE WHAT IT READS IS OF BULK AT MOST 1048576: true; the input reads as it did. -/
def instrumentBackUptoRow : OpenClaim := { program := "ytpbohhfpbjofaaadoor", sum := "eeb29cb28f9aea17d7886e649bd17e0aef80384b973a5c6cc3414b66f82f5fea", func := "partbook/partbooklaw13.InstrumentBack", spec := "instrumentBack", unfollowed := true, recurses := true, named := ["partbook/pitch.naturals"], apart := false, laid := [("partbook/pitch.naturals", laid_partbook_pitch_naturals)], narrowed := true }
def InstrumentBackUptoSaid : Prop := instrumentBackUptoRow.holds Tryd.pinned (OpenSpec.upto instrumentBackSpec)

/-- 'partbooklaw13.InstrumentKeys', WHERE WHAT IT READS IS OF BULK AT MOST 1048576: true; the input reads as it did. -/
def instrumentKeysUptoRow : OpenClaim := { program := "ytpbohhfpbjofaaadoor", sum := "eeb29cb28f9aea17d7886e649bd17e0aef80384b973a5c6cc3414b66f82f5fea", func := "partbook/partbooklaw13.InstrumentKeys", spec := "instrumentKeys", unfollowed := true, recurses := true, named := ["partbook/pitch.naturals"], apart := false, laid := [("partbook/pitch.naturals", laid_partbook_pitch_naturals)], narrowed := true }
def InstrumentKeysUptoSaid : Prop := instrumentKeysUptoRow.holds Tryd.pinned (OpenSpec.upto instrumentKeysSpec)

/-- 'partbooklaw13.InstrumentFits', WHERE WHAT IT READS IS OF BULK AT MOST 1048576: true; the input reads as it did. -/
def instrumentFitsUptoRow : OpenClaim := { program := "ytpbohhfpbjofaaadoor", sum := "eeb29cb28f9aea17d7886e649bd17e0aef80384b973a5c6cc3414b66f82f5fea", func := "partbook/partbooklaw13.InstrumentFits", spec := "instrumentFits", unfollowed := true, recurses := true, named := ["partbook/pitch.naturals"], apart := false, laid := [("partbook/pitch.naturals", laid_partbook_pitch_naturals)], narrowed := true }
def InstrumentFitsUptoSaid : Prop := instrumentFitsUptoRow.holds Tryd.pinned (OpenSpec.upto instrumentFitsSpec)

/-- 'partbooklaw13.InstrumentClefs', WHERE WHAT IT READS IS OF BULK AT MOST 1048576: true; the input reads as it did. -/
def instrumentClefsUptoRow : OpenClaim := { program := "ytpbohhfpbjofaaadoor", sum := "eeb29cb28f9aea17d7886e649bd17e0aef80384b973a5c6cc3414b66f82f5fea", func := "partbook/partbooklaw13.InstrumentClefs", spec := "instrumentClefs", unfollowed := true, recurses := true, named := ["partbook/pitch.naturals"], apart := false, laid := [("partbook/pitch.naturals", laid_partbook_pitch_naturals)], narrowed := true }
def InstrumentClefsUptoSaid : Prop := instrumentClefsUptoRow.holds Tryd.pinned (OpenSpec.upto instrumentClefsSpec)

/-- 'partbooklaw13.InstrumentMoves', WHERE WHAT IT READS IS OF BULK AT MOST 1048576: true; the input reads as it did. -/
def instrumentMovesUptoRow : OpenClaim := { program := "ytpbohhfpbjofaaadoor", sum := "eeb29cb28f9aea17d7886e649bd17e0aef80384b973a5c6cc3414b66f82f5fea", func := "partbook/partbooklaw13.InstrumentMoves", spec := "instrumentMoves", unfollowed := true, recurses := true, named := ["partbook/pitch.naturals"], apart := false, laid := [("partbook/pitch.naturals", laid_partbook_pitch_naturals)], narrowed := true }
def InstrumentMovesUptoSaid : Prop := instrumentMovesUptoRow.holds Tryd.pinned (OpenSpec.upto instrumentMovesSpec)

/-- 'partbooklaw13.InstrumentScale', WHERE WHAT IT READS IS OF BULK AT MOST 1048576: true; the input reads as it did. -/
def instrumentScaleUptoRow : OpenClaim := { program := "ytpbohhfpbjofaaadoor", sum := "eeb29cb28f9aea17d7886e649bd17e0aef80384b973a5c6cc3414b66f82f5fea", func := "partbook/partbooklaw13.InstrumentScale", spec := "instrumentScale", unfollowed := true, recurses := true, named := ["partbook/pitch.naturals", "partbook/key.sharps"], apart := false, laid := [("partbook/pitch.naturals", laid_partbook_pitch_naturals), ("partbook/key.sharps", laid_partbook_key_sharps)], narrowed := true }
def InstrumentScaleUptoSaid : Prop := instrumentScaleUptoRow.holds Tryd.pinned (OpenSpec.upto instrumentScaleSpec)

end Rows
end Go.Proofs.YtpbohhfpbjofaaaDoor
