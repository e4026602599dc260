/-
  NARROWER THAN 'FOR EVERY INPUT', by the rows' own cells (each row's printed sentence says how): KeyMatchesReference: laid · KeyNext: laid · KeyMoves: laid · KeyReads: laid · KeyAdds: laid · KeyScales: laid.
  DERIVED. THE GIVEN ROWS OF THIS SEAT. 6 by the template 'for every input the law returns true; each argument reads behind the call as it read before'; 0 by the template 'total and deterministic' (their statements: YtpkbghnjfjnoiaaDoorTotals.lean).
  GIVEN WITH THE SEED: the statements are not yours to turn. If you find one false, say at which input.
  Laid BY PROGRAM, IN A SANDBOX (cutbox-rows.mjs): the forced cells as the released guide's own fill.sh prints them over the translation 88983b014823be87… (all of the seat's roots in one cut). By AI agents, Wed Nov 11 2026. No macro, syntax, notation, axiom, sorry.
-/
import Derived.Test.YtpkbghnjfjnoiaaDoorChecked
import GoSem.Claim
import GoSem.ClaimJoined
import GoSem.ClaimMapViews
import Derived.JoinedTies
import Derived.KernelRfl
namespace Go.Proofs.YtpkbghnjfjnoiaaDoor
/- THE CELL 'sum', in the pinned program and in every row, IS THE sha256 OF THE DUMP (.gsa) THAT YtpkbghnjfjnoiaaDoorProg.lean LOADS. Nothing in Lean hashes anything: it is a label: what it is worth is what the hold of that sum in a sandbox is worth. -/
noncomputable def Tryd.pinned : Pinned := { name := "ytpkbghnjfjnoiaadoor", sum := "88983b014823be87bea7dfaccf378d94ac1ad92f8d21acb3d6a4975cbce32a6f", checked := Tryd.checked }
namespace Rows
def none {H : Type} : Left H := { results := [], args := [] }

/- WHAT THE LISTED PACKAGE-LEVEL VARIABLES READ AS WHEN THE CALL BEGINS. Each datum BY PROGRAM (the guide's laid-datum.mjs) off the statement by which the dump's own 'gosem.cut.vars' lays the variable. In a bare row this is a premise. The card (YtpkbghnjfjnoiaaDoorCards.lean) ties it to the program's text. -/
def laid_partbook_key_sharps {H : Type} : DataW H := .agg [.lit (.int .i64 3), .lit (.int .i64 0), .lit (.int .i64 4), .lit (.int .i64 1), .lit (.int .i64 5), .lit (.int .i64 2), .lit (.int .i64 6)]
def laid_partbook_pitch_naturals {H : Type} : DataW H := .agg [.lit (.int .i64 0), .lit (.int .i64 2), .lit (.int .i64 4), .lit (.int .i64 5), .lit (.int .i64 7), .lit (.int .i64 9), .lit (.int .i64 11)]

/-- 'partbooklaw03.KeyMatchesReference': WHATEVER THE INPUT: true; the input reads as it did. -/
def keyMatchesReferenceSpec : ChangeSpec := { name := "keyMatchesReference", fn := fun _ => fun
  | [d1, d2, d3, d4, d5] => { results := [.lit (.bool true)], args := [d1, d2, d3, d4, d5] }
  | _ => none }
def keyMatchesReferenceRow : OpenClaim := { program := "ytpkbghnjfjnoiaadoor", sum := "88983b014823be87bea7dfaccf378d94ac1ad92f8d21acb3d6a4975cbce32a6f", func := "partbook/partbooklaw03.KeyMatchesReference", spec := "keyMatchesReference", unfollowed := true, recurses := true, named := ["partbook/key.sharps"], plainKeys := false, apart := false, laid := [("partbook/key.sharps", laid_partbook_key_sharps)] }
def KeyMatchesReferenceSaid : Prop := keyMatchesReferenceRow.holds Tryd.pinned (OpenSpec.ofChange keyMatchesReferenceSpec)

/-- ITS FALSE NEIGHBOUR: 'it returns false'. Refute it at one input. -/
def keyMatchesReferenceWrong : ChangeSpec := { name := "keyMatchesReference", fn := fun _ => fun
  | [d1, d2, d3, d4, d5] => { results := [.lit (.bool false)], args := [d1, d2, d3, d4, d5] }
  | _ => none }
def KeyMatchesReferenceWrongFalsely : Prop := keyMatchesReferenceRow.holds Tryd.pinned (OpenSpec.ofChange keyMatchesReferenceWrong)

/-- 'partbooklaw03.KeyNext': WHATEVER THE INPUT: true; the input reads as it did. -/
def keyNextSpec : ChangeSpec := { name := "keyNext", fn := fun _ => fun
  | [d] => { results := [.lit (.bool true)], args := [d] }
  | _ => none }
def keyNextRow : OpenClaim := { program := "ytpkbghnjfjnoiaadoor", sum := "88983b014823be87bea7dfaccf378d94ac1ad92f8d21acb3d6a4975cbce32a6f", func := "partbook/partbooklaw03.KeyNext", spec := "keyNext", unfollowed := true, recurses := true, named := ["partbook/key.sharps"], plainKeys := false, apart := false, laid := [("partbook/key.sharps", laid_partbook_key_sharps)] }
def KeyNextSaid : Prop := keyNextRow.holds Tryd.pinned (OpenSpec.ofChange keyNextSpec)

/-- ITS FALSE NEIGHBOUR: 'it returns false'. Refute it at one input. -/
def keyNextWrong : ChangeSpec := { name := "keyNext", fn := fun _ => fun
  | [d] => { results := [.lit (.bool false)], args := [d] }
  | _ => none }
def KeyNextWrongFalsely : Prop := keyNextRow.holds Tryd.pinned (OpenSpec.ofChange keyNextWrong)

/-- 'partbooklaw03.KeyMoves': WHATEVER THE INPUT: true; the input reads as it did. -/
def keyMovesSpec : ChangeSpec := { name := "keyMoves", fn := fun _ => fun
  | [d1, d2] => { results := [.lit (.bool true)], args := [d1, d2] }
  | _ => none }
def keyMovesRow : OpenClaim := { program := "ytpkbghnjfjnoiaadoor", sum := "88983b014823be87bea7dfaccf378d94ac1ad92f8d21acb3d6a4975cbce32a6f", func := "partbook/partbooklaw03.KeyMoves", spec := "keyMoves", unfollowed := true, recurses := true, named := ["partbook/key.sharps"], plainKeys := false, apart := false, laid := [("partbook/key.sharps", laid_partbook_key_sharps)] }
def KeyMovesSaid : Prop := keyMovesRow.holds Tryd.pinned (OpenSpec.ofChange keyMovesSpec)

/-- ITS FALSE NEIGHBOUR: 'it returns false'. Refute it at one input. -/
def keyMovesWrong : ChangeSpec := { name := "keyMoves", fn := fun _ => fun
  | [d1, d2] => { results := [.lit (.bool false)], args := [d1, d2] }
  | _ => none }
def KeyMovesWrongFalsely : Prop := keyMovesRow.holds Tryd.pinned (OpenSpec.ofChange keyMovesWrong)

/-- 'partbooklaw03.KeyReads': WHATEVER THE INPUT: true; the input reads as it did. -/
def keyReadsSpec : ChangeSpec := { name := "keyReads", fn := fun _ => fun
  | [d1, d2, d3] => { results := [.lit (.bool true)], args := [d1, d2, d3] }
  | _ => none }
def keyReadsRow : OpenClaim := { program := "ytpkbghnjfjnoiaadoor", sum := "88983b014823be87bea7dfaccf378d94ac1ad92f8d21acb3d6a4975cbce32a6f", func := "partbook/partbooklaw03.KeyReads", spec := "keyReads", unfollowed := true, recurses := true, named := ["partbook/key.sharps"], plainKeys := false, apart := false, laid := [("partbook/key.sharps", laid_partbook_key_sharps)] }
def KeyReadsSaid : Prop := keyReadsRow.holds Tryd.pinned (OpenSpec.ofChange keyReadsSpec)

/-- ITS FALSE NEIGHBOUR: 'it returns false'. Refute it at one input. -/
def keyReadsWrong : ChangeSpec := { name := "keyReads", fn := fun _ => fun
  | [d1, d2, d3] => { results := [.lit (.bool false)], args := [d1, d2, d3] }
  | _ => none }
def KeyReadsWrongFalsely : Prop := keyReadsRow.holds Tryd.pinned (OpenSpec.ofChange keyReadsWrong)

/-- 'partbooklaw03.KeyAdds': WHATEVER THE INPUT: true; the input reads as it did. -/
def keyAddsSpec : ChangeSpec := { name := "keyAdds", fn := fun _ => fun
  | [d1, d2] => { results := [.lit (.bool true)], args := [d1, d2] }
  | _ => none }
def keyAddsRow : OpenClaim := { program := "ytpkbghnjfjnoiaadoor", sum := "88983b014823be87bea7dfaccf378d94ac1ad92f8d21acb3d6a4975cbce32a6f", func := "partbook/partbooklaw03.KeyAdds", spec := "keyAdds", unfollowed := true, recurses := true, named := ["partbook/key.sharps"], plainKeys := false, apart := false, laid := [("partbook/key.sharps", laid_partbook_key_sharps)] }
def KeyAddsSaid : Prop := keyAddsRow.holds Tryd.pinned (OpenSpec.ofChange keyAddsSpec)

/-- ITS FALSE NEIGHBOUR: 'it returns false'. Refute it at one input. -/
def keyAddsWrong : ChangeSpec := { name := "keyAdds", fn := fun _ => fun
  | [d1, d2] => { results := [.lit (.bool false)], args := [d1, d2] }
  | _ => none }
def KeyAddsWrongFalsely : Prop := keyAddsRow.holds Tryd.pinned (OpenSpec.ofChange keyAddsWrong)

/-- 'partbooklaw03.KeyScales': WHATEVER THE INPUT: true; the input reads as it did. -/
def keyScalesSpec : ChangeSpec := { name := "keyScales", fn := fun _ => fun
  | [d1, d2, d3, d4] => { results := [.lit (.bool true)], args := [d1, d2, d3, d4] }
  | _ => none }
def keyScalesRow : OpenClaim := { program := "ytpkbghnjfjnoiaadoor", sum := "88983b014823be87bea7dfaccf378d94ac1ad92f8d21acb3d6a4975cbce32a6f", func := "partbook/partbooklaw03.KeyScales", spec := "keyScales", unfollowed := true, recurses := true, named := ["partbook/key.sharps", "partbook/pitch.naturals"], plainKeys := false, apart := false, laid := [("partbook/pitch.naturals", laid_partbook_pitch_naturals), ("partbook/key.sharps", laid_partbook_key_sharps)] }
def KeyScalesSaid : Prop := keyScalesRow.holds Tryd.pinned (OpenSpec.ofChange keyScalesSpec)

/-- ITS FALSE NEIGHBOUR: 'it returns false'. Refute it at one input. -/
def keyScalesWrong : ChangeSpec := { name := "keyScales", fn := fun _ => fun
  | [d1, d2, d3, d4] => { results := [.lit (.bool false)], args := [d1, d2, d3, d4] }
  | _ => none }
def KeyScalesWrongFalsely : Prop := keyScalesRow.holds Tryd.pinned (OpenSpec.ofChange keyScalesWrong)

/- THE SECOND FORM. 'bulk': how many values and letters a reading holds, each counted each time it is reached (what is shared counts as often as it is met; a slice's spare places count too). A statement '..UptoSaid' is the law's where the arguments, and the package variables that the reading takes, are together of bulk at most 1048576: NARROWER than '..Said'. Prove '..Said' where nothing that the law and all that it calls make is longer than what came in: it says more and counts as full. Else prove '..UptoSaid'. A law counts once. -/
mutual
def uptoBulk {H : Type} : DataW H → Nat
  | .lit (.string bytes) => bytes.length + 1
  | .lit _ => 1
  | .nil => 1
  | .ptr d => uptoBulk d + 1
  | .slice elems spare => uptoBulkAll elems + uptoBulkAll spare + 1
  | .agg parts => uptoBulkAll parts + 1
  | .iface _ d => uptoBulk d + 1
  | .map entries => uptoBulkEntries entries + 1
  | .held _ => 1
def uptoBulkAll {H : Type} : List (DataW H) → Nat
  | [] => 0
  | d :: r => uptoBulk d + uptoBulkAll r
def uptoBulkEntries {H : Type} : List (Lit × DataW H) → Nat
  | [] => 0
  | x :: r => uptoBulkEntry x + uptoBulkEntries r
def uptoBulkEntry {H : Type} : Lit × DataW H → Nat
  | (.string bytes, d) => bytes.length + uptoBulk d + 1
  | (_, d) => uptoBulk d + 1
 end
def uptoSmall : (H : Type) → List (DataW H) → Bool := fun _ ds => decide (uptoBulkAll ds ≤ 1048576)
def OpenSpec.upto (s : _root_.Go.ChangeSpec) : _root_.Go.OpenSpec := { _root_.Go.OpenSpec.ofChange s with cond := some uptoSmall }

/-- 'partbooklaw03.KeyMatchesReference', WHERE WHAT IT READS IS OF BULK AT MOST 1048576: true; the input reads as it did. -/
def keyMatchesReferenceUptoRow : OpenClaim := { program := "ytpkbghnjfjnoiaadoor", sum := "88983b014823be87bea7dfaccf378d94ac1ad92f8d21acb3d6a4975cbce32a6f", func := "partbook/partbooklaw03.KeyMatchesReference", spec := "keyMatchesReference", unfollowed := true, recurses := true, named := ["partbook/key.sharps"], plainKeys := false, apart := false, laid := [("partbook/key.sharps", laid_partbook_key_sharps)], narrowed := true }
def KeyMatchesReferenceUptoSaid : Prop := keyMatchesReferenceUptoRow.holds Tryd.pinned (OpenSpec.upto keyMatchesReferenceSpec)

/-- 'partbooklaw03.KeyNext', WHERE WHAT IT READS IS OF BULK AT MOST 1048576: true; the input reads as it did. -/
def keyNextUptoRow : OpenClaim := { program := "ytpkbghnjfjnoiaadoor", sum := "88983b014823be87bea7dfaccf378d94ac1ad92f8d21acb3d6a4975cbce32a6f", func := "partbook/partbooklaw03.KeyNext", spec := "keyNext", unfollowed := true, recurses := true, named := ["partbook/key.sharps"], plainKeys := false, apart := false, laid := [("partbook/key.sharps", laid_partbook_key_sharps)], narrowed := true }
def KeyNextUptoSaid : Prop := keyNextUptoRow.holds Tryd.pinned (OpenSpec.upto keyNextSpec)

/-- 'partbooklaw03.KeyMoves', WHERE WHAT IT READS IS OF BULK AT MOST 1048576: true; the input reads as it did. -/
def keyMovesUptoRow : OpenClaim := { program := "ytpkbghnjfjnoiaadoor", sum := "88983b014823be87bea7dfaccf378d94ac1ad92f8d21acb3d6a4975cbce32a6f", func := "partbook/partbooklaw03.KeyMoves", spec := "keyMoves", unfollowed := true, recurses := true, named := ["partbook/key.sharps"], plainKeys := false, apart := false, laid := [("partbook/key.sharps", laid_partbook_key_sharps)], narrowed := true }
def KeyMovesUptoSaid : Prop := keyMovesUptoRow.holds Tryd.pinned (OpenSpec.upto keyMovesSpec)

/-- 'partbooklaw03.KeyReads', WHERE WHAT IT READS IS OF BULK AT MOST 1048576: true; the input reads as it did. -/
def keyReadsUptoRow : OpenClaim := { program := "ytpkbghnjfjnoiaadoor", sum := "88983b014823be87bea7dfaccf378d94ac1ad92f8d21acb3d6a4975cbce32a6f", func := "partbook/partbooklaw03.KeyReads", spec := "keyReads", unfollowed := true, recurses := true, named := ["partbook/key.sharps"], plainKeys := false, apart := false, laid := [("partbook/key.sharps", laid_partbook_key_sharps)], narrowed := true }
def KeyReadsUptoSaid : Prop := keyReadsUptoRow.holds Tryd.pinned (OpenSpec.upto keyReadsSpec)

/-- 'partbooklaw03.KeyAdds', WHERE WHAT IT READS IS OF BULK AT MOST 1048576: true; the input reads as it did. -/
def keyAddsUptoRow : OpenClaim := { program := "ytpkbghnjfjnoiaadoor", sum := "88983b014823be87bea7dfaccf378d94ac1ad92f8d21acb3d6a4975cbce32a6f", func := "partbook/partbooklaw03.KeyAdds", spec := "keyAdds", unfollowed := true, recurses := true, named := ["partbook/key.sharps"], plainKeys := false, apart := false, laid := [("partbook/key.sharps", laid_partbook_key_sharps)], narrowed := true }
def KeyAddsUptoSaid : Prop := keyAddsUptoRow.holds Tryd.pinned (OpenSpec.upto keyAddsSpec)

/-- 'partbooklaw03.KeyScales', WHERE WHAT IT READS IS OF BULK AT MOST 1048576: true; the input reads as it did. -/
def keyScalesUptoRow : OpenClaim := { program := "ytpkbghnjfjnoiaadoor", sum := "88983b014823be87bea7dfaccf378d94ac1ad92f8d21acb3d6a4975cbce32a6f", func := "partbook/partbooklaw03.KeyScales", spec := "keyScales", unfollowed := true, recurses := true, named := ["partbook/key.sharps", "partbook/pitch.naturals"], plainKeys := false, apart := false, laid := [("partbook/pitch.naturals", laid_partbook_pitch_naturals), ("partbook/key.sharps", laid_partbook_key_sharps)], narrowed := true }
def KeyScalesUptoSaid : Prop := keyScalesUptoRow.holds Tryd.pinned (OpenSpec.upto keyScalesSpec)

end Rows
end Go.Proofs.YtpkbghnjfjnoiaaDoor
