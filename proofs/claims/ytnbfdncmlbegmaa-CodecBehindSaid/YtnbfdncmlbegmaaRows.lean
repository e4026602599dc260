/-
  No cell of these rows narrows 'for every input' (looked for: loops, veiled, ifaces, maps, wideKeys, modest, calm, conditions, laid).
  DERIVED. THE GIVEN ROWS OF THIS SEAT. 6 by the template 'for every input the law returns true; each argument reads behind the call as it read before'; 0 by the template 'total and deterministic' (their statements: YtnbfdncmlbegmaaTotals.lean).
  GIVEN WITH THE SEED: the statements are not yours to turn. If you find one false, say at which input.
  Laid BY PROGRAM, IN A SANDBOX (cutbox-rows.mjs): the forced cells as the released guide's own fill.sh prints them over the translation df0763c6211a52aa… (all of the seat's roots in one cut). By AI agents, Wed Nov 11 2026. No macro, syntax, notation, axiom, sorry.
-/
import Derived.Test.YtnbfdncmlbegmaaChecked
import GoSem.Claim
import GoSem.ClaimJoined
import GoSem.ClaimMapViews
import Derived.JoinedTies
import Derived.KernelRfl
namespace Go.Proofs.Ytnbfdncmlbegmaa
/- THE CELL 'sum', in the pinned program and in every row, IS THE sha256 OF THE DUMP (.gsa) THAT YtnbfdncmlbegmaaProg.lean LOADS. Nothing in Lean hashes anything: it is a label: what it is worth is what the hold of that sum in a sandbox is worth. -/
noncomputable def Try.pinned : Pinned := { name := "ytnbfdncmlbegmaa", sum := "df0763c6211a52aa173350277768a3c1a75af75064efee96974db8b3c52db09b", checked := Try.checked }
namespace Rows
def none {H : Type} : Left H := { results := [], args := [] }

/-- 'partbooklaw05.CodecMatchesReference': WHATEVER THE INPUT: true; the input reads as it did. -/
def codecMatchesReferenceSpec : ChangeSpec := { name := "codecMatchesReference", fn := fun _ => fun
  | [d1, d2] => { results := [.lit (.bool true)], args := [d1, d2] }
  | _ => none }
def codecMatchesReferenceRow : OpenClaim := { program := "ytnbfdncmlbegmaa", sum := "df0763c6211a52aa173350277768a3c1a75af75064efee96974db8b3c52db09b", func := "partbook/partbooklaw05.CodecMatchesReference", spec := "codecMatchesReference", unfollowed := true, recurses := true, apart := false }
def CodecMatchesReferenceSaid : Prop := codecMatchesReferenceRow.holds Try.pinned (OpenSpec.ofChange codecMatchesReferenceSpec)

/-- ITS FALSE NEIGHBOUR: 'it returns false'. Refute it at one input. -/
def codecMatchesReferenceWrong : ChangeSpec := { name := "codecMatchesReference", fn := fun _ => fun
  | [d1, d2] => { results := [.lit (.bool false)], args := [d1, d2] }
  | _ => none }
def CodecMatchesReferenceWrongFalsely : Prop := codecMatchesReferenceRow.holds Try.pinned (OpenSpec.ofChange codecMatchesReferenceWrong)

/-- 'partbooklaw05.CodecBack': WHATEVER THE INPUT: true; the input reads as it did. -/
def codecBackSpec : ChangeSpec := { name := "codecBack", fn := fun _ => fun
  | [d1, d2] => { results := [.lit (.bool true)], args := [d1, d2] }
  | _ => none }
def codecBackRow : OpenClaim := { program := "ytnbfdncmlbegmaa", sum := "df0763c6211a52aa173350277768a3c1a75af75064efee96974db8b3c52db09b", func := "partbook/partbooklaw05.CodecBack", spec := "codecBack", unfollowed := true, recurses := true, apart := false }
def CodecBackSaid : Prop := codecBackRow.holds Try.pinned (OpenSpec.ofChange codecBackSpec)

/-- ITS FALSE NEIGHBOUR: 'it returns false'. Refute it at one input. -/
def codecBackWrong : ChangeSpec := { name := "codecBack", fn := fun _ => fun
  | [d1, d2] => { results := [.lit (.bool false)], args := [d1, d2] }
  | _ => none }
def CodecBackWrongFalsely : Prop := codecBackRow.holds Try.pinned (OpenSpec.ofChange codecBackWrong)

/-- 'partbooklaw05.CodecTorn': WHATEVER THE INPUT: true; the input reads as it did. -/
def codecTornSpec : ChangeSpec := { name := "codecTorn", fn := fun _ => fun
  | [d1, d2] => { results := [.lit (.bool true)], args := [d1, d2] }
  | _ => none }
def codecTornRow : OpenClaim := { program := "ytnbfdncmlbegmaa", sum := "df0763c6211a52aa173350277768a3c1a75af75064efee96974db8b3c52db09b", func := "partbook/partbooklaw05.CodecTorn", spec := "codecTorn", unfollowed := true, recurses := true, apart := false }
def CodecTornSaid : Prop := codecTornRow.holds Try.pinned (OpenSpec.ofChange codecTornSpec)

/-- ITS FALSE NEIGHBOUR: 'it returns false'. Refute it at one input. -/
def codecTornWrong : ChangeSpec := { name := "codecTorn", fn := fun _ => fun
  | [d1, d2] => { results := [.lit (.bool false)], args := [d1, d2] }
  | _ => none }
def CodecTornWrongFalsely : Prop := codecTornRow.holds Try.pinned (OpenSpec.ofChange codecTornWrong)

/-- 'partbooklaw05.CodecBehind': WHATEVER THE INPUT: true; the input reads as it did. -/
def codecBehindSpec : ChangeSpec := { name := "codecBehind", fn := fun _ => fun
  | [d1, d2] => { results := [.lit (.bool true)], args := [d1, d2] }
  | _ => none }
def codecBehindRow : OpenClaim := { program := "ytnbfdncmlbegmaa", sum := "df0763c6211a52aa173350277768a3c1a75af75064efee96974db8b3c52db09b", func := "partbook/partbooklaw05.CodecBehind", spec := "codecBehind", unfollowed := true, recurses := true, apart := false }
def CodecBehindSaid : Prop := codecBehindRow.holds Try.pinned (OpenSpec.ofChange codecBehindSpec)

/-- ITS FALSE NEIGHBOUR: 'it returns false'. Refute it at one input. -/
def codecBehindWrong : ChangeSpec := { name := "codecBehind", fn := fun _ => fun
  | [d1, d2] => { results := [.lit (.bool false)], args := [d1, d2] }
  | _ => none }
def CodecBehindWrongFalsely : Prop := codecBehindRow.holds Try.pinned (OpenSpec.ofChange codecBehindWrong)

/-- 'partbooklaw05.CodecChanged': WHATEVER THE INPUT: true; the input reads as it did. -/
def codecChangedSpec : ChangeSpec := { name := "codecChanged", fn := fun _ => fun
  | [d1, d2, d3] => { results := [.lit (.bool true)], args := [d1, d2, d3] }
  | _ => none }
def codecChangedRow : OpenClaim := { program := "ytnbfdncmlbegmaa", sum := "df0763c6211a52aa173350277768a3c1a75af75064efee96974db8b3c52db09b", func := "partbook/partbooklaw05.CodecChanged", spec := "codecChanged", unfollowed := true, recurses := true, apart := false }
def CodecChangedSaid : Prop := codecChangedRow.holds Try.pinned (OpenSpec.ofChange codecChangedSpec)

/-- ITS FALSE NEIGHBOUR: 'it returns false'. Refute it at one input. -/
def codecChangedWrong : ChangeSpec := { name := "codecChanged", fn := fun _ => fun
  | [d1, d2, d3] => { results := [.lit (.bool false)], args := [d1, d2, d3] }
  | _ => none }
def CodecChangedWrongFalsely : Prop := codecChangedRow.holds Try.pinned (OpenSpec.ofChange codecChangedWrong)

/-- 'partbooklaw05.CodecPrefixes': WHATEVER THE INPUT: true; the input reads as it did. -/
def codecPrefixesSpec : ChangeSpec := { name := "codecPrefixes", fn := fun _ => fun
  | [d1, d2, d3] => { results := [.lit (.bool true)], args := [d1, d2, d3] }
  | _ => none }
def codecPrefixesRow : OpenClaim := { program := "ytnbfdncmlbegmaa", sum := "df0763c6211a52aa173350277768a3c1a75af75064efee96974db8b3c52db09b", func := "partbook/partbooklaw05.CodecPrefixes", spec := "codecPrefixes", unfollowed := true, recurses := true, apart := false }
def CodecPrefixesSaid : Prop := codecPrefixesRow.holds Try.pinned (OpenSpec.ofChange codecPrefixesSpec)

/-- ITS FALSE NEIGHBOUR: 'it returns false'. Refute it at one input. -/
def codecPrefixesWrong : ChangeSpec := { name := "codecPrefixes", fn := fun _ => fun
  | [d1, d2, d3] => { results := [.lit (.bool false)], args := [d1, d2, d3] }
  | _ => none }
def CodecPrefixesWrongFalsely : Prop := codecPrefixesRow.holds Try.pinned (OpenSpec.ofChange codecPrefixesWrong)

/- THE SECOND FORM. 'bulk': how many values and letters a reading holds, each counted each time it is reached (what is shared counts as often as it is met; a slice's spare places count too). A statement '..UptoSaid' is the law's where the arguments, and the package variables that the reading takes, are together of bulk at most 1048576: NARROWER than '..Said'. Prove '..Said' where nothing that the law and all that it calls make is longer than what came in: it says more and counts as full. Else prove '..UptoSaid'. A law counts once. -/
mutual
def uptoBulk {H : Type} : DataW H → Nat
  | .lit (.string bytes) => bytes.length + 1
  | .lit _ => 1
  | .nil => 1
  | .ptr d => uptoBulk d + 1
  | .slice elems spare => uptoBulkAll elems + uptoBulkAll spare + 1
  | .agg parts => uptoBulkAll parts + 1
  | .iface _ d => uptoBulk d + 1
  | .map entries => uptoBulkEntries entries + 1
  | .held _ => 1
def uptoBulkAll {H : Type} : List (DataW H) → Nat
  | [] => 0
  | d :: r => uptoBulk d + uptoBulkAll r
def uptoBulkEntries {H : Type} : List (Lit × DataW H) → Nat
  | [] => 0
  | x :: r => uptoBulkEntry x + uptoBulkEntries r
def uptoBulkEntry {H : Type} : Lit × DataW H → Nat
  | (.string bytes, d) => bytes.length + uptoBulk d + 1
  | (_, d) => uptoBulk d + 1
 end
def uptoSmall : (H : Type) → List (DataW H) → Bool := fun _ ds => decide (uptoBulkAll ds ≤ 1048576)
def OpenSpec.upto (s : _root_.Go.ChangeSpec) : _root_.Go.OpenSpec := { _root_.Go.OpenSpec.ofChange s with cond := some uptoSmall }

/-- 'partbooklaw05.CodecMatchesReference', WHERE WHAT IT READS IS OF BULK AT MOST 1048576: true; the input reads as it did. -/
def codecMatchesReferenceUptoRow : OpenClaim := { program := "ytnbfdncmlbegmaa", sum := "df0763c6211a52aa173350277768a3c1a75af75064efee96974db8b3c52db09b", func := "partbook/partbooklaw05.CodecMatchesReference", spec := "codecMatchesReference", unfollowed := true, recurses := true, apart := false, narrowed := true }
def CodecMatchesReferenceUptoSaid : Prop := codecMatchesReferenceUptoRow.holds Try.pinned (OpenSpec.upto codecMatchesReferenceSpec)

/-- 'partbooklaw05.CodecBack', WHERE WHAT IT READS IS OF BULK AT MOST 1048576: true; the input reads as it did. -/
def codecBackUptoRow : OpenClaim := { program := "ytnbfdncmlbegmaa", sum := "df0763c6211a52aa173350277768a3c1a75af75064efee96974db8b3c52db09b", func := "partbook/partbooklaw05.CodecBack", spec := "codecBack", unfollowed := true, recurses := true, apart := false, narrowed := true }
def CodecBackUptoSaid : Prop := codecBackUptoRow.holds Try.pinned (OpenSpec.upto codecBackSpec)

/-- 'partbooklaw05.CodecTorn', WHERE WHAT IT READS IS OF BULK AT MOST 1048576: true; the input reads as it did. -/
def codecTornUptoRow : OpenClaim := { program := "ytnbfdncmlbegmaa", sum := "df0763c6211a52aa173350277768a3c1a75af75064efee96974db8b3c52db09b", func := "partbook/partbooklaw05.CodecTorn", spec := "codecTorn", unfollowed := true, recurses := true, apart := false, narrowed := true }
def CodecTornUptoSaid : Prop := codecTornUptoRow.holds Try.pinned (OpenSpec.upto codecTornSpec)

/-- 'partbooklaw05.CodecBehind', WHERE WHAT IT READS IS OF BULK AT MOST 1048576: true; the input reads as it did. -/
def codecBehindUptoRow : OpenClaim := { program := "ytnbfdncmlbegmaa", sum := "df0763c6211a52aa173350277768a3c1a75af75064efee96974db8b3c52db09b", func := "partbook/partbooklaw05.CodecBehind", spec := "codecBehind", unfollowed := true, recurses := true, apart := false, narrowed := true }
def CodecBehindUptoSaid : Prop := codecBehindUptoRow.holds Try.pinned (OpenSpec.upto codecBehindSpec)

/-- 'partbooklaw05.CodecChanged', WHERE WHAT IT READS IS OF BULK AT MOST 1048576: true; the input reads as it did. -/
def codecChangedUptoRow : OpenClaim := { program := "ytnbfdncmlbegmaa", sum := "df0763c6211a52aa173350277768a3c1a75af75064efee96974db8b3c52db09b", func := "partbook/partbooklaw05.CodecChanged", spec := "codecChanged", unfollowed := true, recurses := true, apart := false, narrowed := true }
def CodecChangedUptoSaid : Prop := codecChangedUptoRow.holds Try.pinned (OpenSpec.upto codecChangedSpec)

/-- 'partbooklaw05.CodecPrefixes', WHERE WHAT IT READS IS OF BULK AT MOST 1048576: true; the input reads as it did. -/
def codecPrefixesUptoRow : OpenClaim := { program := "ytnbfdncmlbegmaa", sum := "df0763c6211a52aa173350277768a3c1a75af75064efee96974db8b3c52db09b", func := "partbook/partbooklaw05.CodecPrefixes", spec := "codecPrefixes", unfollowed := true, recurses := true, apart := false, narrowed := true }
def CodecPrefixesUptoSaid : Prop := codecPrefixesUptoRow.holds Try.pinned (OpenSpec.upto codecPrefixesSpec)

end Rows
end Go.Proofs.Ytnbfdncmlbegmaa
