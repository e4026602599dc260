/-
  No cell of these rows narrows 'for every input' (looked for: loops, veiled, ifaces, maps, wideKeys, modest, calm, conditions, laid).
  DERIVED. THE GIVEN ROWS OF THIS SEAT. 6 by the template 'for every input the law returns true; each argument reads behind the call as it read before'; 0 by the template 'total and deterministic' (their statements: YtpggkomalbbofaaTotals.lean).
  GIVEN WITH THE SEED: the statements are not yours to turn. If you find one false, say at which input.
  Laid BY PROGRAM, IN A SANDBOX (cutbox-rows.mjs): the forced cells as the released guide's own fill.sh prints them over the translation ac8f4247413c801b… (all of the seat's roots in one cut). By AI agents, Wed Nov 11 2026. No macro, syntax, notation, axiom, sorry.
-/
import Derived.Test.YtpggkomalbbofaaChecked
import GoSem.Claim
import GoSem.ClaimJoined
import GoSem.ClaimMapViews
import Derived.JoinedTies
import Derived.KernelRfl
namespace Go.Proofs.Ytpggkomalbbofaa
/- THE CELL 'sum', in the pinned program and in every row, IS THE sha256 OF THE DUMP (.gsa) THAT YtpggkomalbbofaaProg.lean LOADS. Nothing in Lean hashes anything: it is a label: what it is worth is what the hold of that sum in a sandbox is worth. -/
noncomputable def Try.pinned : Pinned := { name := "ytpggkomalbbofaa", sum := "ac8f4247413c801b4d39f37ac3c0139816489d6ded135cd3759305a37db35685", checked := Try.checked }
namespace Rows
def none {H : Type} : Left H := { results := [], args := [] }

/-- 'partbooklaw26.LayoutMatchesReference': WHATEVER THE INPUT: true; the input reads as it did. -/
def layoutMatchesReferenceSpec : ChangeSpec := { name := "layoutMatchesReference", fn := fun _ => fun
  | [d1, d2, d3, d4] => { results := [.lit (.bool true)], args := [d1, d2, d3, d4] }
  | _ => none }
def layoutMatchesReferenceRow : OpenClaim := { program := "ytpggkomalbbofaa", sum := "ac8f4247413c801b4d39f37ac3c0139816489d6ded135cd3759305a37db35685", func := "partbook/partbooklaw26.LayoutMatchesReference", spec := "layoutMatchesReference", unfollowed := true, recurses := true, apart := false }
def LayoutMatchesReferenceSaid : Prop := layoutMatchesReferenceRow.holds Try.pinned (OpenSpec.ofChange layoutMatchesReferenceSpec)

/-- ITS FALSE NEIGHBOUR: 'it returns false'. Refute it at one input. -/
def layoutMatchesReferenceWrong : ChangeSpec := { name := "layoutMatchesReference", fn := fun _ => fun
  | [d1, d2, d3, d4] => { results := [.lit (.bool false)], args := [d1, d2, d3, d4] }
  | _ => none }
def LayoutMatchesReferenceWrongFalsely : Prop := layoutMatchesReferenceRow.holds Try.pinned (OpenSpec.ofChange layoutMatchesReferenceWrong)

/-- 'partbooklaw26.LayoutFits': WHATEVER THE INPUT: true; the input reads as it did. -/
def layoutFitsSpec : ChangeSpec := { name := "layoutFits", fn := fun _ => fun
  | [d1, d2, d3] => { results := [.lit (.bool true)], args := [d1, d2, d3] }
  | _ => none }
def layoutFitsRow : OpenClaim := { program := "ytpggkomalbbofaa", sum := "ac8f4247413c801b4d39f37ac3c0139816489d6ded135cd3759305a37db35685", func := "partbook/partbooklaw26.LayoutFits", spec := "layoutFits", unfollowed := true, recurses := true, apart := false }
def LayoutFitsSaid : Prop := layoutFitsRow.holds Try.pinned (OpenSpec.ofChange layoutFitsSpec)

/-- ITS FALSE NEIGHBOUR: 'it returns false'. Refute it at one input. -/
def layoutFitsWrong : ChangeSpec := { name := "layoutFits", fn := fun _ => fun
  | [d1, d2, d3] => { results := [.lit (.bool false)], args := [d1, d2, d3] }
  | _ => none }
def LayoutFitsWrongFalsely : Prop := layoutFitsRow.holds Try.pinned (OpenSpec.ofChange layoutFitsWrong)

/-- 'partbooklaw26.LayoutLeast': WHATEVER THE INPUT: true; the input reads as it did. -/
def layoutLeastSpec : ChangeSpec := { name := "layoutLeast", fn := fun _ => fun
  | [d1, d2, d3, d4] => { results := [.lit (.bool true)], args := [d1, d2, d3, d4] }
  | _ => none }
def layoutLeastRow : OpenClaim := { program := "ytpggkomalbbofaa", sum := "ac8f4247413c801b4d39f37ac3c0139816489d6ded135cd3759305a37db35685", func := "partbook/partbooklaw26.LayoutLeast", spec := "layoutLeast", unfollowed := true, recurses := true, apart := false }
def LayoutLeastSaid : Prop := layoutLeastRow.holds Try.pinned (OpenSpec.ofChange layoutLeastSpec)

/-- ITS FALSE NEIGHBOUR: 'it returns false'. Refute it at one input. -/
def layoutLeastWrong : ChangeSpec := { name := "layoutLeast", fn := fun _ => fun
  | [d1, d2, d3, d4] => { results := [.lit (.bool false)], args := [d1, d2, d3, d4] }
  | _ => none }
def LayoutLeastWrongFalsely : Prop := layoutLeastRow.holds Try.pinned (OpenSpec.ofChange layoutLeastWrong)

/-- 'partbooklaw26.LayoutGrows': WHATEVER THE INPUT: true; the input reads as it did. -/
def layoutGrowsSpec : ChangeSpec := { name := "layoutGrows", fn := fun _ => fun
  | [d1, d2, d3, d4, d5] => { results := [.lit (.bool true)], args := [d1, d2, d3, d4, d5] }
  | _ => none }
def layoutGrowsRow : OpenClaim := { program := "ytpggkomalbbofaa", sum := "ac8f4247413c801b4d39f37ac3c0139816489d6ded135cd3759305a37db35685", func := "partbook/partbooklaw26.LayoutGrows", spec := "layoutGrows", unfollowed := true, recurses := true, apart := false }
def LayoutGrowsSaid : Prop := layoutGrowsRow.holds Try.pinned (OpenSpec.ofChange layoutGrowsSpec)

/-- ITS FALSE NEIGHBOUR: 'it returns false'. Refute it at one input. -/
def layoutGrowsWrong : ChangeSpec := { name := "layoutGrows", fn := fun _ => fun
  | [d1, d2, d3, d4, d5] => { results := [.lit (.bool false)], args := [d1, d2, d3, d4, d5] }
  | _ => none }
def LayoutGrowsWrongFalsely : Prop := layoutGrowsRow.holds Try.pinned (OpenSpec.ofChange layoutGrowsWrong)

/-- 'partbooklaw26.LayoutFilled': WHATEVER THE INPUT: true; the input reads as it did. -/
def layoutFilledSpec : ChangeSpec := { name := "layoutFilled", fn := fun _ => fun
  | [d1, d2] => { results := [.lit (.bool true)], args := [d1, d2] }
  | _ => none }
def layoutFilledRow : OpenClaim := { program := "ytpggkomalbbofaa", sum := "ac8f4247413c801b4d39f37ac3c0139816489d6ded135cd3759305a37db35685", func := "partbook/partbooklaw26.LayoutFilled", spec := "layoutFilled", unfollowed := true, recurses := true, apart := false }
def LayoutFilledSaid : Prop := layoutFilledRow.holds Try.pinned (OpenSpec.ofChange layoutFilledSpec)

/-- ITS FALSE NEIGHBOUR: 'it returns false'. Refute it at one input. -/
def layoutFilledWrong : ChangeSpec := { name := "layoutFilled", fn := fun _ => fun
  | [d1, d2] => { results := [.lit (.bool false)], args := [d1, d2] }
  | _ => none }
def LayoutFilledWrongFalsely : Prop := layoutFilledRow.holds Try.pinned (OpenSpec.ofChange layoutFilledWrong)

/-- 'partbooklaw26.LayoutCounts': WHATEVER THE INPUT: true; the input reads as it did. -/
def layoutCountsSpec : ChangeSpec := { name := "layoutCounts", fn := fun _ => fun
  | [d1, d2] => { results := [.lit (.bool true)], args := [d1, d2] }
  | _ => none }
def layoutCountsRow : OpenClaim := { program := "ytpggkomalbbofaa", sum := "ac8f4247413c801b4d39f37ac3c0139816489d6ded135cd3759305a37db35685", func := "partbook/partbooklaw26.LayoutCounts", spec := "layoutCounts", unfollowed := true, recurses := true, apart := false }
def LayoutCountsSaid : Prop := layoutCountsRow.holds Try.pinned (OpenSpec.ofChange layoutCountsSpec)

/-- ITS FALSE NEIGHBOUR: 'it returns false'. Refute it at one input. -/
def layoutCountsWrong : ChangeSpec := { name := "layoutCounts", fn := fun _ => fun
  | [d1, d2] => { results := [.lit (.bool false)], args := [d1, d2] }
  | _ => none }
def LayoutCountsWrongFalsely : Prop := layoutCountsRow.holds Try.pinned (OpenSpec.ofChange layoutCountsWrong)

/- THE SECOND FORM. 'bulk': how many values and letters a reading holds, each counted each time it is reached (what is shared counts as often as it is met; a slice's spare places count too). A statement '..UptoSaid' is the law's where the arguments, and the package variables that the reading takes, are together of bulk at most 1048576: NARROWER than '..Said'. Prove '..Said' where nothing that the law and all that it calls make is longer than what came in: it says more and counts as full. Else prove '..UptoSaid'. A law counts once. -/
mutual
def uptoBulk {H : Type} : DataW H → Nat
  | .lit (.string bytes) => bytes.length + 1
  | .lit _ => 1
  | .nil => 1
  | .ptr d => uptoBulk d + 1
  | .slice elems spare => uptoBulkAll elems + uptoBulkAll spare + 1
  | .agg parts => uptoBulkAll parts + 1
  | .iface _ d => uptoBulk d + 1
  | .map entries => uptoBulkEntries entries + 1
  | .held _ => 1
def uptoBulkAll {H : Type} : List (DataW H) → Nat
  | [] => 0
  | d :: r => uptoBulk d + uptoBulkAll r
def uptoBulkEntries {H : Type} : List (Lit × DataW H) → Nat
  | [] => 0
  | x :: r => uptoBulkEntry x + uptoBulkEntries r
def uptoBulkEntry {H : Type} : Lit × DataW H → Nat
  | (.string bytes, d) => bytes.length + uptoBulk d + 1
  | (_, d) => uptoBulk d + 1
 end
def uptoSmall : (H : Type) → List (DataW H) → Bool := fun _ ds => decide (uptoBulkAll ds ≤ 1048576)
def OpenSpec.upto (s : _root_.Go.ChangeSpec) : _root_.Go.OpenSpec := { _root_.Go.OpenSpec.ofChange s with cond := some uptoSmall }

/-- 'partbooklaw26.LayoutMatchesReference', WHERE WHAT IT READS IS OF BULK AT MOST 1048576: true; the input reads as it did. -/
def layoutMatchesReferenceUptoRow : OpenClaim := { program := "ytpggkomalbbofaa", sum := "ac8f4247413c801b4d39f37ac3c0139816489d6ded135cd3759305a37db35685", func := "partbook/partbooklaw26.LayoutMatchesReference", spec := "layoutMatchesReference", unfollowed := true, recurses := true, apart := false, narrowed := true }
def LayoutMatchesReferenceUptoSaid : Prop := layoutMatchesReferenceUptoRow.holds Try.pinned (OpenSpec.upto layoutMatchesReferenceSpec)

/-- 'partbooklaw26.LayoutFits', WHERE WHAT IT READS IS OF BULK AT MOST 1048576: true; the input reads as it did. -/
def layoutFitsUptoRow : OpenClaim := { program := "ytpggkomalbbofaa", sum := "ac8f4247413c801b4d39f37ac3c0139816489d6ded135cd3759305a37db35685", func := "partbook/partbooklaw26.LayoutFits", spec := "layoutFits", unfollowed := true, recurses := true, apart := false, narrowed := true }
def LayoutFitsUptoSaid : Prop := layoutFitsUptoRow.holds Try.pinned (OpenSpec.upto layoutFitsSpec)

/-- 'partbooklaw26.LayoutLeast', WHERE WHAT IT READS IS OF BULK AT MOST 1048576: true; the input reads as it did. -/
def layoutLeastUptoRow : OpenClaim := { program := "ytpggkomalbbofaa", sum := "ac8f4247413c801b4d39f37ac3c0139816489d6ded135cd3759305a37db35685", func := "partbook/partbooklaw26.LayoutLeast", spec := "layoutLeast", unfollowed := true, recurses := true, apart := false, narrowed := true }
def LayoutLeastUptoSaid : Prop := layoutLeastUptoRow.holds Try.pinned (OpenSpec.upto layoutLeastSpec)

/-- 'partbooklaw26.LayoutGrows', WHERE WHAT IT READS IS OF BULK AT MOST 1048576: true; the input reads as it did. -/
def layoutGrowsUptoRow : OpenClaim := { program := "ytpggkomalbbofaa", sum := "ac8f4247413c801b4d39f37ac3c0139816489d6ded135cd3759305a37db35685", func := "partbook/partbooklaw26.LayoutGrows", spec := "layoutGrows", unfollowed := true, recurses := true, apart := false, narrowed := true }
def LayoutGrowsUptoSaid : Prop := layoutGrowsUptoRow.holds Try.pinned (OpenSpec.upto layoutGrowsSpec)

/-- 'partbooklaw26.LayoutFilled', WHERE WHAT IT READS IS OF BULK AT MOST 1048576: true; the input reads as it did. -/
def layoutFilledUptoRow : OpenClaim := { program := "ytpggkomalbbofaa", sum := "ac8f4247413c801b4d39f37ac3c0139816489d6ded135cd3759305a37db35685", func := "partbook/partbooklaw26.LayoutFilled", spec := "layoutFilled", unfollowed := true, recurses := true, apart := false, narrowed := true }
def LayoutFilledUptoSaid : Prop := layoutFilledUptoRow.holds Try.pinned (OpenSpec.upto layoutFilledSpec)

/-- 'partbooklaw26.LayoutCounts', WHERE WHAT IT READS IS OF BULK AT MOST 1048576: true; the input reads as it did. -/
def layoutCountsUptoRow : OpenClaim := { program := "ytpggkomalbbofaa", sum := "ac8f4247413c801b4d39f37ac3c0139816489d6ded135cd3759305a37db35685", func := "partbook/partbooklaw26.LayoutCounts", spec := "layoutCounts", unfollowed := true, recurses := true, apart := false, narrowed := true }
def LayoutCountsUptoSaid : Prop := layoutCountsUptoRow.holds Try.pinned (OpenSpec.upto layoutCountsSpec)

end Rows
end Go.Proofs.Ytpggkomalbbofaa
