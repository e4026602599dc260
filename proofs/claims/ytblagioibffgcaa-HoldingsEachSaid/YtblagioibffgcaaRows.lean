/-
  No cell of these rows narrows 'for every input' (looked for: loops, veiled, ifaces, maps, wideKeys, modest, calm, conditions, laid).
  DERIVED. THE GIVEN ROWS OF THIS SEAT. 5 by the template 'for every input the law returns true; each argument reads behind the call as it read before'; 0 by the template 'total and deterministic' (their statements: YtblagioibffgcaaTotals.lean).
  GIVEN WITH THE SEED: the statements are not yours to turn. If you find one false, say at which input.
  Laid BY PROGRAM, IN A SANDBOX (cutbox-rows.mjs): the forced cells as the released guide's own fill.sh prints them over the translation 3ce0b133b48c9298… (all of the seat's roots in one cut). By AI agents, Wed Nov 11 2026. No macro, syntax, notation, axiom, sorry.
-/
import Derived.Test.YtblagioibffgcaaChecked
import GoSem.Claim
import GoSem.ClaimJoined
import GoSem.ClaimMapViews
import Derived.JoinedTies
import Derived.KernelRfl
namespace Go.Proofs.Ytblagioibffgcaa
/- THE CELL 'sum', in the pinned program and in every row, IS THE sha256 OF THE DUMP (.gsa) THAT YtblagioibffgcaaProg.lean LOADS. Nothing in Lean hashes anything: it is a label: what it is worth is what the hold of that sum in a sandbox is worth. -/
noncomputable def Try.pinned : Pinned := { name := "ytblagioibffgcaa", sum := "3ce0b133b48c9298f0940d73dd786416c4fcb7a32b21612cb3ec2ebfde9134e2", checked := Try.checked }
namespace Rows
def none {H : Type} : Left H := { results := [], args := [] }

/-- 'partbooklaw34.HoldingsMatchesReference': WHATEVER THE INPUT: true; the input reads as it did. -/
def holdingsMatchesReferenceSpec : ChangeSpec := { name := "holdingsMatchesReference", fn := fun _ => fun
  | [d1, d2, d3] => { results := [.lit (.bool true)], args := [d1, d2, d3] }
  | _ => none }
def holdingsMatchesReferenceRow : OpenClaim := { program := "ytblagioibffgcaa", sum := "3ce0b133b48c9298f0940d73dd786416c4fcb7a32b21612cb3ec2ebfde9134e2", func := "partbook/partbooklaw34.HoldingsMatchesReference", spec := "holdingsMatchesReference", unfollowed := true, recurses := true, apart := false }
def HoldingsMatchesReferenceSaid : Prop := holdingsMatchesReferenceRow.holds Try.pinned (OpenSpec.ofChange holdingsMatchesReferenceSpec)

/-- ITS FALSE NEIGHBOUR: 'it returns false'. Refute it at one input. -/
def holdingsMatchesReferenceWrong : ChangeSpec := { name := "holdingsMatchesReference", fn := fun _ => fun
  | [d1, d2, d3] => { results := [.lit (.bool false)], args := [d1, d2, d3] }
  | _ => none }
def HoldingsMatchesReferenceWrongFalsely : Prop := holdingsMatchesReferenceRow.holds Try.pinned (OpenSpec.ofChange holdingsMatchesReferenceWrong)

/-- 'partbooklaw34.HoldingsEach': WHATEVER THE INPUT: true; the input reads as it did. -/
def holdingsEachSpec : ChangeSpec := { name := "holdingsEach", fn := fun _ => fun
  | [d1, d2, d3, d4, d5, d6] => { results := [.lit (.bool true)], args := [d1, d2, d3, d4, d5, d6] }
  | _ => none }
def holdingsEachRow : OpenClaim := { program := "ytblagioibffgcaa", sum := "3ce0b133b48c9298f0940d73dd786416c4fcb7a32b21612cb3ec2ebfde9134e2", func := "partbook/partbooklaw34.HoldingsEach", spec := "holdingsEach", unfollowed := true, recurses := true, apart := false }
def HoldingsEachSaid : Prop := holdingsEachRow.holds Try.pinned (OpenSpec.ofChange holdingsEachSpec)

/-- ITS FALSE NEIGHBOUR: 'it returns false'. Refute it at one input. -/
def holdingsEachWrong : ChangeSpec := { name := "holdingsEach", fn := fun _ => fun
  | [d1, d2, d3, d4, d5, d6] => { results := [.lit (.bool false)], args := [d1, d2, d3, d4, d5, d6] }
  | _ => none }
def HoldingsEachWrongFalsely : Prop := holdingsEachRow.holds Try.pinned (OpenSpec.ofChange holdingsEachWrong)

/-- 'partbooklaw34.HoldingsPrefers': WHATEVER THE INPUT: true; the input reads as it did. -/
def holdingsPrefersSpec : ChangeSpec := { name := "holdingsPrefers", fn := fun _ => fun
  | [d1, d2, d3, d4, d5, d6] => { results := [.lit (.bool true)], args := [d1, d2, d3, d4, d5, d6] }
  | _ => none }
def holdingsPrefersRow : OpenClaim := { program := "ytblagioibffgcaa", sum := "3ce0b133b48c9298f0940d73dd786416c4fcb7a32b21612cb3ec2ebfde9134e2", func := "partbook/partbooklaw34.HoldingsPrefers", spec := "holdingsPrefers", unfollowed := true, recurses := true, apart := false }
def HoldingsPrefersSaid : Prop := holdingsPrefersRow.holds Try.pinned (OpenSpec.ofChange holdingsPrefersSpec)

/-- ITS FALSE NEIGHBOUR: 'it returns false'. Refute it at one input. -/
def holdingsPrefersWrong : ChangeSpec := { name := "holdingsPrefers", fn := fun _ => fun
  | [d1, d2, d3, d4, d5, d6] => { results := [.lit (.bool false)], args := [d1, d2, d3, d4, d5, d6] }
  | _ => none }
def HoldingsPrefersWrongFalsely : Prop := holdingsPrefersRow.holds Try.pinned (OpenSpec.ofChange holdingsPrefersWrong)

/-- 'partbooklaw34.HoldingsHalls': WHATEVER THE INPUT: true; the input reads as it did. -/
def holdingsHallsSpec : ChangeSpec := { name := "holdingsHalls", fn := fun _ => fun
  | [d1, d2, d3, d4, d5] => { results := [.lit (.bool true)], args := [d1, d2, d3, d4, d5] }
  | _ => none }
def holdingsHallsRow : OpenClaim := { program := "ytblagioibffgcaa", sum := "3ce0b133b48c9298f0940d73dd786416c4fcb7a32b21612cb3ec2ebfde9134e2", func := "partbook/partbooklaw34.HoldingsHalls", spec := "holdingsHalls", unfollowed := true, recurses := true, apart := false }
def HoldingsHallsSaid : Prop := holdingsHallsRow.holds Try.pinned (OpenSpec.ofChange holdingsHallsSpec)

/-- ITS FALSE NEIGHBOUR: 'it returns false'. Refute it at one input. -/
def holdingsHallsWrong : ChangeSpec := { name := "holdingsHalls", fn := fun _ => fun
  | [d1, d2, d3, d4, d5] => { results := [.lit (.bool false)], args := [d1, d2, d3, d4, d5] }
  | _ => none }
def HoldingsHallsWrongFalsely : Prop := holdingsHallsRow.holds Try.pinned (OpenSpec.ofChange holdingsHallsWrong)

/-- 'partbooklaw34.HoldingsEditions': WHATEVER THE INPUT: true; the input reads as it did. -/
def holdingsEditionsSpec : ChangeSpec := { name := "holdingsEditions", fn := fun _ => fun
  | [d1, d2, d3, d4, d5] => { results := [.lit (.bool true)], args := [d1, d2, d3, d4, d5] }
  | _ => none }
def holdingsEditionsRow : OpenClaim := { program := "ytblagioibffgcaa", sum := "3ce0b133b48c9298f0940d73dd786416c4fcb7a32b21612cb3ec2ebfde9134e2", func := "partbook/partbooklaw34.HoldingsEditions", spec := "holdingsEditions", unfollowed := true, recurses := true, apart := false }
def HoldingsEditionsSaid : Prop := holdingsEditionsRow.holds Try.pinned (OpenSpec.ofChange holdingsEditionsSpec)

/-- ITS FALSE NEIGHBOUR: 'it returns false'. Refute it at one input. -/
def holdingsEditionsWrong : ChangeSpec := { name := "holdingsEditions", fn := fun _ => fun
  | [d1, d2, d3, d4, d5] => { results := [.lit (.bool false)], args := [d1, d2, d3, d4, d5] }
  | _ => none }
def HoldingsEditionsWrongFalsely : Prop := holdingsEditionsRow.holds Try.pinned (OpenSpec.ofChange holdingsEditionsWrong)

/- THE SECOND FORM. 'bulk': how many values and letters a reading holds, each counted each time it is reached (what is shared counts as often as it is met; a slice's spare places count too). A statement '..UptoSaid' is the law's where the arguments, and the package variables that the reading takes, are together of bulk at most 1048576: NARROWER than '..Said'. Prove '..Said' where nothing that the law and all that it calls make is longer than what came in: it says more and counts as full. Else prove '..UptoSaid'. A law counts once. -/
mutual
def uptoBulk {H : Type} : DataW H → Nat
  | .lit (.string bytes) => bytes.length + 1
  | .lit _ => 1
  | .nil => 1
  | .ptr d => uptoBulk d + 1
  | .slice elems spare => uptoBulkAll elems + uptoBulkAll spare + 1
  | .agg parts => uptoBulkAll parts + 1
  | .iface _ d => uptoBulk d + 1
  | .map entries => uptoBulkEntries entries + 1
  | .held _ => 1
def uptoBulkAll {H : Type} : List (DataW H) → Nat
  | [] => 0
  | d :: r => uptoBulk d + uptoBulkAll r
def uptoBulkEntries {H : Type} : List (Lit × DataW H) → Nat
  | [] => 0
  | x :: r => uptoBulkEntry x + uptoBulkEntries r
def uptoBulkEntry {H : Type} : Lit × DataW H → Nat
  | (.string bytes, d) => bytes.length + uptoBulk d + 1
  | (_, d) => uptoBulk d + 1
 end
def uptoSmall : (H : Type) → List (DataW H) → Bool := fun _ ds => decide (uptoBulkAll ds ≤ 1048576)
def OpenSpec.upto (s : _root_.Go.ChangeSpec) : _root_.Go.OpenSpec := { _root_.Go.OpenSpec.ofChange s with cond := some uptoSmall }

/-- 'partbooklaw34.HoldingsMatchesReference', WHERE WHAT IT READS IS OF BULK AT MOST 1048576: true; the input reads as it did. -/
def holdingsMatchesReferenceUptoRow : OpenClaim := { program := "ytblagioibffgcaa", sum := "3ce0b133b48c9298f0940d73dd786416c4fcb7a32b21612cb3ec2ebfde9134e2", func := "partbook/partbooklaw34.HoldingsMatchesReference", spec := "holdingsMatchesReference", unfollowed := true, recurses := true, apart := false, narrowed := true }
def HoldingsMatchesReferenceUptoSaid : Prop := holdingsMatchesReferenceUptoRow.holds Try.pinned (OpenSpec.upto holdingsMatchesReferenceSpec)

/-- 'partbooklaw34.HoldingsEach', WHERE WHAT IT READS IS OF BULK AT MOST 1048576: true; the input reads as it did. -/
def holdingsEachUptoRow : OpenClaim := { program := "ytblagioibffgcaa", sum := "3ce0b133b48c9298f0940d73dd786416c4fcb7a32b21612cb3ec2ebfde9134e2", func := "partbook/partbooklaw34.HoldingsEach", spec := "holdingsEach", unfollowed := true, recurses := true, apart := false, narrowed := true }
def HoldingsEachUptoSaid : Prop := holdingsEachUptoRow.holds Try.pinned (OpenSpec.upto holdingsEachSpec)

/-- 'partbooklaw34.HoldingsPrefers', WHERE WHAT IT READS IS OF BULK AT MOST 1048576: true; the input reads as it did. -/
def holdingsPrefersUptoRow : OpenClaim := { program := "ytblagioibffgcaa", sum := "3ce0b133b48c9298f0940d73dd786416c4fcb7a32b21612cb3ec2ebfde9134e2", func := "partbook/partbooklaw34.HoldingsPrefers", spec := "holdingsPrefers", unfollowed := true, recurses := true, apart := false, narrowed := true }
def HoldingsPrefersUptoSaid : Prop := holdingsPrefersUptoRow.holds Try.pinned (OpenSpec.upto holdingsPrefersSpec)

/-- 'partbooklaw34.HoldingsHalls', WHERE WHAT IT READS IS OF BULK AT MOST 1048576: true; the input reads as it did. -/
def holdingsHallsUptoRow : OpenClaim := { program := "ytblagioibffgcaa", sum := "3ce0b133b48c9298f0940d73dd786416c4fcb7a32b21612cb3ec2ebfde9134e2", func := "partbook/partbooklaw34.HoldingsHalls", spec := "holdingsHalls", unfollowed := true, recurses := true, apart := false, narrowed := true }
def HoldingsHallsUptoSaid : Prop := holdingsHallsUptoRow.holds Try.pinned (OpenSpec.upto holdingsHallsSpec)

/-- 'partbooklaw34.HoldingsEditions', WHERE WHAT IT READS IS OF BULK AT MOST 1048576: true; the input reads as it did. -/
def holdingsEditionsUptoRow : OpenClaim := { program := "ytblagioibffgcaa", sum := "3ce0b133b48c9298f0940d73dd786416c4fcb7a32b21612cb3ec2ebfde9134e2", func := "partbook/partbooklaw34.HoldingsEditions", spec := "holdingsEditions", unfollowed := true, recurses := true, apart := false, narrowed := true }
def HoldingsEditionsUptoSaid : Prop := holdingsEditionsUptoRow.holds Try.pinned (OpenSpec.upto holdingsEditionsSpec)

end Rows
end Go.Proofs.Ytblagioibffgcaa
