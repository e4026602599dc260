/-
  Keys: equal lists: walks.
-/
import Derived.Test.YtpbohhfpbjofaaaDoorK3
set_option linter.unusedVariables false
set_option linter.unusedSimpArgs false
set_option maxHeartbeats 400000
namespace Go.Proofs.YtpbohhfpbjofaaaDoor
open Go Go.SX Go.RowKit

/-- a pitch: Step, Alter, Octave -/
abbrev Pit := Int × Int × Int
def rPit : Rp Pit := Rp.pair rInt (Rp.pair rInt rInt)
def rPits : Rp (List Pit) := Rp.slice rPit
theorem rPit_open {S : Nat → Prop} {w : World} {ces : List Value} {d : Pit} (h : rPit.rd S w ces d) : ces = [.int .i64 d.1, .int .i64 d.2.1, .int .i64 d.2.2] := by
  obtain ⟨c1, c2, rfl, h1, d1, d2, rfl, h2, h3⟩ := h
  have h1 : c1 = [.int .i64 d.1] := h1
  have h2 : d1 = [.int .i64 d.2.1] := h2
  have h3 : d2 = [.int .i64 d.2.2] := h3
  subst h1; subst h2; subst h3
  rfl
theorem rPit_mk {S : Nat → Prop} {w : World} (a b c : Int) : rPit.rd S w [.int .i64 a, .int .i64 b, .int .i64 c] (a, b, c) := ⟨[.int .i64 a], _, rfl, rfl, [.int .i64 b], _, rfl, rfl, rfl⟩
theorem pit_eq (a b : Pit) : ([a.1, a.2.1, a.2.2] == [b.1, b.2.1, b.2.2]) = decide (a = b) := by
  obtain ⟨a1, a2, a3⟩ := a
  obtain ⟨b1, b2, b3⟩ := b
  by_cases h : (a1, a2, a3) = (b1, b2, b3)
  · rw [decide_eq_true h]; simp only [Prod.mk.injEq] at h; obtain ⟨rfl, rfl, rfl⟩ := h; simp
  · rw [decide_eq_false h, beq_eq_false_iff_ne]; intro h'; simp only [List.cons.injEq, and_true] at h'; exact h (by simp only [Prod.mk.injEq]; exact h')
end Go.Proofs.YtpbohhfpbjofaaaDoor
