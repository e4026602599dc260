/-
  Layout: turns, and what pages fit, without the program.
-/
import Derived.Test.YtpggkomalbbofaaP3
set_option linter.unusedVariables false
namespace Go.Proofs.Ytpggkomalbbofaa
open Go Go.SX Go.RowKit

/-- a turn behind page i that is bad -/
def badAt (l : List Pg) (good : List Bool) (i : Nat) : Bool := decide (i % 2 = 0) && (decide (i + 1 < l.length) && !(good.getD (l.getD i (0, 0)).2.toNat true))
def turnsN (l : List Pg) (good : List Bool) : Nat → Nat
  | 0 => 0
  | i + 1 => turnsN l good i + (if badAt l good i = true then 1 else 0)
def turnsF (l : List Pg) (good : List Bool) : Nat := turnsN l good l.length
theorem turnsN_le (l : List Pg) (good : List Bool) : ∀ n, turnsN l good n ≤ n
  | 0 => Nat.le_refl _
  | n + 1 => by have := turnsN_le l good n; unfold turnsN; split <;> omega
theorem pgGo_none {many : Int} {l : List Pg} {f : Int} {i : Nat} (h : pgGo many 0 l = some f) : ∃ g, pgGo many 0 (l.take i) = some g := by
  cases hg : pgGo many 0 (l.take i) with
  | some g => exact ⟨g, rfl⟩
  | none => rw [pgGo_bad hg] at h; cases h
theorem pgGo_pos {many : Int} : ∀ {l : List Pg} {f g : Int}, pgGo many f l = some g → f ≤ g
  | [], f, g, h => by simp only [pgGo, Option.some.injEq] at h; omega
  | p :: l, f, g, h => by
    simp only [pgGo] at h
    split at h
    · have := pgGo_pos h; omega
    · cases h
/-- page i of pages: where it begins and ends -/
theorem paged_at {many f : Int} {l : List Pg} (h : pgGo many 0 l = some f) {i : Nat} (hi : i < l.length) : 0 ≤ l[i].1 ∧ l[i].1 < l[i].2 ∧ l[i].2 ≤ many ∧ pgGo many 0 (l.take i) = some l[i].1 ∧ pgGo many 0 (l.take (i + 1)) = some l[i].2 := by
  obtain ⟨g, hg⟩ := pgGo_none (i := i) h
  obtain ⟨g2, hg2⟩ := pgGo_none (i := i + 1) h
  have hst := pgGo_step hi hg
  rw [hg2] at hst
  split at hst
  · rename_i hc
    obtain rfl := Option.some.inj hst
    have := pgGo_pos hg
    refine ⟨by omega, by omega, hc.2.2, by rw [hg, hc.1], hg2⟩
  · cases hst
theorem paged_next {many f : Int} {l : List Pg} (h : pgGo many 0 l = some f) {i : Nat} (hi : i + 1 < l.length) : l[i].2 = l[i + 1].1 ∧ l[i].2 < many := by
  have h1 := paged_at h (i := i) (by omega)
  have h2 := paged_at h hi
  have h3 := h1.2.2.2.2.symm.trans h2.2.2.2.1
  obtain h4 := Option.some.inj h3
  exact ⟨h4, by omega⟩
end Go.Proofs.Ytpggkomalbbofaa
