/-
  Layout: sums of widths, without the program.
-/
import Derived.Test.YtpggkomalbbofaaP4
set_option linter.unusedVariables false
namespace Go.Proofs.Ytpggkomalbbofaa
open Go Go.SX Go.RowKit

/-- the widths of the first n measures together -/
def preS (l : List Int) : Nat → Int
  | 0 => 0
  | n + 1 => preS l n + l.getD n 0
theorem preS_get {l : List Int} {n : Nat} (h : n < l.length) : preS l (n + 1) = preS l n + l[n] := by
  simp only [preS]; rw [List.getD_eq_getElem?_getD, List.getElem?_eq_getElem h]; rfl
theorem width_at {l : List Int} (h : l.all (within 1 100000) = true) {n : Nat} (hn : n < l.length) : 1 ≤ l[n] ∧ l[n] ≤ 100000 := within_iff.1 (List.all_eq_true.1 h _ (List.getElem_mem hn))
theorem preS_mono {l : List Int} (h : l.all (within 1 100000) = true) {m : Nat} : ∀ n, m ≤ n → n ≤ l.length → ((n : Int) - m) ≤ preS l n - preS l m ∧ preS l n - preS l m ≤ 100000 * ((n : Int) - m)
  | 0, h1, h2 => by obtain rfl : m = 0 := by omega
                    simp
  | n + 1, h1, h2 => by
    rcases Nat.lt_or_ge n m with h3 | h3
    · obtain rfl : m = n + 1 := by omega
      simp
    · have ih := preS_mono h n h3 (by omega)
      have h4 := width_at h (n := n) (by omega)
      rw [preS_get (by omega)]; omega
/-- the widths from one measure to another, together -/
def segS (l : List Int) (a b : Int) : Int := preS l b.toNat - preS l a.toNat
theorem segS_take {ws : List Int} {a b : Nat} (h : a ≤ b) (hb : b ≤ ws.length) : ∀ i, i ≤ b - a → preS ((ws.drop a).take (b - a)) i = preS ws (a + i) - preS ws a
  | 0, _ => by simp [preS]
  | i + 1, hi => by
    have ih := segS_take h hb i (by omega)
    have hl : i < ((ws.drop a).take (b - a)).length := by rw [List.length_take, List.length_drop]; omega
    rw [preS_get hl, ih, show a + (i + 1) = a + i + 1 by omega, preS_get (by omega), List.getElem_take, List.getElem_drop]
    omega
def fitF (ws : List Int) (width : Int) (l : List Pg) : Bool := l.all fun p => decide (segS ws p.1 p.2 ≤ width)
def validF (ws : List Int) (width : Int) (l : List Pg) : Bool := widthsF ws && (pagedF l ws.length && (within 1 100000 width && fitF ws width l))
end Go.Proofs.Ytpggkomalbbofaa
