/-
  Layout: what the functions compute, without the program.
-/
import Derived.Test.YtpggkomalbbofaaTy
set_option linter.unusedVariables false
namespace Go.Proofs.Ytpggkomalbbofaa
open Go Go.SX Go.RowKit

def within (lo hi n : Int) : Bool := decide (lo ≤ n) && decide (n ≤ hi)
theorem within_iff {lo hi n : Int} : within lo hi n = true ↔ lo ≤ n ∧ n ≤ hi := by simp [within]
abbrev Pg := Int × Int
abbrev rInt : Rp Int := Rp.int .i64
abbrev rInts : Rp (List Int) := Rp.slice rInt
abbrev rBools : Rp (List Bool) := Rp.slice Rp.bool
abbrev rPg : Rp Pg := Rp.pair rInt rInt
abbrev rPgs : Rp (List Pg) := Rp.slice rPg
theorem rInt_open {S : Nat → Prop} {w : World} {ces : List Value} {x : Int} (h : rInt.rd S w ces x) : ces = [.int .i64 x] := h
theorem rBool_open {S : Nat → Prop} {w : World} {ces : List Value} {x : Bool} (h : Rp.bool.rd S w ces x) : ces = [.bool x] := h
theorem rPg_open {S : Nat → Prop} {w : World} {ces : List Value} {x : Pg} (h : rPg.rd S w ces x) : ces = [.int .i64 x.1, .int .i64 x.2] := by
  obtain ⟨c1, c2, e, h1, h2⟩ := h
  have h1 : c1 = [.int .i64 x.1] := h1
  have h2 : c2 = [.int .i64 x.2] := h2
  rw [e, h1, h2]; rfl
theorem rPg_mk {S : Nat → Prop} {w : World} (a b : Int) : rPg.rd S w [.int .i64 a, .int .i64 b] (a, b) := ⟨[.int .i64 a], [.int .i64 b], rfl, rfl, rfl⟩
theorem all_false {α : Type} {p : α → Bool} {l : List α} {i : Nat} {x : α} (h : l[i]? = some x) (hp : p x = false) : l.all p = false := by
  rw [List.all_eq_false]; exact ⟨x, List.mem_of_getElem? h, by simp [hp]⟩
theorem all_idx {α : Type} {p : α → Bool} {l : List α} {n : Nat} (hn : l.length ≤ n) (h : ∀ j, j < n → ∀ x, l[j]? = some x → p x = true) : l.all p = true := by
  rw [List.all_eq_true]; intro x hx
  obtain ⟨j, hj, rfl⟩ := List.mem_iff_getElem.1 hx
  exact h j (by omega) _ (List.getElem?_eq_getElem hj)
/-- pages: where the next one begins -/
def pgGo (many : Int) : Int → List Pg → Option Int
  | f, [] => some f
  | f, p :: l => if p.1 = f ∧ f < p.2 ∧ p.2 ≤ many then pgGo many p.2 l else none
def pagedF (l : List Pg) (many : Int) : Bool := decide (pgGo many 0 l = some many) && decide (l.length ≤ 1000)
theorem pgGo_app (many : Int) : ∀ (f : Int) (l m : List Pg), pgGo many f (l ++ m) = (pgGo many f l).bind fun g => pgGo many g m
  | f, [], m => rfl
  | f, p :: l, m => by
    simp only [List.cons_append, pgGo]
    split
    · exact pgGo_app many p.2 l m
    · rfl
theorem pgGo_step {many f : Int} {l : List Pg} {i : Nat} (hi : i < l.length) (h : pgGo many 0 (l.take i) = some f) : pgGo many 0 (l.take (i + 1)) = if l[i].1 = f ∧ f < l[i].2 ∧ l[i].2 ≤ many then some l[i].2 else none := by
  rw [List.take_add_one, List.getElem?_eq_getElem hi, Option.toList_some, pgGo_app, h]
  rfl
theorem pgGo_bad {many : Int} {l : List Pg} {i : Nat} (h : pgGo many 0 (l.take i) = none) : pgGo many 0 l = none := by
  rw [← List.take_append_drop i l, pgGo_app, h]; rfl
def widthsF (l : List Int) : Bool := l.all (within 1 100000) && decide (l.length ≤ 4000)
end Go.Proofs.Ytpggkomalbbofaa
