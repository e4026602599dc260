/-
  Keys and intervals, without the program: what the functions compute.
-/
import Derived.Test.YtpbohhfpbjofaaaDoorSxBox
set_option linter.unusedVariables false
namespace Go.Proofs.YtpbohhfpbjofaaaDoor
open Go Go.SX

def rInt : Rp Int := Rp.int .i64
def rInts : Rp (List Int) := Rp.slice rInt
theorem rInt_open {S : Nat → Prop} {w : World} {ces : List Value} {x : Int} (h : rInt.rd S w ces x) : ces = [.int .i64 x] := h

def findI (p : Int → Bool) (l : List Int) : Int :=
  match l.findIdx? p with
  | some i => i
  | none => -1
def idxOf (l : List Int) (x : Int) : Int := findI (fun y => x == y) l
theorem findI_none {p : Int → Bool} {l : List Int} (h : ∀ (j : Nat) y, l[j]? = some y → p y = false) : findI p l = -1 := by
  unfold findI
  have : l.findIdx? p = none := by
    rw [List.findIdx?_eq_none_iff]
    intro y hy
    obtain ⟨j, hj, hjy⟩ := List.getElem_of_mem hy
    exact h j y (by rw [List.getElem?_eq_getElem hj, hjy])
  rw [this]
theorem findI_some {p : Int → Bool} {l : List Int} {i : Nat} {x : Int} (h : ∀ (j : Nat), j < i → ∀ y, l[j]? = some y → p y = false) (hi : l[i]? = some x) (hx : p x = true) : findI p l = i := by
  unfold findI
  obtain ⟨hlt, he⟩ := List.getElem?_eq_some_iff.1 hi
  have : l.findIdx? p = some i := by
    rw [List.findIdx?_eq_some_iff_getElem]
    refine ⟨hlt, by rw [he]; exact hx, fun j hj => ?_⟩
    have := h j hj l[j] (List.getElem?_eq_getElem (by omega))
    simp [this]
  rw [this]
theorem findI_bound (p : Int → Bool) (l : List Int) : -1 ≤ findI p l ∧ findI p l ≤ l.length := by
  unfold findI
  cases h : l.findIdx? p with
  | none => simp only; omega
  | some i =>
    rw [List.findIdx?_eq_some_iff_getElem] at h
    obtain ⟨hi, _⟩ := h
    simp only; omega

def within (lo hi n : Int) : Bool := decide (lo ≤ n) && decide (n ≤ hi)
theorem within_iff {lo hi n : Int} : within lo hi n = true ↔ lo ≤ n ∧ n ≤ hi := by simp [within]
def isKey (n : Int) : Bool := within (-7) 7 n
def formed (a b : Int) : Bool := within (-70) 70 a && within (-120) 120 b
theorem formed_iff {a b : Int} : formed a b = true ↔ -70 ≤ a ∧ a ≤ 70 ∧ -120 ≤ b ∧ b ≤ 120 := by simp [formed, within]; omega
def backF (a b : Int) : Int × Int × Int := if formed a b = true then (-a, -b, 0) else (0, 0, 1)
def fifthsF (a b : Int) : Int × Int := if formed a b = true then (7 * b - 12 * a, 0) else (0, 1)
theorem backF_yes {a b : Int} (h : formed a b = true) : backF a b = (-a, -b, 0) := if_pos h
theorem backF_no {a b : Int} (h : formed a b = false) : backF a b = (0, 0, 1) := if_neg (by rw [h]; decide)
theorem fifthsF_yes {a b : Int} (h : formed a b = true) : fifthsF a b = (7 * b - 12 * a, 0) := if_pos h
theorem fifthsF_no {a b : Int} (h : formed a b = false) : fifthsF a b = (0, 1) := if_neg (by rw [h]; decide)
theorem backF_err (a b : Int) : ((backF a b).2.2 == 0) = formed a b := by
  cases h : formed a b with
  | true => rw [backF_yes h]; rfl
  | false => rw [backF_no h]; rfl
def sharps : List Int := [3, 0, 4, 1, 5, 2, 6]
def alterF (key step : Int) : Int := if idxOf sharps step < key then 1 else if key < idxOf sharps step - 6 then -1 else 0
def AlterF (key step : Int) : Int × Int := if (isKey key && within 0 6 step) = true then (alterF key step, 0) else (0, 1)
theorem AlterF_yes {key step : Int} (h : (isKey key && within 0 6 step) = true) : AlterF key step = (alterF key step, 0) := if_pos h
theorem AlterF_no {key step : Int} (h : (isKey key && within 0 6 step) = false) : AlterF key step = (0, 1) := if_neg (by rw [h]; decide)
end Go.Proofs.YtpbohhfpbjofaaaDoor
