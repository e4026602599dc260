/-
  Holdings, without the program: what demands and copies are as data, and what the functions compute.
-/
import Derived.Test.YtblagioibffgcaaSxMap
set_option linter.unusedVariables false
namespace Go.Proofs.Ytblagioibffgcaa
open Go Go.SX

/-- a demand: ID, Part, Stand, Editions -/
abbrev Dem := Int × Int × Int × List Int
/-- a copy: ID, Part, Edition, Hall -/
abbrev Cop := Int × Int × Int × Int
def rInt : Rp Int := Rp.int .i64
def rInts : Rp (List Int) := Rp.slice rInt
def rDem : Rp Dem := Rp.pair rInt (Rp.pair rInt (Rp.pair rInt rInts))
def rCop : Rp Cop := Rp.pair rInt (Rp.pair rInt (Rp.pair rInt rInt))
def rDems : Rp (List Dem) := Rp.slice rDem
def rCops : Rp (List Cop) := Rp.slice rCop
def rRows : Rp (List (List Int)) := Rp.slice rInts

theorem rInt_open {S : Nat → Prop} {w : World} {ces : List Value} {x : Int} (h : rInt.rd S w ces x) : ces = [.int .i64 x] := h
theorem rInts_open {S : Nat → Prop} {w : World} {ces : List Value} {l : List Int} (h : rInts.rd S w ces l) : ∃ p c, ces = [.slice p l.length c] ∧ l.length ≤ c ∧ c ≤ 9223372036854775807 := by
  obtain ⟨p, n, c, hv, rfl, h2, h3, _⟩ := h
  exact ⟨p, c, hv, h2, by rw [maxLen_eq] at h3; exact h3⟩
theorem rDem_open {S : Nat → Prop} {w : World} {ces : List Value} {d : Dem} (h : rDem.rd S w ces d) :
    ∃ p c, ces = [.int .i64 d.1, .int .i64 d.2.1, .int .i64 d.2.2.1, .slice p d.2.2.2.length c] ∧ rInts.rd S w [.slice p d.2.2.2.length c] d.2.2.2 ∧ d.2.2.2.length ≤ 9223372036854775807 := by
  obtain ⟨c1, c2, rfl, h1, d1, d2, rfl, h2, e1, e2, rfl, h3, h4⟩ := h
  obtain ⟨p, c, rfl, h5, h6⟩ := rInts_open h4
  have h1 : c1 = [.int .i64 d.1] := h1
  have h2 : d1 = [.int .i64 d.2.1] := h2
  have h3 : e1 = [.int .i64 d.2.2.1] := h3
  subst h1; subst h2; subst h3
  exact ⟨p, c, rfl, h4, by omega⟩
theorem rCop_open {S : Nat → Prop} {w : World} {ces : List Value} {d : Cop} (h : rCop.rd S w ces d) :
    ces = [.int .i64 d.1, .int .i64 d.2.1, .int .i64 d.2.2.1, .int .i64 d.2.2.2] := by
  obtain ⟨c1, c2, rfl, h1, d1, d2, rfl, h2, e1, e2, rfl, h3, h4⟩ := h
  have h1 : c1 = [.int .i64 d.1] := h1
  have h2 : d1 = [.int .i64 d.2.1] := h2
  have h3 : e1 = [.int .i64 d.2.2.1] := h3
  have h4 : e2 = [.int .i64 d.2.2.2] := h4
  subst h1; subst h2; subst h3; subst h4
  rfl

/-! ### Lists -/
def findI (p : Int → Bool) (l : List Int) : Int :=
  match l.findIdx? p with
  | some i => i
  | none => -1
def idxOf (l : List Int) (x : Int) : Int := findI (fun y => x == y) l
theorem findI_none {p : Int → Bool} {l : List Int} (h : ∀ (j : Nat) y, l[j]? = some y → p y = false) : findI p l = -1 := by
  unfold findI
  have : l.findIdx? p = none := by
    rw [List.findIdx?_eq_none_iff]
    intro y hy
    obtain ⟨j, hj, hjy⟩ := List.getElem_of_mem hy
    exact h j y (by rw [List.getElem?_eq_getElem hj, hjy])
  rw [this]
theorem findI_some {p : Int → Bool} {l : List Int} {i : Nat} {x : Int} (h : ∀ (j : Nat), j < i → ∀ y, l[j]? = some y → p y = false) (hi : l[i]? = some x) (hx : p x = true) : findI p l = i := by
  unfold findI
  obtain ⟨hlt, he⟩ := List.getElem?_eq_some_iff.1 hi
  have : l.findIdx? p = some i := by
    rw [List.findIdx?_eq_some_iff_getElem]
    refine ⟨hlt, by rw [he]; exact hx, fun j hj => ?_⟩
    have := h j hj l[j] (List.getElem?_eq_getElem (by omega))
    simp [this]
  rw [this]
theorem findI_any (p : Int → Bool) (l : List Int) : decide (0 ≤ findI p l) = l.any p := by
  unfold findI
  cases h : l.findIdx? p with
  | none =>
    rw [List.findIdx?_eq_none_iff] at h
    have : l.any p = false := by rw [List.any_eq_false]; intro x hx; simp [h x hx]
    rw [this]; rfl
  | some i =>
    rw [List.findIdx?_eq_some_iff_getElem] at h
    obtain ⟨hi, hp, _⟩ := h
    have : l.any p = true := List.any_eq_true.2 ⟨l[i], List.getElem_mem hi, hp⟩
    rw [this]; simp
theorem findI_bound (p : Int → Bool) (l : List Int) : -1 ≤ findI p l ∧ findI p l < l.length ∨ l = [] ∧ findI p l = -1 := by
  unfold findI
  cases h : l.findIdx? p with
  | none => cases l with
    | nil => exact .inr ⟨rfl, rfl⟩
    | cons x l => left; simp only [List.length_cons]; omega
  | some i =>
    rw [List.findIdx?_eq_some_iff_getElem] at h
    obtain ⟨hi, _⟩ := h
    left; simp only; omega

def within (lo hi n : Int) : Bool := decide (lo ≤ n) && decide (n ≤ hi)
theorem within_any (lo hi : Int) (l : List Int) : (!l.any fun n => decide (n < lo) || decide (hi < n)) = l.all (within lo hi) := by
  induction l with
  | nil => rfl
  | cons x l ih =>
    simp only [List.any_cons, List.all_cons, Bool.not_or, ih]
    congr 1
    unfold within
    by_cases h1 : x < lo <;> by_cases h2 : hi < x <;> simp [h1, h2] <;> omega

def validD (d : Dem) : Bool := within 1 1000000 d.1 && within 1 1000000 d.2.1 && within 1 1000000 d.2.2.1 && within 1 12 d.2.2.2.length && d.2.2.2.all (within 1 1000000) && decide d.2.2.2.Nodup
def validC (c : Cop) : Bool := within 1 1000000 c.1 && within 1 1000000 c.2.1 && within 1 1000000 c.2.2.1 && within 0 99 c.2.2.2
def validDs (ds : List Dem) : Bool := decide (ds.length ≤ 200) && ds.all validD && decide (ds.map (·.1)).Nodup
def validCs (cs : List Cop) : Bool := decide (cs.length ≤ 200) && cs.all validC && decide (cs.map (·.1)).Nodup
def valid (ds : List Dem) (cs : List Cop) : Bool := validDs ds && validCs cs
def costF (d : Dem) (c : Cop) (hall : Int) : Int :=
  if d.2.1 ≠ c.2.1 ∨ idxOf d.2.2.2 c.2.2.1 < 0 then -1 else if c.2.2.2 = hall then 10 * idxOf d.2.2.2 c.2.2.1 else 10 * idxOf d.2.2.2 c.2.2.1 + 5
def costsF (ds : List Dem) (cs : List Cop) (hall : Int) : List (List Int) := ds.map fun d => cs.map fun c => costF d c hall

theorem nodup_snoc {α : Type} [DecidableEq α] (l : List α) (x : α) : (l ++ [x]).Nodup ↔ l.Nodup ∧ x ∉ l := by
  rw [List.nodup_append]
  constructor
  · rintro ⟨h1, _, h2⟩
    exact ⟨h1, fun hx => h2 x hx x (by simp) rfl⟩
  · rintro ⟨h1, h2⟩
    refine ⟨h1, by simp, fun a ha b hb he => ?_⟩
    simp only [List.mem_singleton] at hb
    subst hb; subst he
    exact h2 ha
theorem take_map_snoc {α β : Type} (f : α → β) (l : List α) {i : Nat} {x : α} (h : l[i]? = some x) : (l.take (i + 1)).map f = (l.take i).map f ++ [f x] := by
  obtain ⟨hlt, rfl⟩ := List.getElem?_eq_some_iff.1 h
  rw [List.take_succ_eq_append_getElem hlt, List.map_append]
  rfl
end Go.Proofs.Ytblagioibffgcaa
