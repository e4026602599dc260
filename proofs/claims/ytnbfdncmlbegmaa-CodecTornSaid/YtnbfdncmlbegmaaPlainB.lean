/-
  Codec: bytes of integers, and what bytes are read as, without the program.
-/
import Derived.Test.YtnbfdncmlbegmaaPlainA
set_option linter.unusedVariables false
namespace Go.Proofs.Ytnbfdncmlbegmaa
open Go Go.SX Go.RowKit

theorem all_false {α : Type} {p : α → Bool} {l : List α} {i : Nat} {x : α} (h : l[i]? = some x) (hp : p x = false) : l.all p = false := by
  rw [List.all_eq_false]; exact ⟨x, List.mem_of_getElem? h, by simp [hp]⟩
/-- the bytes of a number: seven bits each, the lowest first -/
def leb : Nat → Int → List Int
  | 0, u => [u]
  | f + 1, u => if u < 128 then [u] else (u % 128 + 128) :: leb f (u / 128)
def oneF (n : Int) : List Int := leb 9 (zig n)
theorem leb_len : ∀ (f : Nat) (u : Int), 1 ≤ (leb f u).length ∧ (leb f u).length ≤ f + 1
  | 0, u => by simp [leb]
  | f + 1, u => by
    have := leb_len f (u / 128)
    unfold leb; split
    · simp
    · simp; omega
theorem oneF_len (n : Int) : 1 ≤ (oneF n).length ∧ (oneF n).length ≤ 10 := leb_len 9 _
theorem leb_bytes : ∀ (f : Nat) (u : Int), 0 ≤ u → u < 128 ^ (f + 1) → ∀ x, x ∈ leb f u → isB x
  | 0, u, h0, h1, x, hx => by
    simp only [leb, List.mem_singleton] at hx; subst hx; unfold isB; simp at h1; omega
  | f + 1, u, h0, h1, x, hx => by
    unfold leb at hx
    split at hx
    · simp only [List.mem_singleton] at hx; subst hx; unfold isB; omega
    · rcases List.mem_cons.1 hx with rfl | hx
      · unfold isB; omega
      · refine leb_bytes f (u / 128) (by omega) ?_ x hx
        rw [Int.pow_succ] at h1
        exact Int.ediv_lt_of_lt_mul (by decide) h1
theorem oneF_bytes {n : Int} (h : isI n) : ∀ x, x ∈ oneF n → isB x := by
  have := zig_range h
  exact leb_bytes 9 _ this.1 (by have h2 : (128 : Int) ^ (9 + 1) = 1180591620717411303424 := by decide
                                 rw [h2]; omega)
def putsF (l : List Int) : List Int := (l.map oneF).flatten
def putF (l : List Int) : List Int := oneF l.length ++ putsF l
theorem putsF_app (l m : List Int) : putsF (l ++ m) = putsF l ++ putsF m := by simp [putsF]
theorem putsF_len : ∀ l : List Int, (putsF l).length ≤ 10 * l.length
  | [] => Nat.le_refl _
  | n :: l => by
    have h1 := putsF_len l
    have h2 := oneF_len n
    simp only [putsF, List.map_cons, List.flatten_cons, List.length_append, List.length_cons] at *
    omega
theorem putF_len (l : List Int) : 1 ≤ (putF l).length ∧ (putF l).length ≤ 10 * l.length + 10 := by
  have h1 := putsF_len l
  have h2 := oneF_len l.length
  simp only [putF, List.length_append]; omega
/-- what Put answers -/
def PutF (l : List Int) : List Int × Int := if 4000 < l.length then ([], 2) else (putF l, 0)

/-- a number read of bytes, so many having been read, and how many bytes it has -/
def readG : List Int → Nat → Int → Option (Int × Nat)
  | [], _, _ => none
  | c :: b, i, u =>
    if 9 < i ∨ (i = 9 ∧ 1 < c) then none
    else if 127 < c then readG b (i + 1) (u + c % 128 * 2 ^ (7 * i))
    else if c = 0 ∧ 0 < i then none
    else some (u + c % 128 * 2 ^ (7 * i), i + 1)
def readF (b : List Int) : Option (Int × Nat) := (readG b 0 0).map fun x => (unzig x.1, x.2)
def getN : Nat → List Int → Option (List Int × List Int)
  | 0, b => some ([], b)
  | n + 1, b => match readF b with
    | none => none
    | some (v, k) => (getN n (b.drop k)).map fun x => (v :: x.1, x.2)
def getF (b : List Int) : Option (List Int) :=
  match readF b with
  | none => none
  | some (n, k) => if n < 0 ∨ 4000 < n then none else
    match getN n.toNat (b.drop k) with
    | some (l, []) => some l
    | _ => none
def GetF (b : List Int) : List Int × Int := match getF b with
  | some l => (l, 0)
  | none => ([], 7)
end Go.Proofs.Ytnbfdncmlbegmaa
