/-
  How data of Go's lie in memory: representations that compose, each with the blocks that it touches.
-/
import Derived.Test.YtnbfdncmlbegmaaSxRules
set_option linter.unusedVariables false
namespace Go.SX
open Go Go.RowKit

/-- A representation: so many cells; when cells of a world hold a datum, touching old blocks of S alone. -/
structure Rp (α : Type) where
  sz : Nat
  rd : (Nat → Prop) → World → List Value → α → Prop
  len : ∀ {S w cs x}, rd S w cs x → cs.length = sz
  frame : ∀ {S w w' cs x}, rd S w cs x → (∀ b, S b → b < w.heap.size → w'.heap[b]? = w.heap[b]?) → rd S w' cs x
  mono : ∀ {S S' w cs x}, rd S w cs x → (∀ b, S b → b < w.heap.size → S' b) → rd S' w cs x

theorem At.frame {w w' : World} {p : Addr} {cs : List Value} (h : At w p cs) (hb : w'.heap[p.block]? = w.heap[p.block]?) : At w' p cs := fun j v hv => by
  have hbl : (p.add j).block = p.block := by unfold Addr.add; split <;> rfl
  rw [World.cell?_of_block (w := w) (by rw [hbl]; exact hb)]
  exact h j v hv

def Rp.int (k : IntKind) : Rp Int where
  sz := 1
  rd _ _ cs x := cs = [.int k x]
  len h := by subst h; rfl
  frame h _ := h
  mono h _ := h
def Rp.bool : Rp Bool where
  sz := 1
  rd _ _ cs x := cs = [.bool x]
  len h := by subst h; rfl
  frame h _ := h
  mono h _ := h
def Rp.str : Rp ByteArray where
  sz := 1
  rd _ _ cs x := cs = [.string x] ∧ x.size ≤ maxLen
  len h := by rw [h.1]; rfl
  frame h _ := h
  mono h _ := h

def Rp.pair {α β : Type} (A : Rp α) (B : Rp β) : Rp (α × β) where
  sz := A.sz + B.sz
  rd S w cs x := ∃ c1 c2, cs = c1 ++ c2 ∧ A.rd S w c1 x.1 ∧ B.rd S w c2 x.2
  len h := by obtain ⟨c1, c2, rfl, h1, h2⟩ := h; simp [A.len h1, B.len h2]
  frame h hb := by obtain ⟨c1, c2, rfl, h1, h2⟩ := h; exact ⟨c1, c2, rfl, A.frame h1 hb, B.frame h2 hb⟩
  mono h hb := by obtain ⟨c1, c2, rfl, h1, h2⟩ := h; exact ⟨c1, c2, rfl, A.mono h1 hb, B.mono h2 hb⟩

/-- A slice: nil where empty, perhaps; else its elements lie one behind the other. -/
def Rp.slice {α : Type} (A : Rp α) : Rp (List α) where
  sz := 1
  rd S w cs x := ∃ p n c, cs = [.slice p n c] ∧ n = x.length ∧ n ≤ c ∧ c ≤ maxLen ∧
    (x = [] ∨ ∃ a, p = some a ∧ S a.block ∧ a.block < w.heap.size ∧ ∀ i y, x[i]? = some y → ∃ ces, At w (a.add (i * A.sz)) ces ∧ A.rd S w ces y)
  len h := by obtain ⟨p, n, c, rfl, _⟩ := h; rfl
  frame h hb := by
    obtain ⟨p, n, c, h1, h2, h3, h4, h5⟩ := h
    refine ⟨p, n, c, h1, h2, h3, h4, ?_⟩
    rcases h5 with h5 | ⟨a, h5, h6, h7, h8⟩
    · exact .inl h5
    · refine .inr ⟨a, h5, h6, ?_, fun i y hy => ?_⟩
      · have := hb _ h6 h7
        rw [Array.getElem?_eq_getElem h7] at this
        exact (Array.getElem?_eq_some_iff.1 this).1
      · obtain ⟨ces, hc1, hc2⟩ := h8 i y hy
        refine ⟨ces, hc1.frame ?_, A.frame hc2 hb⟩
        have hbl : (a.add (i * A.sz)).block = a.block := by unfold Addr.add; split <;> rfl
        rw [hbl]; exact hb _ h6 h7
  mono h hb := by
    obtain ⟨p, n, c, h1, h2, h3, h4, h5⟩ := h
    refine ⟨p, n, c, h1, h2, h3, h4, ?_⟩
    rcases h5 with h5 | ⟨a, h5, h6, h7, h8⟩
    · exact .inl h5
    · refine .inr ⟨a, h5, hb _ h6 h7, h7, fun i y hy => ?_⟩
      obtain ⟨ces, hc1, hc2⟩ := h8 i y hy
      exact ⟨ces, hc1, A.mono hc2 hb⟩

section
variable {α : Type} {A : Rp α} {S S' : Nat → Prop} {s w : World} {cs : List Value}
theorem Rp.keep {x : α} (h : A.rd S s cs x) (hk : Keep S s w) : A.rd S w cs x := A.frame h fun b hb hlt => hk.block b hb hlt
theorem Rp.any {x : α} (h : A.rd S s cs x) : A.rd (fun _ => True) s cs x := A.mono h fun _ _ _ => trivial
/-- What was read in the first world of a snapshot of everything is read now. -/
theorem Rp.now {x : α} (h : A.rd S s cs x) (hk : Keep (fun _ => True) s w) : A.rd S w cs x := A.frame h fun b _ hlt => hk.block b trivial hlt
theorem Rp.below {x : α} (h : A.rd S s cs x) (hk : Below s.heap.size s w) : A.rd S w cs x := A.frame h fun b _ hlt => hk.block b hlt

/-- A slice opened: its value, and its elements' places. -/
theorem Rp.slice_open {l : List α} (h : (Rp.slice A).rd S w cs l) : ∃ p c, cs = [.slice p l.length c] ∧ l.length ≤ c ∧ c ≤ maxLen ∧
    ((l = [] ∧ cs = [.slice p 0 c]) ∨ ∃ a, p = some a ∧ cs = [.slice (some a) l.length c] ∧ ∀ i y, l[i]? = some y → ∃ ces, At w (a.add (i * A.sz)) ces ∧ A.rd S w ces y) := by
  obtain ⟨p, n, c, rfl, rfl, h2, h3, h4⟩ := h
  refine ⟨p, c, rfl, h2, h3, ?_⟩
  rcases h4 with rfl | ⟨a, rfl, _, _, h8⟩
  · exact .inl ⟨rfl, rfl⟩
  · exact .inr ⟨a, rfl, rfl, h8⟩
end

/-- the snapshot of the function's own beginning -/
theorem Base.first {ρ : Nat → Nat} {σ : St} {w w0 : World} (h : Base ρ σ w) (hm : ((fun _ => True), w0) ∈ σ.snaps) : Keep (fun _ => True) w0 w := (h.keep _ hm).1
theorem Base.at {ρ : Nat → Nat} {σ : St} {w s : World} {S : Nat → Prop} (h : Base ρ σ w) (hm : (S, s) ∈ σ.snaps) : Keep S s w := (h.keep _ hm).1
end Go.SX
