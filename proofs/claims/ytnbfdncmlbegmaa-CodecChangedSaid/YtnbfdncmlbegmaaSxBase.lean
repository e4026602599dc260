/-
  A symbolic executor for Go functions: the state in slots, blocks of the call's own, and what is known of the rest of memory; rules for the code's structure. It holds for any program.
-/
import Derived.WalkKit
import Derived.ProofKit
import Derived.Deep.Quiet
import Derived.StillTail
import Derived.Deep.LoopGhost
import Derived.Sort.LoopGhostIn
import Derived.RangeFuncWrites
import Derived.OrdersIn
import Derived.TacticsIn
set_option linter.unusedVariables false
namespace Go.SX
open Go Go.RowKit

/-- A symbolic value: a value of Go, or one that names a block of the call's own by its place in the list of blocks. -/
inductive SV where
  | val (x : Value)
  | loc (k off : Nat)
  | lsl (k off len cap : Nat)
  | agg (cs : List SV)
  | tup (vs : List SV)
  | fn (f : Fn) (first caps : List SV)

mutual
def den (ρ : Nat → Nat) : SV → Value
  | .val x => x
  | .loc k off => .pointer (some ⟨ρ k, off, none⟩)
  | .lsl k off len cap => .slice (some ⟨ρ k, off, none⟩) len cap
  | .agg cs => .agg (denL ρ cs).toArray
  | .tup vs => .tuple (denL ρ vs).toArray
  | .fn f a b => .func f (denL ρ a).toArray (denL ρ b).toArray
def denL (ρ : Nat → Nat) : List SV → List Value
  | [] => []
  | s :: l => den ρ s :: denL ρ l
end

theorem denL_eq (ρ : Nat → Nat) : ∀ l, denL ρ l = l.map (den ρ)
  | [] => by simp [denL]
  | s :: l => by simp [denL, denL_eq ρ l]
@[simp] theorem denL_length (ρ : Nat → Nat) (l : List SV) : (denL ρ l).length = l.length := by simp [denL_eq]

/-- A block of the call's own: a row of cells whose number is hidden; a slice that the call may write and append to, with what its cells hold; a map. -/
inductive Own where
  | cells (T : TypeId) (cs : List SV)
  | slice (T : TypeId) (sz : Nat) (v : Value) (n : Nat) (xs : List Value)
  | map (r : Nat) (es : Array MapEntry) (clock : Nat)
  | dead

def Own.num (ρ : Nat → Nat) (k : Nat) : Own → Option Nat
  | .cells _ _ => some (ρ k)
  | .slice _ _ v _ _ => v.ownBlock
  | .map r _ _ => some r
  | .dead => none

def Own.holds (ρ : Nat → Nat) (k : Nat) (w : World) : Own → Prop
  | .cells T cs => w.heap[ρ k]? = some (.cells (denL ρ cs).toArray T (0, 0))
  | .slice T sz v n xs => w.ownsRow 0 T sz v n xs
  | .map r es clock => w.heap[r]? = some (.map es clock)
  | .dead => True

/-- What lies at the blocks of S in world s lies there in w. -/
structure Keep (S : Nat → Prop) (s w : World) : Prop where
  os : w.os = s.os
  tape : w.tape = s.tape
  output : w.output = s.output
  size : s.heap.size ≤ w.heap.size
  block : ∀ k, S k → k < s.heap.size → w.heap[k]? = s.heap[k]?

theorem Keep.refl (S : Nat → Prop) (s : World) : Keep S s s := ⟨rfl, rfl, rfl, Nat.le_refl _, fun _ _ _ => rfl⟩
theorem Keep.below {S : Nat → Prop} {s w w' : World} (h : Keep S s w) (hb : Below w.heap.size w w') : Keep S s w' :=
  ⟨hb.os.trans h.os, hb.tape.trans h.tape, hb.output.trans h.output, Nat.le_trans h.size hb.size, fun k hk hs => (hb.block k (Nat.lt_of_lt_of_le hs h.size)).trans (h.block k hk hs)⟩
theorem Keep.trans {S : Nat → Prop} {s w u : World} (h : Keep S s w) (h' : Keep S w u) : Keep S s u :=
  ⟨h'.os.trans h.os, h'.tape.trans h.tape, h'.output.trans h.output, Nat.le_trans h.size h'.size, fun k hk hs => (h'.block k hk (Nat.lt_of_lt_of_le hs h.size)).trans (h.block k hk hs)⟩
theorem Keep.toBelow {s w : World} (h : Keep (fun _ => True) s w) : Below s.heap.size s w :=
  ⟨h.os, h.tape, h.output, h.size, fun k hk => h.block k trivial hk⟩
theorem Keep.mono {S S' : Nat → Prop} {s w : World} (h : Keep S s w) (hS : ∀ k, S' k → k < s.heap.size → S k) : Keep S' s w :=
  ⟨h.os, h.tape, h.output, h.size, fun k hk hs => h.block k (hS k hk hs) hs⟩
theorem Keep.ofBelow {s w : World} (h : Below s.heap.size s w) (S : Nat → Prop) : Keep S s w :=
  ⟨h.os, h.tape, h.output, h.size, fun k _ hs => h.block k hs⟩

theorem below_drew (w : World) : Below w.heap.size w { w with drawn := w.drawn + 1 } := ⟨rfl, rfl, rfl, Nat.le_refl _, fun _ _ => rfl⟩

/-- A deferred call: the mark of a loop over a function, or a call. -/
inductive Dm where
  | mk (D : Nat)
  | fn (d : Deferred)
def mark : Dm → Deferred
  | .mk D => { target := .collected D, args := #[] }
  | .fn d => d

/-- The symbolic state: how many slots there are; what slots hold; the blocks of the call's own; worlds that the call has seen, each with blocks that have not been written since. -/
structure St where
  n : Nat
  env : List (Nat × SV)
  own : List Own
  snaps : List ((Nat → Prop) × World)
  dfs : List Dm := []


def getE : List (Nat × SV) → Nat → Option SV
  | [], _ => none
  | (j, s) :: l, i => if j = i then some s else getE l i

def St.put (σ : St) (d : Option Nat) (s : SV) : St :=
  match d with
  | some d => { σ with env := (d, s) :: σ.env }
  | none => σ

def Agree (m : Nat) (ρ ρ' : Nat → Nat) : Prop := ∀ i, i < m → ρ' i = ρ i
theorem Agree.refl (m : Nat) (ρ : Nat → Nat) : Agree m ρ ρ := fun _ _ => rfl
theorem Agree.trans {m : Nat} {ρ ρ' ρ'' : Nat → Nat} (h : Agree m ρ ρ') (h' : Agree m ρ' ρ'') : Agree m ρ ρ'' := fun i hi => (h' i hi).trans (h i hi)
theorem Agree.mono {m m' : Nat} {ρ ρ' : Nat → Nat} (h : Agree m ρ ρ') (hm : m' ≤ m) : Agree m' ρ ρ' := fun i hi => h i (Nat.lt_of_lt_of_le hi hm)

/-- What is known of memory. -/
structure Base (ρ : Nat → Nat) (σ : St) (w : World) : Prop where
  own : ∀ k (o : Own), σ.own[k]? = some o → ∀ ρ', Agree σ.own.length ρ ρ' → o.holds ρ' k w
  apart : ∀ i j (oi oj : Own) b, σ.own[i]? = some oi → σ.own[j]? = some oj → oi.num ρ i = some b → oj.num ρ j = some b → i = j
  keep : ∀ p, p ∈ σ.snaps → Keep p.1 p.2 w ∧ ∀ k (o : Own) b, σ.own[k]? = some o → o.num ρ k = some b → p.1 b → p.2.heap.size ≤ b

structure Sat (ρ : Nat → Nat) (σ : St) (a : Act) (w : World) : Prop where
  size : a.tmps.size = σ.n
  defers : a.defers = σ.dfs.map mark
  env : ∀ i s, getE σ.env i = some s → i < σ.n ∧ ∀ ρ', Agree σ.own.length ρ ρ' → a.tmps[i]? = some (den ρ' s)
  base : Base ρ σ w

theorem Own.lt {ρ : Nat → Nat} {k : Nat} {w : World} {o : Own} {b : Nat} (h : o.holds ρ k w) (hn : o.num ρ k = some b) : b < w.heap.size := by
  cases o with
  | cells T cs => simp only [Own.num, Option.some.injEq] at hn; subst hn; exact (Array.getElem?_eq_some_iff.1 h).1
  | slice T sz v n xs => exact (World.ownsRow.lt h b hn).2
  | map r es c => simp only [Own.num, Option.some.injEq] at hn; subst hn; exact (Array.getElem?_eq_some_iff.1 h).1
  | dead => cases hn

theorem Own.holds_same {ρ : Nat → Nat} {k : Nat} {w w' : World} {o : Own} (h : o.holds ρ k w) (hb : ∀ b, o.num ρ k = some b → w'.heap[b]? = w.heap[b]?) : o.holds ρ k w' := by
  cases o with
  | cells T cs => exact (hb _ rfl).trans h
  | slice T sz v n xs =>
    refine ⟨h.1, ?_⟩
    rcases h.2 with hn | ⟨g, cap, cur, rfl, h0, hgg, rest⟩
    · exact .inl hn
    · exact .inr ⟨g, cap, cur, rfl, h0, (hb g rfl).trans hgg, rest⟩
  | map r es c => exact (hb _ rfl).trans h
  | dead => trivial

theorem Own.num_agree {ρ ρ' : Nat → Nat} {m k : Nat} {o : Own} (h : Agree m ρ ρ') (hk : k < m) : o.num ρ' k = o.num ρ k := by
  cases o <;> simp [Own.num, h k hk]

/-- Nothing of the call's own has been written: calls, draws. -/
theorem Base.below {ρ : Nat → Nat} {σ : St} {w w' : World} (h : Base ρ σ w) (hb : Below w.heap.size w w') : Base ρ σ w' where
  own k o hk ρ' hρ := Own.holds_same (h.own k o hk ρ' hρ) fun b hn => hb.block b (Own.lt (h.own k o hk ρ' hρ) hn)
  apart := h.apart
  keep p hp := ⟨(h.keep p hp).1.below hb, (h.keep p hp).2⟩

theorem Sat.below {ρ : Nat → Nat} {σ : St} {a : Act} {w w' : World} (h : Sat ρ σ a w) (hb : Below w.heap.size w w') : Sat ρ σ a w' := ⟨h.size, h.defers, h.env, h.base.below hb⟩

theorem Base.put {ρ : Nat → Nat} {σ : St} {w : World} (h : Base ρ σ w) (d : Option Nat) (s : SV) : Base ρ (σ.put d s) w := by
  cases d with
  | none => exact h
  | some d => exact ⟨h.own, h.apart, h.keep⟩

theorem Sat.put {ρ : Nat → Nat} {σ : St} {a : Act} {w : World} (h : Sat ρ σ a w) (d : Option Nat) (s : SV) (v : Value) (hd : ∀ i, d = some i → i < σ.n)
    (hv : ∀ ρ', Agree σ.own.length ρ ρ' → v = den ρ' s) : Sat ρ (σ.put d s) (a.put d v) w := by
  cases d with
  | none => exact h
  | some d =>
    have hd' : d < σ.n := hd d rfl
    refine ⟨by simpa [Act.put, St.put] using h.size, h.defers, fun i s' hi => ?_, h.base.put _ _⟩
    simp only [St.put, getE] at hi
    simp only [Act.put, St.put]
    split at hi
    · rename_i he
      subst he
      simp only [Option.some.injEq] at hi
      subst hi
      refine ⟨hd', fun ρ' hρ => ?_⟩
      have : d < a.tmps.size := by rw [h.size]; exact hd'
      simp [this, hv ρ' hρ]
    · rename_i he
      refine ⟨(h.env i s' hi).1, fun ρ' hρ => ?_⟩
      have := (h.env i s' hi).2 ρ' hρ
      rw [Array.getElem?_setIfInBounds_ne he]
      exact this

/-! ### The code's structure -/

def lift (Q : Exit → St → Prop) : Exit → Act → World → Prop := fun e a w => ∃ ρ σ, Sat ρ σ a w ∧ Q e σ

/-- From every state that the symbolic state describes the code goes to an exit and a state that Q allows. -/
def Fr (r : Option Nat) : Fence := { Fence.wide with round := r }
/-- .. in a round of loop r, or in none. -/
def WR (r : Option Nat) (P : Program) (c : Code) (Q : Exit → St → Prop) (σ : St) : Prop := ∀ ρ a w, Sat ρ σ a w → c.wpIn (Fr r) 0 P (lift Q) a w
abbrev W := WR none
theorem wp_of {P : Program} {c : Code} {Q : Exit → Act → World → Prop} {a : Act} {w : World} (h : c.wpIn (Fr none) 0 P Q a w) : c.wp P Q a w := wpIn_wide.1 h
theorem of_wp {P : Program} {c : Code} {Q : Exit → Act → World → Prop} {a : Act} {w : World} (h : c.wp P Q a w) : c.wpIn (Fr none) 0 P Q a w := wpIn_wide.2 h

def andThen (M : St → Prop) (Q : Exit → St → Prop) : Exit → St → Prop
  | .normal, σ => M σ
  | e, σ => Q e σ
def inBlk (id : Nat) (Q : Exit → St → Prop) : Exit → St → Prop
  | .exit i, σ => if i = id then Q .normal σ else Q (.exit i) σ
  | e, σ => Q e σ

section
variable {r : Option Nat} {P : Program} {Q : Exit → St → Prop} {σ : St}

theorem W.mono {c : Code} {Q' : Exit → St → Prop} (h : WR r P c Q σ) (hq : ∀ e σ, Q e σ → Q' e σ) : WR r P c Q' σ := fun ρ a w hs =>
  wpIn_mono (h ρ a w hs) fun e a w ⟨ρ, σ, hs, hq'⟩ => ⟨ρ, σ, hs, hq _ _ hq'⟩
theorem W.skip (h : Q .normal σ) : WR r P .skip Q σ := fun ρ _ _ hs => wpIn_skip ⟨ρ, σ, hs, h⟩
theorem W.exit {id : Nat} (h : Q (.exit id) σ) : WR r P (.exit id) Q σ := fun ρ _ _ hs => wpIn_exit ⟨ρ, σ, hs, h⟩
theorem W.ret (h : Q .ret σ) : WR r P .ret Q σ := fun ρ _ _ hs => wpIn_ret ⟨ρ, σ, hs, h⟩
theorem W.seqM {x y : Code} (M : St → Prop) (h1 : WR r P x (andThen M Q) σ) (h2 : ∀ σ', M σ' → WR r P y Q σ') : WR r P (.seq x y) Q σ := fun ρ a w hs =>
  wpIn_seq (wpIn_mono (h1 ρ a w hs) fun e a' w' ⟨ρ', σ', hs', hq⟩ => by
    cases e with
    | normal => exact h2 σ' hq ρ' a' w' hs'
    | exit => exact ⟨ρ', σ', hs', hq⟩
    | goto => exact ⟨ρ', σ', hs', hq⟩
    | ret => exact ⟨ρ', σ', hs', hq⟩
    | panic => exact ⟨ρ', σ', hs', hq⟩
    | outgrown => exact ⟨ρ', σ', hs', hq⟩)
/-- What follows behind a variable. -/
theorem W.seqK {x y : Code} (h : ∀ K : St → Prop, (∀ t, WR r P y Q t → K t) → WR r P x (andThen K Q) σ) : WR r P (.seq x y) Q σ := W.seqM _ (h _ fun _ h => h) fun _ h => h
/-- One state behind x. -/
theorem W.seq {x y : Code} {s : St} (h1 : WR r P x (andThen (fun t => t = s) Q) σ) (h2 : WR r P y Q s) : WR r P (.seq x y) Q σ := W.seqM _ h1 fun _ h => h ▸ h2
theorem W.block {id : Nat} {c : Code} (h : WR r P c (inBlk id Q) σ) : WR r P (.block id c) Q σ := fun ρ a w hs =>
  wpIn_block (wpIn_mono (h ρ a w hs) fun e a' w' ⟨ρ', σ', hs', hq⟩ => by
    cases e with
    | exit i =>
      simp only [inBlk] at hq
      simp only [Exit.inBlock]
      split
      · rename_i hi; rw [if_pos hi] at hq; exact ⟨ρ', σ', hs', hq⟩
      · rename_i hi; rw [if_neg hi] at hq; exact ⟨ρ', σ', hs', hq⟩
    | _ => exact ⟨ρ', σ', hs', hq⟩)

theorem Sat.eval {ρ : Nat → Nat} {a : Act} {w : World} (h : Sat ρ σ a w) {t : Nat} {s : SV} (hs : getE σ.env t = some s) : a.tmps[t]? = some (den ρ s) := (h.env t s hs).2 ρ (Agree.refl _ _)

theorem W.cond {c : Operand} {x y : Code} {t : Nat} {b : Bool} (hc : c = .tmp t) (hb : getE σ.env t = some (.val (.bool b))) (h1 : b = true → WR r P x Q σ) (h2 : b = false → WR r P y Q σ) : WR r P (.cond c x y) Q σ := fun ρ a w hs => by
  subst hc
  have he := hs.eval hb
  have hv : a.eval (.tmp t) = .bool b := by simp [Act.eval, Array.getD_eq_getD_getElem?, he, den]
  exact wpIn_cond_split hv (fun h => h1 h ρ a w hs) (fun h => h2 h ρ a w hs)
end

/-! ### Forgetting -/

mutual
def bnd (m : Nat) : SV → Bool
  | .val _ => true
  | .loc k _ => decide (k < m)
  | .lsl k _ _ _ => decide (k < m)
  | .agg cs => bndL m cs
  | .tup vs => bndL m vs
  | .fn _ a b => bndL m a && bndL m b
def bndL (m : Nat) : List SV → Bool
  | [] => true
  | s :: l => bnd m s && bndL m l
end

mutual
theorem den_agree {m : Nat} {ρ ρ' : Nat → Nat} (h : Agree m ρ ρ') : ∀ s, bnd m s = true → den ρ' s = den ρ s
  | .val _, _ => by simp [den]
  | .loc k _, hb => by simp [den, h k (by simpa [bnd] using hb)]
  | .lsl k _ _ _, hb => by simp [den, h k (by simpa [bnd] using hb)]
  | .agg cs, hb => by simp only [den]; rw [denL_agree h cs (by simpa [bnd] using hb)]
  | .tup vs, hb => by simp only [den]; rw [denL_agree h vs (by simpa [bnd] using hb)]
  | .fn _ a b, hb => by
    simp only [bnd, Bool.and_eq_true] at hb
    simp only [den]; rw [denL_agree h a hb.1, denL_agree h b hb.2]
theorem denL_agree {m : Nat} {ρ ρ' : Nat → Nat} (h : Agree m ρ ρ') : ∀ l, bndL m l = true → denL ρ' l = denL ρ l
  | [], _ => rfl
  | s :: l, hb => by
    simp only [bndL, Bool.and_eq_true] at hb
    simp only [denL]; rw [den_agree h s hb.1, denL_agree h l hb.2]
end

def Own.bnd (m : Nat) : Own → Bool
  | .cells _ cs => bndL m cs
  | _ => true

theorem Own.holds_agree {m k : Nat} {ρ ρ' : Nat → Nat} {w : World} {o : Own} (h : Agree m ρ ρ') (hk : k < m) (hb : o.bnd m = true) (hh : o.holds ρ k w) : o.holds ρ' k w := by
  cases o with
  | cells T cs => simp only [Own.holds] at *; rw [h k hk, denL_agree h cs hb]; exact hh
  | slice T sz v n xs => exact hh
  | map r es c => exact hh
  | dead => trivial

/-- σ' says no more than σ. -/
structure Le (σ σ' : St) : Prop where
  n : (σ'.n, σ'.dfs) = (σ.n, σ.dfs)
  env : ∀ p, p ∈ σ'.env → getE σ.env p.1 = some p.2 ∧ bnd σ'.own.length p.2 = true
  own : ∃ t, σ.own = σ'.own ++ t
  bnd : ∀ o, o ∈ σ'.own → o.bnd σ'.own.length = true
  snaps : ∀ p, p ∈ σ'.snaps → p ∈ σ.snaps

theorem Le.nn {σ σ' : St} (h : Le σ σ') : σ'.n = σ.n := congrArg Prod.fst h.n
theorem Le.dd {σ σ' : St} (h : Le σ σ') : σ'.dfs = σ.dfs := congrArg Prod.snd h.n
theorem getE_mem : ∀ {l : List (Nat × SV)} {i : Nat} {s : SV}, getE l i = some s → (i, s) ∈ l
  | [], _, _, h => by cases h
  | (j, s') :: l, i, s, h => by
    simp only [getE] at h
    split at h
    · rename_i he; subst he; simp only [Option.some.injEq] at h; subst h; exact List.mem_cons_self
    · exact List.mem_cons_of_mem _ (getE_mem h)

theorem Sat.le {ρ : Nat → Nat} {σ σ' : St} {a : Act} {w : World} (hs : Sat ρ σ a w) (h : Le σ σ') : Sat ρ σ' a w := by
  obtain ⟨t, ht⟩ := h.own
  have hidx : ∀ (k : Nat) (o : Own), σ'.own[k]? = some o → σ.own[k]? = some o := fun k o hk => by
    rw [ht, List.getElem?_append_left (List.getElem?_eq_some_iff.1 hk).1]; exact hk
  refine ⟨hs.size.trans h.nn.symm, by rw [h.dd]; exact hs.defers, fun i s hi => ?_, ⟨fun k o hk ρ' hρ => ?_, fun i j oi oj b h1 h2 => hs.base.apart i j oi oj b (hidx _ _ h1) (hidx _ _ h2), fun p hp => ?_⟩⟩
  · obtain ⟨h1, h2⟩ := h.env _ (getE_mem hi)
    refine ⟨by rw [h.nn]; exact (hs.env i s h1).1, fun ρ' hρ => ?_⟩
    rw [den_agree hρ s h2]
    exact hs.eval h1
  · have hk' := hidx k o hk
    exact Own.holds_agree hρ (List.getElem?_eq_some_iff.1 hk).1 (h.bnd o (List.mem_of_getElem? hk)) (hs.base.own k o hk' ρ (Agree.refl _ _))
  · obtain ⟨h1, h2⟩ := hs.base.keep p (h.snaps p hp)
    exact ⟨h1, fun k o b hk => h2 k o b (hidx k o hk)⟩

section
variable {r : Option Nat} {P : Program} {Q : Exit → St → Prop} {σ : St}

theorem W.le {c : Code} {σ' : St} (h : Le σ σ') (hw : WR r P c Q σ') : WR r P c Q σ := fun ρ a w hs => hw ρ a w (hs.le h)

theorem W.loop {c : Code} {X : Type} (inv : X → St) (I : X → Prop) (μ : X → Nat) (x0 : X) (h0 : Le σ (inv x0)) (hI : I x0)
    (body : ∀ x, I x → WR r P c (andThen (fun σ' => ∃ x', I x' ∧ μ x' < μ x ∧ Le σ' (inv x')) Q) (inv x)) : WR r P (.loop c) Q σ := fun ρ a w hs => by
  refine wpIn_loop_ghost (fun n a w => ∃ x ρ, I x ∧ μ x = n ∧ Sat ρ (inv x) a w) (μ x0) ⟨x0, ρ, hI, rfl, hs.le h0⟩ ?_
  rintro n a w ⟨x, ρ, hx, rfl, hs⟩
  refine wpIn_mono (body x hx ρ a w hs) ?_
  rintro e a' w' ⟨ρ', σ', hs', hq⟩
  cases e with
  | normal => obtain ⟨x', hx', hlt, hle⟩ := hq; exact ⟨μ x', hlt, x', ρ', hx', rfl, hs'.le hle⟩
  | exit id => exact ⟨ρ', σ', hs', hq⟩
  | goto l => exact ⟨ρ', σ', hs', hq⟩
  | ret => exact ⟨ρ', σ', hs', hq⟩
  | panic ch => exact ⟨ρ', σ', hs', hq⟩
  | outgrown => exact ⟨ρ', σ', hs', hq⟩
end

/-! ### A function -/

end Go.SX
