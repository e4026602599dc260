/-
  Match: a column is looked for, for a row, by moving others: walk.
-/
import Derived.Test.YtolmeekbjonbcaaGreatB1
import Derived.RangeFuncNested
import Derived.Defers
import Derived.Recover
import Derived.Laws.BytesString
import Derived.ChangeKeysEq
import Derived.Test.YtolmeekbjonbcaaGreatRows
set_option linter.unusedVariables false
set_option linter.unusedSimpArgs false
namespace Go.SX
open Go Go.RowKit
/-- Of one operation: what must have come up ahead of it; of these, whose values it reads; which slots it reads as they were; which own blocks may turn meanwhile; which own block it turns; is that a new one. -/
structure Pl where
  bef : List Nat
  rd : List Nat
  old : List Nat
  gone : List Nat
  tgt : Option Nat
  new : Bool
def kp2 (s : Option SV) (t : Nat) (E : List (Nat × SV)) : List (Nat × SV) := match s with
  | some s => (t, s) :: E
  | none => E
mutual
def ment (k : Nat) : SV → Bool
  | .val _ => false
  | .loc j _ => j == k
  | .lsl j _ _ _ => j == k
  | .agg cs => mentL k cs
  | .tup vs => mentL k vs
  | .fn _ a b => mentL k a || mentL k b
def mentL (k : Nat) : List SV → Bool
  | [] => false
  | s :: l => ment k s || mentL k l
end
mutual
theorem den_ment (ρ : Nat → Nat) {k b : Nat} : ∀ s, ment k s = false → den (upd ρ k b) s = den ρ s
  | .val _, _ => by simp [den]
  | .loc j _, h => by simp only [ment, beq_eq_false_iff_ne] at h; simp [den, upd, h]
  | .lsl j _ _ _, h => by simp only [ment, beq_eq_false_iff_ne] at h; simp [den, upd, h]
  | .agg cs, h => by simp only [den]; rw [denL_ment ρ cs (by simpa [ment] using h)]
  | .tup vs, h => by simp only [den]; rw [denL_ment ρ vs (by simpa [ment] using h)]
  | .fn _ a c, h => by
    simp only [ment, Bool.or_eq_false_iff] at h
    simp only [den]; rw [denL_ment ρ a h.1, denL_ment ρ c h.2]
theorem denL_ment (ρ : Nat → Nat) {k b : Nat} : ∀ l, mentL k l = false → denL (upd ρ k b) l = denL ρ l
  | [], _ => rfl
  | s :: l, h => by
    simp only [mentL, Bool.or_eq_false_iff] at h
    simp only [denL]; rw [den_ment ρ s h.1, denL_ment ρ l h.2]
end
def mentO (k : Nat) : Option Own → Bool
  | some (.cells _ cs) => mentL k cs
  | _ => false
section
variable {P : Program} {ops : Array Oper} {Q : Exit → St → Prop} {σ : St} {ds tg : List (Option Nat)} {pad : List Own}
def befOf (pls : List Pl) (i : Nat) : List Nat := match nth pls i with
  | some p => p.bef
  | none => []
/-- Fewer blocks are spoken of. -/
theorem Base.weak {ρ : Nat → Nat} {w : World} {n n' : Nat} {e e' : List (Nat × SV)} {U V : List Own} {sn : List ((Nat → Prop) × World)} {F : List Dm} (hb : Base ρ ⟨n, e, U, sn, F⟩ w) (hl : V.length = U.length) (h : ∀ (k : Nat) (o : Own), V[k]? = some o → o = .dead ∨ U[k]? = some o) : Base ρ ⟨n', e', V, sn, F⟩ w := by
  refine ⟨fun k o hk ρ' hρ => ?_, fun i j oi oj b hi hj hni hnj => ?_, fun p hp => ⟨(hb.keep p hp).1, fun k o b hk hn hS => ?_⟩⟩
  · rcases h k o hk with rfl | h1
    · trivial
    · exact hb.own k o h1 ρ' (by rw [show ({ n := n, env := e, own := U, snaps := sn } : St).own.length = V.length from hl.symm]; exact hρ)
  · rcases h i oi hi with rfl | h1
    · cases hni
    · rcases h j oj hj with rfl | h2
      · cases hnj
      · exact hb.apart i j oi oj b h1 h2 hni hnj
  · rcases h k o hk with rfl | h1
    · cases hn
    · exact (hb.keep p hp).2 k o b h1 hn hS
/-- A new block comes to a place that was kept for it. -/
theorem Base.place {ρ : Nat → Nat} {w : World} {n : Nat} {e : List (Nat × SV)} {U : List Own} {sn : List ((Nat → Prop) × World)} {F : List Dm} (hb : Base ρ ⟨n, e, U, sn, F⟩ w) {k : Nat} (hk : U[k]? = some .dead) {T : TypeId} {cs : List SV} (hbd : bndL U.length cs = true) (hm : mentL k cs = false)
    (hc : ∀ (j : Nat) (o : Own), U[j]? = some o → mentO k (some o) = false) : Base (upd ρ k w.heap.size) ⟨n, e, U.set k (.cells T cs), sn, F⟩ { w with heap := w.heap.push (.cells (denL ρ cs).toArray T) } := by
  have hkl : k < U.length := (List.getElem?_eq_some_iff.1 hk).1
  have hb' : Below w.heap.size w { w with heap := w.heap.push (.cells (denL ρ cs).toArray T) } := below_push w _
  have hcase : ∀ (j : Nat) (o : Own), (U.set k (.cells T cs))[j]? = some o → (j = k ∧ o = .cells T cs) ∨ (j ≠ k ∧ U[j]? = some o) := fun j o hj => by
    by_cases h : j = k
    · subst h; rw [List.getElem?_set_self hkl] at hj; exact .inl ⟨rfl, (Option.some.inj hj).symm⟩
    · rw [List.getElem?_set_ne (Ne.symm h)] at hj; exact .inr ⟨h, hj⟩
  have hnum : ∀ j (o : Own), j ≠ k → o.num (upd ρ k w.heap.size) j = o.num ρ j := fun j o h => by cases o <;> simp [Own.num, upd, h]
  have hlt : ∀ j (o : Own) b, U[j]? = some o → o.num ρ j = some b → b < w.heap.size := fun j o b hj hn => Own.lt (hb.own j o hj ρ (Agree.refl _ _)) hn
  refine ⟨fun j o hj ρ' hρ => ?_, fun i j oi oj b hi hj hni hnj => ?_, fun p hp => ?_⟩
  · have hρl : Agree U.length (upd ρ k w.heap.size) ρ' := by
      have : ({ n := n, env := e, own := U.set k (.cells T cs), snaps := sn } : St).own.length = U.length := by simp
      rw [this] at hρ; exact hρ
    rcases hcase j o hj with ⟨rfl, rfl⟩ | ⟨h1, h2⟩
    · simp only [Own.holds]
      have e1 : ρ' j = w.heap.size := by rw [hρl j hkl]; simp [upd]
      rw [e1, denL_agree hρl cs hbd, denL_ment ρ cs hm]
      simp
    · have hag : Agree U.length ρ (upd ρ' k (ρ k)) := fun i hi => by
        by_cases hik : i = k
        · subst hik; simp [upd]
        · have := hρl i hi; simp [upd, hik] at this ⊢; exact this
      have h3 := hb.own j o h2 _ hag
      have h4 : o.holds ρ' j w := by
        cases o with
        | cells T' cs' =>
          simp only [Own.holds] at h3 ⊢
          rw [denL_ment ρ' cs' (by simpa [mentO] using hc j _ h2)] at h3
          simpa [upd, h1] using h3
        | slice => exact h3
        | map => exact h3
        | dead => trivial
      exact Own.holds_same h4 fun b hn => hb'.block b (Own.lt h4 hn)
  · rcases hcase i oi hi with ⟨rfl, rfl⟩ | ⟨h1, h2⟩ <;> rcases hcase j oj hj with ⟨rfl, rfl⟩ | ⟨h3, h4⟩
    · rfl
    · rw [hnum j oj h3] at hnj
      have := hlt j oj b h4 hnj
      simp [Own.num, upd] at hni; omega
    · rw [hnum i oi h1] at hni
      have := hlt i oi b h2 hni
      simp [Own.num, upd] at hnj; omega
    · exact hb.apart i j oi oj b h2 h4 (by rw [← hnum i oi h1]; exact hni) (by rw [← hnum j oj h3]; exact hnj)
  · obtain ⟨h1, h2⟩ := hb.keep p hp
    refine ⟨h1.below hb', fun j o b hj hn hS => ?_⟩
    rcases hcase j o hj with ⟨rfl, rfl⟩ | ⟨h3, h4⟩
    · simp [Own.num, upd] at hn; have := h1.size; omega
    · rw [hnum j o h3] at hn
      exact h2 j o b h4 hn hS
structure PlanOK0 (ops : Array Oper) (ds tg : List (Option Nat)) (pls : List Pl) (n m M : Nat) : Prop where
  hds : dsOk ds ops.toList = true
  hdl : ds.length = ops.size
  hpl : pls.length = ops.size
  htg : ∀ i p, nth pls i = some p → nth tg i = some p.tgt
  hdn : ∀ i d, nth ds i = some (some d) → d < n
  bef : ∀ i p, nth pls i = some p → p.bef = (List.range i).filter fun j => p.bef.contains j
  clo : ∀ i p, nth pls i = some p → ∀ j, j ∈ p.bef → Region.waitsFor .any ops i j = true ∨ ∃ k, k < i ∧ Region.waitsFor .any ops i k = true ∧ j ∈ befOf pls k
  rdb : ∀ i p, nth pls i = some p → ∀ j, j ∈ p.rd → j ∈ p.bef
  old : ∀ i p, nth pls i = some p → ∀ t, t ∈ p.old → ∀ j, j < ops.size → nth ds j = some (some t) → i ∈ befOf pls j
  dist : ∀ i p, nth pls i = some p → ∀ d, nth ds i = some (some d) → ∀ j, j < i → nth ds j ≠ some (some d)
  tgt : ∀ i p, nth pls i = some p → ∀ k, p.tgt = some k → k < M ∧ k ∉ p.gone ∧ (p.new = true → m ≤ k ∧ ∀ j, j < i → nth tg j ≠ some (some k))
  oth : ∀ i p, nth pls i = some p → ∀ l, l < ops.size → l ≠ i → ∀ k, nth tg l = some (some k) → (p.tgt = some k → (l < i → l ∈ p.bef) ∧ (¬ l < i → i ∈ befOf pls l)) ∧ (l ∈ p.bef ∨ i ∈ befOf pls l ∨ k ∈ p.gone)
structure PlanOK (ops : Array Oper) (ds tg : List (Option Nat)) (pls : List Pl) (n m M : Nat) : Prop extends PlanOK0 ops ds tg pls n m M where
  dir : ∀ (i : Nat) (e : Edge) {o : Oper}, e ∈ o.after → Region.binds .any e = true → ops[i]? = some o → e.on < i
section
variable {N : Nat} {pls : List Pl} {o o1 o2 : Oper} {l : List Oper} {p p1 p2 : Pl} {ps : List Pl} {vs : List SV} {es : List (Option Own)}
def RunP (r : Option St) (K : SV → Prop) : Prop := match r with
  | some σ' => match σ'.env with
    | (_, s) :: _ => K s
    | [] => False
  | none => False
end
end
end Go.SX
set_option linter.unusedVariables false
namespace Go.SX
open Go Go.RowKit
section
variable {P : Program} {ops : Array Oper} {Q : Exit → St → Prop} {σ : St} {l : List Oper} {o o1 o2 : Oper} {rest : List Oper} {ds : List (Option Nat)} {K : St → Prop}
/-- The operation yields s, and turns nothing. -/
def QR (P : Program) (o : Oper) (σ : St) (s : SV) : Prop := ∀ ρ a w, Sat ρ σ a w → ∃ v, (execOp a.eval o).run P w = .ok (.value v) w ∧ ∀ ρ', Agree σ.own.length ρ ρ' → v = den ρ' s
theorem WO.q {s : SV} (hds : dsOk ds ops.toList = true) (hg : gd ds σ o.guard = some true) (hd : dOk σ o.dst = true) (h : QR P o σ s) (k : WO P ops Q rest (σ.put o.dst s)) : WO P ops Q (o :: rest) σ :=
  WO.one hds hg fun ρ a w hs => by
    obtain ⟨v, h1, h2⟩ := h ρ a w hs
    exact ⟨ρ, _, v, w, .inl h1, hs.put _ _ _ (dOk_lt hd) h2, k⟩
theorem WQ.q {s : SV} (hds : dsOk ds ops.toList = true) (hg : gd ds σ o.guard = some true) (hd : dOk σ o.dst = true) (h : QR P o σ s) (k : WQ P ops K rest (σ.put o.dst s)) : WQ P ops K (o :: rest) σ :=
  WQ.one hds hg hd s h k
/-- x[i]'s place, x a row -/
theorem QR.idx {t e : TypeId} {x ix : Operand} {q : Addr} {n c sz : Nat} {kk : IntKind} {i : Int} (hop : o.op = .indexAddr t x ix) (hx : ev σ x = some (.val (.slice (some q) n c))) (hi : ev σ ix = some (.val (.int kk i))) (he : elemSz P t = some (e, sz))
    (h0 : 0 ≤ i) (h1 : i < n) : QR P o σ (.val (.pointer (some (q.add (i.toNat * sz))))) := fun ρ a w hs => by
  refine ⟨_, ?_, fun _ _ => rfl⟩
  unfold execOp
  rw [hop]
  simp only [Sem.run_bind, hs.ev hx ρ (Agree.refl _ _), hs.ev hi ρ (Agree.refl _ _), den, run_indexAt he h0 h1, Result.andThen_ok, Sem.run_pure]
/-- what lies at a place -/
theorem QR.load {t : TypeId} {x : Operand} {q : Addr} (cs : List Value) (agg : Bool) (hop : o.op = .load t x) (hx : ev σ x = some (.val (.pointer (some q)))) (ha : aggB P t = some agg) (hn : szOf P t = some cs.length) (h1 : agg = true ∨ cs.length = 1)
    (hat : ∀ ρ w, Base ρ σ w → At w q cs) : QR P o σ (.val (ofCells agg cs)) := fun ρ a w hs => by
  refine ⟨_, ?_, fun _ _ => rfl⟩
  unfold execOp
  rw [hop]
  simp only [Sem.run_bind, hs.ev hx ρ (Agree.refl _ _), den, Instr.loadAt, Instr.sureAddr, Sem.run_pure, Result.andThen_ok]
  rw [(hat ρ w hs.base).load ha hn (fun hf => by rcases h1 with h1 | h1; rw [hf] at h1; cases h1; exact h1)]
  rfl
/-- a row of the call's own, from a cell on -/
theorem row_at {ρ : Nat → Nat} {w : World} {k b n c sz off m : Nat} {T : TypeId} {xs ys : List Value} (hb : Base ρ σ w) (hk : nth σ.own k = some (.slice T sz (.slice (some ⟨b, 0, none⟩) n c) n xs)) (h : (xs.drop off).take m = ys) : At w ⟨b, off, none⟩ ys := by
  have := (own_at hb hk).part off m
  rw [h, Addr.add_mid] at this
  simpa using this
theorem WO.ownIs (own' : List Own) (h : σ.own = own') (k : WO P ops Q l ⟨σ.n, σ.env, own', σ.snaps, σ.dfs⟩) : WO P ops Q l σ := by subst h; exact k
/-! ### A block gets its number -/
end
end Go.SX
set_option linter.unusedVariables false
namespace Go.SX
open Go Go.RowKit
section
variable {P : Program} {ops : Array Oper} {Q : Exit → St → Prop} {σ : St} {l : List Oper} {o : Oper} {rest : List Oper} {ds : List (Option Nat)}
/-! ### The iterator's side -/
/-- A region whose operations may call yield. -/
def WI (P : Program) (ops : Array Oper) (Q : Exit → St → Prop) (l : List Oper) (σ : St) : Prop := ∀ ρ a w, Sat ρ σ a w → wpListIn (Fr none) 0 P ops (lift Q) l a w
theorem WI.region {id : Nat} (h : WI P ops Q ops.toList σ) : W P (.region id ops false) Q σ := fun ρ a w hs => wpIn_region_list (h ρ a w hs)
def onNormal (K : Act → World → Prop) : Exit → Act → World → Prop
  | .normal, a, w => K a w
  | _, _, _ => False
theorem wpList_in {Q' : Exit → Act → World → Prop} {l2 : List Oper} : ∀ (l : List Oper), l.all (fun o => opPlain o.op) = true → ∀ (a : Act) (w : World), wpList P ops (onNormal fun a w => wpListIn (Fr none) 0 P ops Q' l2 a w) l a w → wpListIn (Fr none) 0 P ops Q' (l ++ l2) a w
  | [], _, a, w, h => h
  | o :: l, hp, a, w, h => by
    simp only [List.all_cons, Bool.and_eq_true] at hp
    have hno : ¬ LetsOut (onNormal fun a w => wpListIn (Fr none) 0 P ops Q' l2 a w) := fun ⟨_, _, h⟩ => h
    simp only [wpList, List.cons_append, wpListIn] at h ⊢
    split at h
    · rename_i hw
      rw [if_pos hw]
      rcases h with h | ⟨_, h⟩
      · refine ⟨fun _ _ => trivial, ?_⟩
        rw [semAt_plain hp.1]
        unfold Oper.wp at h
        generalize (execOp a.eval o).run P w = res at h ⊢
        unfold Oper.upon at h
        unfold Oper.uponIn
        split at h
        · exact wpList_in l hp.2 _ _ h
        · exact wpList_in l hp.2 _ _ h
        · exact wpList_in l hp.2 _ _ h
        · refine ⟨fun h => by simp [Fr, Fence.wide] at h, ?_⟩
          show CallsIn Fence.wide _ P _ _ _ _
          refine callsIn_wide.2 (Calls.mono h fun e w' h' => ?_)
          cases e with
          | returned v => exact wpList_in l hp.2 _ _ h'
          | panicked c => exact h'.elim
          | outgrown => exact absurd h' hno
        · refine ⟨fun h => by simp [Fr, Fence.wide] at h, ?_⟩
          show RowsIn Fence.wide _ P _ _ _ _
          exact fun c cs _ => let ⟨v, w4, h4, h5⟩ := h c cs; ⟨v, w4, wpList_in l hp.2 _ _ h4, stepsIn_wide.2 h5⟩
        · exact h.elim
        · exact h.elim
      · exact absurd h hno
    · rename_i hw
      rw [if_neg hw]
      exact ⟨fun _ _ => trivial, wpList_in l hp.2 _ _ h⟩
theorem wpList_mono {Q1 Q2 : Exit → Act → World → Prop} (hq : ∀ e a w, Q1 e a w → Q2 e a w) : ∀ (l : List Oper) (a : Act) (w : World), wpList P ops Q1 l a w → wpList P ops Q2 l a w
  | [], a, w, h => hq _ _ _ h
  | o :: l, a, w, h => by
    have hlo : LetsOut Q1 → LetsOut Q2 := fun ⟨a, w, h⟩ => ⟨a, w, hq _ _ _ h⟩
    simp only [wpList] at h ⊢
    split at h
    · rename_i hw
      rw [if_pos hw]
      rcases h with h | ⟨h1, h⟩
      · left
        unfold Oper.wp at h ⊢
        generalize (execOp a.eval o).run P w = res at h ⊢
        unfold Oper.upon at h ⊢
        split at h
        · exact wpList_mono hq l _ _ h
        · exact wpList_mono hq l _ _ h
        · exact wpList_mono hq l _ _ h
        · refine Calls.mono h fun e w' h' => ?_
          cases e with
          | returned v => exact wpList_mono hq l _ _ h'
          | panicked c => exact hq _ _ _ h'
          | outgrown => exact hlo h'
        · exact fun c cs => let ⟨v, w4, h4, h5⟩ := h c cs; ⟨v, w4, wpList_mono hq l _ _ h4, h5⟩
        · exact hq _ _ _ h
        · exact h.elim
      · exact .inr ⟨h1, hlo h⟩
    · rename_i hw
      rw [if_neg hw]
      exact wpList_mono hq l _ _ h
/-- The first n operations, that call no yield. -/
theorem WI.pre (n : Nat) (h : WO P ops (fun e τ => e = .normal ∧ WI P ops Q (l.drop n) τ) (l.take n) σ) (hp : (l.take n).all (fun o => opPlain o.op) = true := by rfl) : WI P ops Q l σ := fun ρ a w hs => by
  rw [← List.take_append_drop n l]
  refine wpList_in (l.take n) hp a w (wpList_mono ?_ _ _ _ (h ρ a w hs))
  rintro e a w ⟨ρ, τ, hs, rfl, hk⟩
  exact hk ρ a w hs
theorem WI.nil (h : Q .normal σ) : WI P ops Q [] σ := fun ρ a w hs => ⟨ρ, σ, hs, h⟩
/-- What is known of memory, in a world that differs at blocks B alone, none of which it speaks of. -/
theorem Base.apartB {ρ : Nat → Nat} {w w' : World} (hb : Base ρ σ w) {B : Nat → Prop} (hk : Keep (fun b => ¬ B b) w w') (ho : ∀ (k : Nat) (o : Own) b, σ.own[k]? = some o → o.num ρ k = some b → ¬ B b)
    (hsn : ∀ p, p ∈ σ.snaps → ∀ b, p.1 b → b < p.2.heap.size → ¬ B b) : Base ρ σ w' where
  own k o hko ρ' hρ := by
    have h := hb.own k o hko ρ' hρ
    refine Own.holds_same h fun b hn => hk.block b ?_ (Own.lt h hn)
    rw [Own.num_agree hρ (List.getElem?_eq_some_iff.1 hko).1] at hn
    exact ho k o b hko hn
  apart := hb.apart
  keep p hp := ⟨⟨hk.os.trans (hb.keep p hp).1.os, hk.tape.trans (hb.keep p hp).1.tape, hk.output.trans (hb.keep p hp).1.output, Nat.le_trans (hb.keep p hp).1.size hk.size, fun b hS hlt => by
    rw [hk.block b (hsn p hp b hS hlt) (Nat.lt_of_lt_of_le hlt (hb.keep p hp).1.size)]; exact (hb.keep p hp).1.block b hS hlt⟩, (hb.keep p hp).2⟩
/-- **What an iterator does**: for every loop that abides what the iterator writes (T), and writes blocks B alone in a round, it comes m times, with 'val'. -/
def Iter (P : Program) (f : FuncId) (caps : Array Value) (m : Nat) (val : Nat → Value) (T B : Nat → Prop) (w0 : World) : Prop :=
  ∀ (ll : Nat) (J : Nat → World → Prop), (∀ k w w', J k w → Keep (fun b => ¬ T b) w w' → J k w') →
    (∀ k w, k < m → J k w → YieldAt (Fr none) 0 P ll #[val k] w fun e w' => e = .returned (.bool true) ∧ J (k + 1) w' ∧ Keep (fun b => ¬ B b) w w') →
    J 0 w0 → CallsIn (Fr none) 0 P f (#[.func (.yield ll) #[] #[]] ++ caps) w0 fun e w' => (∃ v, e = .returned v) ∧ J m w'
/-- An iterator out of a walk of its body: bs: the boxes that it writes. -/
theorem iter_of {f : FuncId} {fn : Func} {c : Code} {args : Array Value} {w : World} {R : World → Prop} (bs : List (Nat × TypeId × List Value)) (svs : List SV) (n : Nat) (B : Nat → Prop)
    (hf : P.funcs[f]? = some fn) (hb : fn.body = some c) (hn : fn.ntmps = n) (hr : fn.results = #[]) (hl : svs.length ≤ n) (ha : args = (denL (fun _ => 0) svs).toArray) (hbn : bndL 0 svs = true)
    (hbx : ∀ x, x ∈ bs → x.2.2.length ≤ maxLen ∧ w.heap[x.1]? = some (.cells x.2.2.toArray x.2.1 (0, 0))) (hnd : (bs.map (·.1)).Nodup)
    (h : W P c (fun e σ => (e = .normal ∨ e = .ret) ∧ σ.dfs = [] ∧ ∀ ρ w', Base ρ σ w' → R w') ⟨n, initE 0 svs, bs.map fun x => boxO x.2.1 x.1 x.2.2, [((fun b => ¬ b ∈ bs.map (·.1)), w), ((fun b => ¬ B b ∧ ¬ b ∈ bs.map (·.1)), w)], []⟩) : CallsIn (Fr none) 0 P f args w fun e w' => (∃ v, e = .returned v) ∧ R w' := by
  refine callsIn_of_wp hf hb trivial ?_
  subst ha
  have hget : ∀ (k : Nat) (o : Own), (bs.map fun x => boxO x.2.1 x.1 x.2.2)[k]? = some o → ∃ x, bs[k]? = some x ∧ o = boxO x.2.1 x.1 x.2.2 := fun k o hk => by
    rw [List.getElem?_map] at hk
    cases hx : bs[k]? with
    | none => rw [hx] at hk; cases hk
    | some x => rw [hx] at hk; exact ⟨x, rfl, (Option.some.inj hk).symm⟩
  refine wpIn_mono (h (fun _ => 0) _ w ?_) ?_
  · refine ⟨by simp [hn]; omega, rfl, fun i s hi => ?_, ⟨fun k o hk ρ' _ => ?_, fun i j oi oj b h1 h2 h3 h4 => ?_, fun p hp => ?_⟩⟩
    · obtain ⟨k, rfl, hk⟩ := initE_get svs 0 i s hi
      have hkl : k < svs.length := (List.getElem?_eq_some_iff.1 hk).1
      simp only [Nat.zero_add]
      refine ⟨by show k < n; omega, fun ρ' hρ => ?_⟩
      have : denL ρ' svs = denL (fun _ => 0) svs := denL_agree (m := 0) (fun i hi => by omega) svs hbn
      have hk2 : (denL (fun _ => 0) svs)[k]? = some (den ρ' s) := by rw [← this, denL_eq]; simp [hk]
      rw [Array.getElem?_append_left (by simp; exact hkl)]
      simpa using hk2
    · obtain ⟨x, hx, rfl⟩ := hget k o hk
      have := hbx x (List.mem_of_getElem? hx)
      exact boxO_holds this.1 this.2
    · obtain ⟨x, hx, rfl⟩ := hget i oi h1
      obtain ⟨y, hy, rfl⟩ := hget j oj h2
      simp only [boxO_num, Option.some.injEq] at h3 h4
      subst h3
      have hi : (bs.map (·.1))[i]? = some x.1 := by rw [List.getElem?_map, hx]; rfl
      have hj : (bs.map (·.1))[j]? = some x.1 := by rw [List.getElem?_map, hy]; exact congrArg some h4
      exact (List.getElem?_inj (List.getElem?_eq_some_iff.1 hi).1 hnd).1 (hi.trans hj.symm)
    · have key : ∀ k (o : Own) b, (bs.map fun x => boxO x.2.1 x.1 x.2.2)[k]? = some o → o.num (fun _ => 0) k = some b → b ∈ bs.map (·.1) := fun k o b hk hnum => by
        obtain ⟨x, hx, rfl⟩ := hget k o hk
        simp only [boxO_num, Option.some.injEq] at hnum
        subst hnum
        exact List.mem_map.2 ⟨x, List.mem_of_getElem? hx, rfl⟩
      simp only [List.mem_cons, List.not_mem_nil, or_false] at hp
      rcases hp with rfl | rfl
      · exact ⟨Keep.refl _ _, fun k o b hk hnum hS => absurd (key k o b hk hnum) hS⟩
      · exact ⟨Keep.refl _ _, fun k o b hk hnum hS => absurd (key k o b hk hnum) hS.2⟩
  · rintro e a' w' ⟨ρ, σ, hs, he, hdf, hR⟩
    have hres : (results fn a'.tmps).run P w' = .ok (.tuple #[]) w' := by
      rw [results_eq, hr]; simp
    rcases he with rfl | rfl
    · exact ⟨by rw [hs.defers, hdf]; rfl, _, hres, ⟨_, rfl⟩, hR ρ w' hs.base⟩
    · exact ⟨by rw [hs.defers, hdf]; rfl, _, hres, ⟨_, rfl⟩, hR ρ w' hs.base⟩
/-! ### The loop's side -/
def freeO : Own → Bool
  | .cells _ _ => false
  | _ => true
theorem freeO_holds {o : Own} (h : freeO o = true) {ρ ρ' : Nat → Nat} {k k' : Nat} {w : World} (hh : o.holds ρ k w) : o.holds ρ' k' w := by
  cases o with
  | cells => cases h
  | slice => exact hh
  | map => exact hh
  | dead => trivial
theorem freeO_num {o : Own} (h : freeO o = true) (ρ ρ' : Nat → Nat) (k k' : Nat) : o.num ρ k = o.num ρ' k' := by
  cases o with
  | cells => cases h
  | _ => rfl
theorem Base.free {ρ ρ' : Nat → Nat} {w : World} (hb : Base ρ σ w) (hf : ∀ o, o ∈ σ.own → freeO o = true) : Base ρ' σ w where
  own k o hk ρ2 _ := freeO_holds (hf o (List.mem_of_getElem? hk)) (hb.own k o hk ρ (Agree.refl _ _))
  apart i j oi oj b hi hj h1 h2 := hb.apart i j oi oj b hi hj (by rw [freeO_num (hf oi (List.mem_of_getElem? hi)) ρ ρ' i i]; exact h1) (by rw [freeO_num (hf oj (List.mem_of_getElem? hj)) ρ ρ' j j]; exact h2)
  keep p hp := ⟨(hb.keep p hp).1, fun k o b hk hn => (hb.keep p hp).2 k o b hk (by rw [freeO_num (hf o (List.mem_of_getElem? hk)) ρ ρ' k k]; exact hn)⟩
/-- Marks of loops that are over: their blocks hold no deferred calls. -/
def Marks (ds : List Nat) (s w0 : World) : Prop := ds.Nodup ∧ ∀ d, d ∈ ds → w0.heap.size ≤ d ∧ d < s.heap.size ∧ s.heap[d]? = some (.deferred (some []))
theorem putObj_keep {w : World} {r : Nat} {x : Obj} (S : Nat → Prop) (hS : ¬ S r) : Keep S w (w.putObj r x) :=
  ⟨rfl, rfl, rfl, by simp, fun b hb _ => World.putObj_heap_other fun he => hS (he ▸ hb)⟩
theorem Base.putObj {ρ : Nat → Nat} {w : World} (hb : Base ρ σ w) {r : Nat} {x : Obj} (ho : ∀ (k : Nat) (o : Own) b, σ.own[k]? = some o → o.num ρ k = some b → b ≠ r) (hsn : ∀ p, p ∈ σ.snaps → p.2.heap.size ≤ r ∨ ¬ p.1 r) : Base ρ σ (w.putObj r x) :=
  hb.apartB (B := fun b => b = r) (putObj_keep _ (by simp)) (fun k o b h1 h2 h3 => ho k o b h1 h2 h3) fun p hp b h1 h2 h3 => by
    subst h3
    rcases hsn p hp with h | h
    · omega
    · exact h h1
def onN (X : St → Prop) : Exit → St → Prop
  | .normal, σ => X σ
  | _, _ => False
theorem onN_and {X : St → Prop} {e : Exit} {τ : St} (h : onN X e τ) : e = .normal ∧ X τ := by
  cases e with
  | normal => exact ⟨rfl, h⟩
  | _ => exact h.elim
def FinM (P : Program) (w0 : World) (rs : List ResultVar) (Q : Value → World → Prop) (σ : St) : Prop :=
  ((fun _ => True), w0) ∈ σ.snaps ∧ (∃ ds s0, σ.dfs = ds.map .mk ∧ ((fun b => b ∈ ds), s0) ∈ σ.snaps ∧ Marks ds s0 w0) ∧ ∃ s, resSV P σ rs = some s ∧ ∀ ρ w', Base ρ ⟨σ.n, σ.env, σ.own, [((fun _ => True), w0)], []⟩ w' → Q (den ρ s) w'
def EndsM (P : Program) (w0 : World) (rs : List ResultVar) (Q : Value → World → Prop) : Exit → St → Prop
  | .ret, σ => FinM P w0 rs Q σ
  | .normal, σ => FinM P w0 rs Q σ
  | _, _ => False
theorem FinM.of {w0 : World} {rs : List ResultVar} {Q : Value → World → Prop} (hm : ((fun _ => True), w0) ∈ σ.snaps ∧ ∃ ds s0, σ.dfs = ds.map .mk ∧ ((fun b => b ∈ ds), s0) ∈ σ.snaps ∧ Marks ds s0 w0) (h : RunR (resSV P σ rs) fun s => ∀ ρ w', Base ρ ⟨σ.n, σ.env, σ.own, [((fun _ => True), w0)], []⟩ w' → Q (den ρ s) w') : FinM P w0 rs Q σ := by
  cases hr : resSV P σ rs with
  | none => rw [hr] at h; exact h.elim
  | some s => rw [hr] at h; exact ⟨hm.1, hm.2, s, hr, h⟩
theorem leaves_marks {fn : Func} {tmps : Array Value} {R : Ending → World → Prop} {v : Value} : ∀ (ds : List Nat) (w : World), ds.Nodup → (∀ d, d ∈ ds → w.heap[d]? = some (.deferred (some []))) →
    (∀ w', Keep (fun b => b ∉ ds) w w' → (results fn tmps).run P w' = .ok v w' ∧ R (.returned v) w') → LeavesInM (Fr none) 0 P fn tmps R ((ds.map Dm.mk).map mark) .returning w
  | [], w, _, _, h => by
    obtain ⟨h1, h2⟩ := h w (Keep.refl _ _)
    exact ⟨v, h1, h2⟩
  | d :: ds, w, hnd, hd, h => by
    have h0 := hd d (by simp)
    have hlt := (Array.getElem?_eq_some_iff.1 h0).1
    refine ⟨by simp, .inl ⟨d, _, rfl, run_takeDeferred h0, leaves_marks ds _ (List.nodup_cons.1 hnd).2 (fun e he => ?_) fun w' hk => h w' ?_⟩⟩
    · rw [World.putObj_heap_other (fun hh : e = d => (List.nodup_cons.1 hnd).1 (by rw [← hh]; exact he))]
      exact hd e (by simp [he])
    · exact (putObj_keep (fun b => b ∉ d :: ds) (by simp)).trans (hk.mono fun b hb _ hb2 => hb (by simp [hb2]))
/-- A function's call out of a proof about its body, that holds loops over functions. -/
theorem gives_of_marks {f : FuncId} {fn : Func} {c : Code} {args : Array Value} {w : World} {Q : Value → World → Prop} (svs : List SV) (n : Nat) (rs : List ResultVar)
    (hf : P.funcs[f]? = some fn) (hb : fn.body = some c) (hn : fn.ntmps = n) (hr : fn.results = rs.toArray) (hl : svs.length ≤ n) (ha : args = (denL (fun _ => 0) svs).toArray) (hbn : bndL 0 svs = true)
    (h : W P c (EndsM P w rs Q) ⟨n, initE 0 svs, [], [((fun b => b ∈ ([] : List Nat)), w), ((fun _ => True), w)], []⟩) : Gives P f args w Q := by
  refine (callsIn_wide (n := 0)).1 ?_
  refine callsIn_of_wp_marks (F := Fr none) hf hb trivial ?_
  subst ha
  refine wpIn_mono (h (fun _ => 0) _ w ?_) ?_
  · refine ⟨by simp [hn]; omega, rfl, fun i s hi => ?_, ⟨fun k o hk => by simp at hk, fun i j oi oj b h1 => by simp at h1, fun p hp => ?_⟩⟩
    · obtain ⟨k, rfl, hk⟩ := initE_get svs 0 i s hi
      have hkl : k < svs.length := (List.getElem?_eq_some_iff.1 hk).1
      simp only [Nat.zero_add]
      refine ⟨by show k < n; omega, fun ρ' hρ => ?_⟩
      have : denL ρ' svs = denL (fun _ => 0) svs := denL_agree (m := 0) (fun i hi => by omega) svs hbn
      have hk2 : (denL (fun _ => 0) svs)[k]? = some (den ρ' s) := by rw [← this, denL_eq]; simp [hk]
      rw [Array.getElem?_append_left (by simp; exact hkl)]
      simpa using hk2
    · simp only [List.mem_cons, List.not_mem_nil, or_false] at hp
      rcases hp with rfl | rfl <;> exact ⟨Keep.refl _ _, fun k o b hk => by simp at hk⟩
  · rintro e a' w' ⟨ρ, σ, hs, hq⟩
    have fin : FinM P w rs Q σ → LeavesInM (Fr none) 0 P fn a'.tmps (fun e w' => ∃ v', e = .returned v' ∧ Below w.heap.size w w' ∧ Q v' w') a'.defers .returning w' := by
      rintro ⟨hm, ⟨dl, s0, hdl, hs0, hM⟩, s, hs1, hs2⟩
      rw [hs.defers, hdl]
      have hks := (hs.base.keep _ hs0).1
      have hownd : ∀ (k : Nat) (o : Own) b, σ.own[k]? = some o → o.num ρ k = some b → ¬ b ∈ dl := fun k o b h1 h2 h3 => by
        have := (hs.base.keep _ hs0).2 k o b h1 h2 h3
        have := (hM.2 b h3).2.1
        simp only at *; omega
      refine leaves_marks (v := den ρ s) dl w' hM.1 (fun d hd => ?_) fun w2 hk => ?_
      · obtain ⟨_, q2, q3⟩ := hM.2 d hd
        rw [hks.block d hd q2]; exact q3
      · have hb2 : Base ρ ⟨σ.n, σ.env, σ.own, [((fun _ => True), w)], []⟩ w2 := by
          refine Base.apartB (σ := ⟨σ.n, σ.env, σ.own, [((fun _ => True), w)], []⟩) (B := fun b => b ∈ dl) (w := w') ⟨hs.base.own, hs.base.apart, fun p hp => ?_⟩ hk hownd fun p hp b _ hlt hbd => ?_
          · simp only [List.mem_singleton] at hp; subst hp; exact hs.base.keep _ hm
          · simp only [List.mem_singleton] at hp; subst hp
            have := (hM.2 b hbd).1
            simp only at *; omega
        have hs' : Sat ρ ⟨σ.n, σ.env, σ.own, [((fun _ => True), w)], []⟩ { tmps := a'.tmps, defers := [] } w2 := ⟨hs.size, rfl, hs.env, hb2⟩
        have hs1' : resSV P ⟨σ.n, σ.env, σ.own, [((fun _ => True), w)], []⟩ rs = some s := by
          have key : ∀ r, resOne P ⟨σ.n, σ.env, σ.own, [((fun _ => True), w)], []⟩ r = resOne P σ r := fun r => by
            cases r with
            | tmp t => rfl
            | cell a t => rfl
          have key2 : ∀ l, resAll P ⟨σ.n, σ.env, σ.own, [((fun _ => True), w)], []⟩ l = resAll P σ l := fun l => by
            induction l with
            | nil => rfl
            | cons r l ih => simp only [resAll, key, ih]
          unfold resSV at hs1 ⊢
          rw [key2]; exact hs1
        refine ⟨?_, den ρ s, rfl, (hb2.keep ((fun _ => True), w) (by simp)).1.toBelow, hs2 ρ w2 hb2⟩
        unfold resSV at hs1'
        cases hra : resAll P ⟨σ.n, σ.env, σ.own, [((fun _ => True), w)], []⟩ rs with
        | none => rw [hra] at hs1'; cases hs1'
        | some ss =>
          have hrun := run_results hs' rs ss hra
          rw [results_eq, hr]
          simp only [Sem.run_bind, List.mapM_toArray, Sem.run_map, hrun, Result.andThen_ok, Sem.run_pure]
          rw [hra] at hs1'
          match ss, hs1' with
          | [], h1 => simp only [Option.some.injEq] at h1; subst h1; simp [denL, den]
          | [x], h1 => simp only [Option.some.injEq] at h1; subst h1; simp [denL]
          | x :: y :: l, h1 => simp only [Option.some.injEq] at h1; subst h1; simp [denL, den]
    cases e with
    | normal => exact fin hq
    | ret => exact fin hq
    | _ => exact hq.elim
/-! ### All blocks of the call's own get numbers, and lose them -/
def pinOw (β : Nat → Nat) : Nat → List Own → List Own
  | _, [] => []
  | k, .cells T cs :: l => boxO T (β k) (denL β cs) :: pinOw β (k + 1) l
  | k, .slice T sz v n xs :: l => .slice T sz v n xs :: pinOw β (k + 1) l
  | k, .map r es c :: l => .map r es c :: pinOw β (k + 1) l
  | k, .dead :: l => .dead :: pinOw β (k + 1) l
theorem pinOw_box (β : Nat → Nat) (k T b : Nat) (cs : List Value) (l : List Own) : pinOw β k (boxO T b cs :: l) = boxO T b cs :: pinOw β (k + 1) l := rfl
def pinEn (β : Nat → Nat) : List (Nat × SV) → List (Nat × SV)
  | [] => []
  | (i, s) :: l => (i, .val (den β s)) :: pinEn β l
def smallO : Own → Bool
  | .cells _ cs => decide (cs.length ≤ 9223372036854775807)
  | _ => true
theorem pinEn_get {β : Nat → Nat} : ∀ (l : List (Nat × SV)) (i : Nat) (s : SV), getE (pinEn β l) i = some s → ∃ s', getE l i = some s' ∧ s = .val (den β s')
  | [], i, s, h => by cases h
  | (j, x) :: l, i, s, h => by
    simp only [pinEn, getE] at h ⊢
    split at h
    · rename_i he; rw [if_pos he]; exact ⟨x, rfl, (Option.some.inj h).symm⟩
    · rename_i he; rw [if_neg he]; exact pinEn_get l i s h
theorem pinOw_get {β : Nat → Nat} : ∀ (l : List Own) (j k : Nat) (o : Own), (pinOw β j l)[k]? = some o → ∃ o', l[k]? = some o' ∧ ((freeO o' = true ∧ o = o') ∨ ∃ T cs, o' = .cells T cs ∧ o = boxO T (β (j + k)) (denL β cs))
  | [], j, k, o, h => by simp [pinOw] at h
  | x :: l, j, 0, o, h => by
    cases x with
    | cells T cs => simp only [pinOw, List.getElem?_cons_zero, Option.some.injEq] at h; exact ⟨_, rfl, .inr ⟨T, cs, rfl, h.symm⟩⟩
    | _ => simp only [pinOw, List.getElem?_cons_zero, Option.some.injEq] at h; exact ⟨_, rfl, .inl ⟨rfl, h.symm⟩⟩
  | x :: l, j, k + 1, o, h => by
    have h' : (pinOw β (j + 1) l)[k]? = some o := by cases x <;> simpa [pinOw] using h
    obtain ⟨o', h1, h2⟩ := pinOw_get l (j + 1) k o h'
    refine ⟨o', by simpa using h1, ?_⟩
    rcases h2 with h2 | ⟨T, cs, h3, h4⟩
    · exact .inl h2
    · exact .inr ⟨T, cs, h3, by rw [h4]; congr 1; rw [show j + 1 + k = j + (k + 1) by omega]⟩
theorem W.pinA {rO : Option Nat} {c : Code} (hl : σ.own.all smallO = true) (h : ∀ β, WR rO P c Q ⟨σ.n, pinEn β σ.env, pinOw β 0 σ.own, σ.snaps, σ.dfs⟩) : WR rO P c Q σ := fun ρ a w hs => by
  refine h ρ ρ a w ?_
  have key : ∀ (k : Nat) (o : Own), (pinOw ρ 0 σ.own)[k]? = some o → ∃ o', σ.own[k]? = some o' ∧ o.num ρ k = o'.num ρ k ∧ ∀ ρ', o.holds ρ' k w := fun k o hk => by
    obtain ⟨o', h1, h2⟩ := pinOw_get σ.own 0 k o hk
    have hh := hs.base.own k o' h1 ρ (Agree.refl _ _)
    rcases h2 with ⟨h2, rfl⟩ | ⟨T, cs, rfl, rfl⟩
    · exact ⟨o, h1, rfl, fun ρ' => freeO_holds h2 hh⟩
    · refine ⟨_, h1, by rw [Nat.zero_add]; rfl, fun ρ' => boxO_holds ?_ (by rw [Nat.zero_add]; exact hh)⟩
      have := List.all_eq_true.1 hl _ (List.mem_of_getElem? h1)
      simp only [smallO, decide_eq_true_eq] at this
      rw [denL_length]; simpa [maxLen] using this
  refine ⟨hs.size, hs.defers, fun i s hi => ?_, ⟨fun k o hk ρ' _ => ?_, fun i j oi oj b hi hj hni hnj => ?_, fun p hp => ⟨(hs.base.keep p hp).1, fun k o b hk hn hS => ?_⟩⟩⟩
  · obtain ⟨s', h1, rfl⟩ := pinEn_get _ _ _ hi
    exact ⟨(hs.env i s' h1).1, fun ρ' _ => (hs.env i s' h1).2 ρ (Agree.refl _ _)⟩
  · obtain ⟨_, _, _, h3⟩ := key k o hk; exact h3 ρ'
  · obtain ⟨o1, g1, g2, _⟩ := key i oi hi
    obtain ⟨o2, g3, g4, _⟩ := key j oj hj
    exact hs.base.apart i j o1 o2 b g1 g3 (by rw [← g2]; exact hni) (by rw [← g4]; exact hnj)
  · obtain ⟨o1, g1, g2, _⟩ := key k o hk
    exact (hs.base.keep p hp).2 k o1 b g1 (by rw [← g2]; exact hn) hS
/-- A call that hands over blocks of its own. -/
theorem WO.callN {f : FuncId} {ss : List SV} {X : Type} (val : X → Value) (os : X → List Own) (p : X → Prop) (hds : dsOk ds ops.toList = true) (hg : gd ds σ o.guard = some true) (hd : dOk σ o.dst = true)
    (hc : callS σ o.op = some (f, ss)) (hf : callOk P f = true) (hfr : ∀ x o, o ∈ os x → freeO o = true)
    (h : ∀ ρ w, Base ρ σ w → Gives P f (denL ρ ss).toArray w fun v w' => ∃ x, v = val x ∧ p x ∧ (∀ (j : Nat) (o : Own), (os x)[j]? = some o → o.holds (fun _ => 0) 0 w' ∧ ∀ b, o.num (fun _ => 0) 0 = some b → w.heap.size ≤ b) ∧
      ∀ (i j : Nat) (oi oj : Own) b, (os x)[i]? = some oi → (os x)[j]? = some oj → oi.num (fun _ => 0) 0 = some b → oj.num (fun _ => 0) 0 = some b → i = j)
    (k : ∀ x, p x → WO P ops Q rest ((⟨σ.n, σ.env, σ.own ++ os x, σ.snaps, σ.dfs⟩ : St).put o.dst (.val (val x)))) : WO P ops Q (o :: rest) σ := fun ρ a w hs => by
  simp only [wpList, gd_sound hs hds hg, if_true]
  refine .inl ?_
  unfold Oper.wp
  rw [callS_run hs hf hc, Oper.upon_enter]
  refine Calls.mono (h ρ w hs.base) fun e w' ⟨v, he, hb, x, hv, hp, hos, hap⟩ => ?_
  subst he
  subst hv
  have hb' := hs.base.below hb
  have hcase : ∀ (k : Nat) (o' : Own), (σ.own ++ os x)[k]? = some o' → (k < σ.own.length ∧ σ.own[k]? = some o') ∨ (σ.own.length ≤ k ∧ (os x)[k - σ.own.length]? = some o') := fun k o' hk => by
    rcases Nat.lt_or_ge k σ.own.length with h | h
    · rw [List.getElem?_append_left h] at hk; exact .inl ⟨h, hk⟩
    · rw [List.getElem?_append_right h] at hk; exact .inr ⟨h, hk⟩
  have hlt : ∀ k o' b, σ.own[k]? = some o' → Own.num ρ k o' = some b → b < w.heap.size := fun k o' b hk hn => Own.lt (hs.base.own k o' hk ρ (Agree.refl _ _)) hn
  have hnew : ∀ (j k : Nat) (o' : Own) b, (os x)[j]? = some o' → o'.num ρ k = some b → w.heap.size ≤ b ∧ o'.num (fun _ => 0) 0 = some b := fun j k o' b hj hn => by
    have := hos j o' hj
    rw [freeO_num (hfr x o' (List.mem_of_getElem? hj)) ρ (fun _ => 0) k 0] at hn
    exact ⟨this.2 b hn, hn⟩
  refine k x hp ρ _ w' (Sat.put (σ := ⟨σ.n, σ.env, σ.own ++ os x, σ.snaps, σ.dfs⟩) ⟨hs.size, hs.defers, fun i s hi => ⟨(hs.env i s hi).1, fun ρ' hρ => (hs.env i s hi).2 ρ' (hρ.mono (by simp))⟩, ⟨fun k o' hk ρ' hρ => ?_, fun i j oi oj b hi hj hni hnj => ?_, fun q hq => ⟨(hb'.keep q hq).1, fun k o' b hk hn hS => ?_⟩⟩⟩ _ _ _ (dOk_lt (σ := ⟨σ.n, σ.env, σ.own ++ os x, σ.snaps, σ.dfs⟩) hd) fun _ _ => rfl)
  · rcases hcase k o' hk with ⟨_, h1⟩ | ⟨_, h1⟩
    · exact hb'.own k o' h1 ρ' (hρ.mono (by simp))
    · exact freeO_holds (hfr x o' (List.mem_of_getElem? h1)) (hos _ o' h1).1
  · rcases hcase i oi hi with ⟨g1, g2⟩ | ⟨g1, g2⟩ <;> rcases hcase j oj hj with ⟨g3, g4⟩ | ⟨g3, g4⟩
    · exact hb'.apart i j oi oj b g2 g4 hni hnj
    · have := hlt i oi b g2 hni; have := (hnew _ j oj b g4 hnj).1; omega
    · have := hlt j oj b g4 hnj; have := (hnew _ i oi b g2 hni).1; omega
    · have := hap _ _ oi oj b g2 g4 (hnew _ i oi b g2 hni).2 (hnew _ j oj b g4 hnj).2
      omega
  · rcases hcase k o' hk with ⟨_, h1⟩ | ⟨_, h1⟩
    · exact (hb'.keep q hq).2 k o' b h1 hn hS
    · have := (hnew _ k o' b h1 hn).1
      have := (hs.base.keep q hq).1.size
      omega
end
end Go.SX
set_option linter.unusedVariables false
namespace Go.SX
open Go Go.RowKit
section
variable {P : Program} {ops : Array Oper} {Q : Exit → St → Prop} {σ : St} {l : List Oper} {o : Oper} {rest : List Oper} {ds : List (Option Nat)} {K : St → Prop}
/-- A call that may turn blocks C, and may panic. -/
def GivesP (P : Program) (f : FuncId) (args : Array Value) (w : World) (C : Nat → Prop) (Q : Value → World → Prop) (Qp : List PanicEntry → World → Prop) : Prop :=
  Calls P f args w fun e w' => (∃ v, e = .returned v ∧ Keep (fun b => ¬ C b) w w' ∧ Q v w') ∨ (∃ ch, e = .panicked ch ∧ Keep (fun b => ¬ C b) w w' ∧ Qp ch w')
theorem GivesP.mono {f : FuncId} {args : Array Value} {w : World} {C : Nat → Prop} {Q Q' : Value → World → Prop} {Qp Qp' : List PanicEntry → World → Prop} (h : GivesP P f args w C Q Qp) (h1 : ∀ v w', Keep (fun b => ¬ C b) w w' → Q v w' → Q' v w') (h2 : ∀ ch w', Keep (fun b => ¬ C b) w w' → Qp ch w' → Qp' ch w') : GivesP P f args w C Q' Qp' :=
  Calls.mono h fun e w' hq => by
    rcases hq with ⟨v, he, hk, hq⟩ | ⟨ch, he, hk, hq⟩
    · exact .inl ⟨v, he, hk, h1 v w' hk hq⟩
    · exact .inr ⟨ch, he, hk, h2 ch w' hk hq⟩
def WT (P : Program) (ops : Array Oper) (K : St → Prop) (T : List Nat) (σ : St) : Prop := ∀ ρ a, SatE ρ σ a → wpPlain P ops (fun a' => ∃ σ', SatE ρ σ' a' ∧ σ'.own = σ.own ∧ σ'.snaps = σ.snaps ∧ K σ') T a
theorem wpPlain_mono' {K K' : Act → Prop} (hk : ∀ a, K a → K' a) : ∀ (T : List Nat) (a : Act), wpPlain P ops K T a → wpPlain P ops K' T a
  | [], a, h => hk a h
  | i :: T, a, ⟨o, v, h1, h2, h3⟩ => ⟨o, v, h1, h2, wpPlain_mono' hk T _ h3⟩
theorem WT.nil (h : K σ) : WT P ops K [] σ := fun ρ a hs => ⟨σ, hs, rfl, rfl, h⟩
theorem WT.one {i : Nat} {T : List Nat} (s : SV) (ho : nth ops.toList i = some o) (hgn : o.guard = none) (hd : dOk σ o.dst = true)
    (h : ∀ ρ a, SatE ρ σ a → ∃ v, (∀ w, (execOp a.eval o).run P w = .ok (.value v) w) ∧ ∀ ρ', Agree σ.own.length ρ ρ' → v = den ρ' s) (hk : WT P ops K T (σ.put o.dst s)) : WT P ops K (i :: T) σ := fun ρ a hs => by
  rw [nth_eq, Array.getElem?_toList] at ho
  obtain ⟨v, h1, h2⟩ := h ρ a hs
  refine ⟨o, v, ho, .inl ⟨by unfold Region.wanted; rw [hgn], h1⟩, wpPlain_mono' (fun a' ⟨σ', g1, g2, g3, g4⟩ => ⟨σ', g1, g2.trans (put_own _ _ _), g3.trans (put_snaps _ _ _), g4⟩) T _ (hk ρ _ (hs.put _ _ _ (dOk_lt hd) h2))⟩
theorem WT.move {i : Nat} {T : List Nat} {x : Operand} {s : SV} (ho : nth ops.toList i = some o) (hgn : o.guard = none) (hd : dOk σ o.dst = true) (hop : o.op = .move x) (hx : ev σ x = some s) (hk : WT P ops K T (σ.put o.dst s)) : WT P ops K (i :: T) σ :=
  WT.one s ho hgn hd (fun ρ a hs => ⟨a.eval x, fun w => by unfold execOp; rw [hop]; rfl, fun ρ' hρ => hs.ev hx ρ' hρ⟩) hk
theorem WT.bin {i : Nat} {T : List Nat} {op : BinOp} {t yt : TypeId} {x y : Operand} {u v r : Value} (ho : nth ops.toList i = some o) (hgn : o.guard = none) (hd : dOk σ o.dst = true) (hop : o.op = .binOp op t x y yt) (hx : ev σ x = some (.val u)) (hy : ev σ y = some (.val v)) (hr : binS P t op u v = some r)
    (hk : WT P ops K T (σ.put o.dst (.val r))) : WT P ops K (i :: T) σ :=
  WT.one (.val r) ho hgn hd (fun ρ a hs => ⟨r, fun w => by
    have h9 := binS_run (P := P) (w := w) (x := x) (y := y) hr
    unfold execOp
    rw [hop]
    simp only [hs.ev hx ρ (Agree.refl _ _), hs.ev hy ρ (Agree.refl _ _), den]
    simp only [Sem.run_bind] at h9 ⊢
    rw [← Sem.run_bind] at h9
    cases he : (eqGuard op t x y u v).run P w with
    | ok z w' =>
      simp only [Sem.run_bind, he, Result.andThen_ok] at h9 ⊢
      rw [h9]; rfl
    | _ => simp [Sem.run_bind, he, Result.andThen] at h9, fun _ _ => rfl⟩) hk
theorem W.regionW {id : Nat} (n : Nat) (T H : List Nat) (hm : P.follows .mixedOrders = true) (hB : drawB ops n T H = true)
    (h : WT P ops (fun σ1 => WQ P ops (WO P ops (np Q) (ops.toList.drop n)) (pickL ops H) σ1) T σ) : W P (.region id ops true) Q σ := fun ρ a w hs => by
  refine of_wp (wp_mono (wp_draw (Q' := lift (np Q)) (C := Base ρ σ) n T H hm hB (fun c a w h => ?_) (hs.base.below (below_drew w)) (wpPlain_mono' (fun a' ⟨σ1, h1, h2, h3, h4⟩ => ?_) T a (h ρ a hs.e))) fun e a w ⟨ρ', σ', h1, h2⟩ => ⟨ρ', σ', h1, np_of Q e σ' h2⟩)
  · obtain ⟨_, _, _, h⟩ := h; exact h
  · have := h4 ρ a' h1 ⟨w, by rw [Base.same_eq h2 h3]; exact hs.base⟩
    rw [Base.same_eq h2 h3] at this
    exact wpQuiet_mono (fun a'' ⟨σ', h4, h5, h6, h7⟩ w' hw' => h7 ρ a'' w' (h4.sat (hw'.same (h5.trans h2) (h6.trans h3)))) _ _ this
end
end Go.SX
set_option linter.unusedVariables false
namespace Go.SX
open Go Go.RowKit
section
variable {P : Program} {ops : Array Oper} {Q : Exit → St → Prop} {o : Oper} {rest : List Oper} {σ : St} {ds : List (Option Nat)}
/-- Blocks, each at a number of its own, lie in w. -/
structure Lie (own : List Own) (w : World) : Prop where
  here : ∀ (k : Nat) (o : Own), own[k]? = some o → o.holds (fun _ => 0) 0 w
  apart : ∀ (i j : Nat) (oi oj : Own) b, own[i]? = some oi → own[j]? = some oj → oi.num (fun _ => 0) 0 = some b → oj.num (fun _ => 0) 0 = some b → i = j
def ofOwn (own : List Own) (b : Nat) : Prop := ∃ (k : Nat) (o : Own), own[k]? = some o ∧ Own.num (fun _ => 0) 0 o = some b
/-- .. and then others do, of which each is at a number of these, or at a new one. -/
structure TurnL (own own' : List Own) (w w' : World) : Prop where
  lie : Lie own' w'
  num : ∀ (k : Nat) (o : Own) b, own'[k]? = some o → o.num (fun _ => 0) 0 = some b → ofOwn own b ∨ w.heap.size ≤ b
/-- A function's call out of a walk, blocks coming in as its own. -/
theorem givesL_of {f : FuncId} {fn : Func} {c : Code} {args : Array Value} {w : World} {Q : Value → World → Prop} (own : List Own) (svs : List SV) (n : Nat) (rs : List ResultVar)
    (hf : P.funcs[f]? = some fn) (hb : fn.body = some c) (hn : fn.ntmps = n) (hr : fn.results = rs.toArray) (hl : svs.length ≤ n) (ha : args = (denL (fun _ => 0) svs).toArray) (hbn : bndL 0 svs = true)
    (hfr : own.all freeO = true) (hlie : Lie own w)
    (h : W P c (EndsB P (ofOwn own) w rs Q) ⟨n, initE 0 svs, own, [((fun b => ¬ ofOwn own b), w)], []⟩) : GivesB P f args w (ofOwn own) Q := by
  refine calls_of_wp hf hb ?_
  subst ha
  have hfk : ∀ (k : Nat) (o : Own), own[k]? = some o → freeO o = true := fun k o hk => List.all_eq_true.1 hfr o (List.mem_of_getElem? hk)
  refine wp_mono (wp_of (h (fun _ => 0) _ w ?_)) ?_
  · refine ⟨by simp [hn]; omega, rfl, fun i s hi => ?_, ⟨fun k o hk ρ' _ => ?_, fun i j oi oj b h1 h2 h3 h4 => ?_, fun p hp => ?_⟩⟩
    · obtain ⟨k, rfl, hk⟩ := initE_get svs 0 i s hi
      have hkl : k < svs.length := (List.getElem?_eq_some_iff.1 hk).1
      simp only [Nat.zero_add]
      refine ⟨by show k < n; omega, fun ρ' hρ => ?_⟩
      have : denL ρ' svs = denL (fun _ => 0) svs := denL_agree (m := 0) (fun i hi => by omega) svs hbn
      have hk2 : (denL (fun _ => 0) svs)[k]? = some (den ρ' s) := by rw [← this, denL_eq]; simp [hk]
      rw [Array.getElem?_append_left (by simp; exact hkl)]
      simpa using hk2
    · exact freeO_holds (hfk k o hk) (hlie.here k o hk)
    · exact hlie.apart i j oi oj b h1 h2 (by rw [← freeO_num (hfk i oi h1) (fun _ => 0) (fun _ => 0) i 0]; exact h3) (by rw [← freeO_num (hfk j oj h2) (fun _ => 0) (fun _ => 0) j 0]; exact h4)
    · simp only [List.mem_singleton] at hp
      subst hp
      refine ⟨Keep.refl _ _, fun k o b hk hnum hS => absurd ⟨k, o, hk, ?_⟩ hS⟩
      rw [← freeO_num (hfk k o hk) (fun _ => 0) (fun _ => 0) k 0]; exact hnum
  · rintro e a' w' ⟨ρ, σ, hs, hq⟩
    have fin : FinB P (ofOwn own) w rs Q σ → (a'.defers = [] ∧ ∃ v, (results fn a'.tmps).run P w' = .ok v w' ∧ ∃ v', Ending.returned v = .returned v' ∧ Keep (fun b => ¬ ofOwn own b) w w' ∧ Q v' w') := by
      rintro ⟨⟨hm, hdf⟩, hrun⟩
      obtain ⟨s, hs1, hs2⟩ := RunR.ex hrun
      refine ⟨by rw [hs.defers, hdf]; rfl, den ρ s, ?_, den ρ s, rfl, (hs.base.keep _ hm).1, hs2 ρ w' hs.base⟩
      unfold resSV at hs1
      cases hra : resAll P σ rs with
      | none => rw [hra] at hs1; cases hs1
      | some ss =>
        have hrun := run_results hs rs ss hra
        rw [results_eq, hr]
        simp only [Sem.run_bind, List.mapM_toArray, Sem.run_map, hrun, Result.andThen_ok, Sem.run_pure]
        rw [hra] at hs1
        match ss, hs1 with
        | [], h1 => simp only [Option.some.injEq] at h1; subst h1; simp [denL, den]
        | [x], h1 => simp only [Option.some.injEq] at h1; subst h1; simp [denL]
        | x :: y :: l, h1 => simp only [Option.some.injEq] at h1; subst h1; simp [denL, den]
    cases e with
    | normal => exact fin hq
    | ret => exact fin hq
    | _ => exact hq.elim
/-- At the end: the first blocks of the state are those that are given back. -/
theorem turnL_of {ρ : Nat → Nat} {w w0 : World} {own own' : List Own} (hb : Base ρ σ w) (hm : ((fun b => ¬ ofOwn own b), w0) ∈ σ.snaps) (hp : σ.own.take own'.length = own') (hfr : own'.all freeO = true) : TurnL own own' w0 w := by
  have hfk : ∀ (k : Nat) (o : Own), own'[k]? = some o → freeO o = true := fun k o hk => List.all_eq_true.1 hfr o (List.mem_of_getElem? hk)
  have hk : ∀ (k : Nat) (o : Own), own'[k]? = some o → σ.own[k]? = some o := fun k o hk => by
    have hl := (List.getElem?_eq_some_iff.1 hk).1
    rw [← hp, List.getElem?_take, if_pos hl] at hk; exact hk
  have hnum : ∀ (k : Nat) (o : Own) b, own'[k]? = some o → o.num (fun _ => 0) 0 = some b → o.num ρ k = some b := fun k o b h1 h2 => by rw [freeO_num (hfk k o h1) ρ (fun _ => 0) k 0]; exact h2
  refine ⟨⟨fun k o h => freeO_holds (hfk k o h) (hb.own k o (hk k o h) ρ (Agree.refl _ _)), fun i j oi oj b h1 h2 h3 h4 => hb.apart i j oi oj b (hk i oi h1) (hk j oj h2) (hnum i oi b h1 h3) (hnum j oj b h2 h4)⟩, fun k o b h1 h2 => ?_⟩
  by_cases h : ofOwn own b
  · exact .inl h
  · exact .inr ((hb.keep _ hm).2 k o b (hk k o h1) (hnum k o b h1 h2) h)
def setOL : List Own → List Nat → List Own → List Own
  | own, k :: ks, o :: os => setOL (setN own k o) ks os
  | own, _, _ => own
theorem setOL_len : ∀ (ks : List Nat) (os own : List Own), (setOL own ks os).length = own.length
  | [], os, own => by cases os <;> rfl
  | k :: ks, [], own => rfl
  | k :: ks, o :: os, own => by rw [setOL, setOL_len ks os]; simp [setN_eq]
theorem setOL_get : ∀ (ks : List Nat) (os own : List Own) (j : Nat) (o : Own), ks.Nodup → (∀ k, k ∈ ks → k < own.length) → ks.length = os.length → (setOL own ks os)[j]? = some o →
    (∃ i : Nat, ks[i]? = some j ∧ os[i]? = some o) ∨ (j ∉ ks ∧ own[j]? = some o)
  | [], os, own, j, o, _, _, _, h => by
    cases os <;> exact .inr ⟨by simp, h⟩
  | k :: ks, [], own, j, o, _, _, hl, h => by simp at hl
  | k :: ks, o' :: os, own, j, o, hnd, hlt, hl, h => by
    rw [List.nodup_cons] at hnd
    rcases setOL_get ks os (setN own k o') j o hnd.2 (fun x hx => by simp only [setN_eq, List.length_set]; exact hlt x (List.mem_cons_of_mem _ hx)) (by simpa using hl) h with ⟨i, h1, h2⟩ | ⟨h1, h2⟩
    · exact .inl ⟨i + 1, by simpa using h1, by simpa using h2⟩
    · simp only [setN_eq] at h2
      by_cases hjk : k = j
      · subst hjk
        rw [List.getElem?_set_self (hlt k List.mem_cons_self)] at h2
        exact .inl ⟨0, rfl, by simpa using h2⟩
      · rw [List.getElem?_set_ne hjk] at h2
        exact .inr ⟨by simp [h1, Ne.symm hjk], h2⟩
/-- the blocks at these places are those -/
def placed (own : List Own) : List Nat → List Own → Prop
  | [], [] => True
  | k :: ks, o :: os => nth own k = some o ∧ placed own ks os
  | _, _ => False
theorem placed_get {own : List Own} : ∀ {ks : List Nat} {os : List Own}, placed own ks os → ks.length = os.length ∧ ∀ (i k : Nat) (o : Own), ks[i]? = some k → os[i]? = some o → own[k]? = some o
  | [], [], _ => ⟨rfl, fun i k o h => by simp at h⟩
  | k :: ks, o :: os, h => by
    obtain ⟨h1, h2⟩ := placed_get h.2
    refine ⟨by simp [h1], fun i k' o' h3 h4 => ?_⟩
    cases i with
    | zero =>
      simp only [List.getElem?_cons_zero, Option.some.injEq] at h3 h4
      subst h3; subst h4
      rw [← nth_eq]; exact h.1
    | succ i => exact h2 i k' o' (by simpa using h3) (by simpa using h4)
  | [], _ :: _, h => h.elim
  | _ :: _, [], h => h.elim
theorem Base.turnL {ρ : Nat → Nat} {w w' : World} {ks : List Nat} {own own' : List Own} (hb : Base ρ σ w) (hp : placed σ.own ks own) (hnd : ks.Nodup) (hf : own.all freeO = true) (hf' : own'.all freeO = true) (hl : own'.length = own.length)
    (hk : Keep (fun b => ¬ ofOwn own b) w w') (ht : TurnL own own' w w') : Base ρ { σ with own := setOL σ.own ks own' } w' := by
  obtain ⟨hkl, hget⟩ := placed_get hp
  have hks : ∀ (i k : Nat), ks[i]? = some k → ∃ oo, own[i]? = some oo ∧ σ.own[k]? = some oo := fun i k h => by
    have h1 := (List.getElem?_eq_some_iff.1 h).1
    exact ⟨own[i]'(by omega), List.getElem?_eq_getElem _, hget i k _ h (List.getElem?_eq_getElem _)⟩
  have hfk : ∀ (k : Nat) (o : Own), own[k]? = some o → freeO o = true := fun k o hk => List.all_eq_true.1 hf o (List.mem_of_getElem? hk)
  have hfk' : ∀ (k : Nat) (o : Own), own'[k]? = some o → freeO o = true := fun k o hk => List.all_eq_true.1 hf' o (List.mem_of_getElem? hk)
  have hlt : ∀ k, k ∈ ks → k < σ.own.length := fun k hk => by
    obtain ⟨i, hi⟩ := List.getElem?_of_mem hk
    obtain ⟨oo, _, h2⟩ := hks i k hi
    exact (List.getElem?_eq_some_iff.1 h2).1
  have hcase := fun j o h => setOL_get ks own' σ.own j o hnd hlt (by omega) h
  have hofn : ∀ b, ofOwn own b → ∃ k oo, k ∈ ks ∧ σ.own[k]? = some oo ∧ oo.num ρ k = some b := fun b ⟨i, oo, h1, h2⟩ => by
    have hil := (List.getElem?_eq_some_iff.1 h1).1
    have h3 : ks[i]? = some (ks[i]'(by omega)) := List.getElem?_eq_getElem _
    exact ⟨_, oo, List.mem_of_getElem? h3, hget i _ oo h3 h1, by rw [freeO_num (hfk i oo h1) ρ (fun _ => 0) _ 0]; exact h2⟩
  have hnew : ∀ (i j : Nat) (o : Own) b, ks[i]? = some j → own'[i]? = some o → o.num ρ j = some b → ofOwn own b ∨ w.heap.size ≤ b := fun i j o b h1 h2 h3 => ht.num i o b h2 (by rw [← freeO_num (hfk' i o h2) ρ (fun _ => 0) j 0]; exact h3)
  have hold : ∀ (j : Nat) (o : Own) b, σ.own[j]? = some o → o.num ρ j = some b → b < w.heap.size := fun j o b h1 h2 => Own.lt (hb.own j o h1 ρ (Agree.refl _ _)) h2
  refine ⟨fun j o hj ρ' hρ => ?_, fun i j oi oj b hi hj hni hnj => ?_, fun p hpm => ?_⟩
  · simp only [setOL_len] at hρ
    rcases hcase j o hj with ⟨i, h1, h2⟩ | ⟨h1, h2⟩
    · exact freeO_holds (hfk' i o h2) (ht.lie.here i o h2)
    · have h3 := hb.own j o h2 ρ' hρ
      refine Own.holds_same h3 fun b hnb => hk.block b (fun hof => ?_) (Own.lt h3 hnb)
      obtain ⟨k, oo, h4, h5, h6⟩ := hofn b hof
      have hjl := (List.getElem?_eq_some_iff.1 h2).1
      have := hb.apart j k o oo b h2 h5 (by rw [← Own.num_agree hρ hjl]; exact hnb) h6
      exact h1 (this ▸ h4)
  · rcases hcase i oi hi with ⟨i1, h1, h2⟩ | ⟨h1, h2⟩ <;> rcases hcase j oj hj with ⟨j1, h3, h4⟩ | ⟨h3, h4⟩
    · have := ht.lie.apart i1 j1 oi oj b h2 h4 (by rw [← freeO_num (hfk' i1 oi h2) ρ (fun _ => 0) i 0]; exact hni) (by rw [← freeO_num (hfk' j1 oj h4) ρ (fun _ => 0) j 0]; exact hnj)
      subst this
      rw [h1] at h3; exact Option.some.inj h3
    · rcases hnew i1 i oi b h1 h2 hni with h | h
      · obtain ⟨k, oo, h5, h6, h7⟩ := hofn b h
        have := hb.apart k j oo oj b h6 h4 h7 hnj
        exact absurd (this ▸ h5) h3
      · have := hold j oj b h4 hnj; omega
    · rcases hnew j1 j oj b h3 h4 hnj with h | h
      · obtain ⟨k, oo, h5, h6, h7⟩ := hofn b h
        have := hb.apart k i oo oi b h6 h2 h7 hni
        exact absurd (this ▸ h5) h1
      · have := hold i oi b h2 hni; omega
    · exact hb.apart i j oi oj b h2 h4 hni hnj
  · obtain ⟨h1, h2⟩ := hb.keep p hpm
    refine ⟨⟨hk.os.trans h1.os, hk.tape.trans h1.tape, hk.output.trans h1.output, Nat.le_trans h1.size hk.size, fun b hS hlt' => ?_⟩, fun j o b hj hnb hS => ?_⟩
    · rw [hk.block b (fun hof => ?_) (Nat.lt_of_lt_of_le hlt' h1.size)]
      · exact h1.block b hS hlt'
      · obtain ⟨k, oo, h4, h5, h6⟩ := hofn b hof
        have := h2 k oo b h5 h6 hS; omega
    · rcases hcase j o hj with ⟨i, h3, h4⟩ | ⟨h3, h4⟩
      · rcases hnew i j o b h3 h4 hnb with h | h
        · obtain ⟨k, oo, _, h5, h6⟩ := hofn b h
          exact h2 k oo b h5 h6 hS
        · have := h1.size; omega
      · exact h2 j o b h4 hnb hS
theorem lie_of {ρ : Nat → Nat} {w : World} {ks : List Nat} {own : List Own} (hb : Base ρ σ w) (hp : placed σ.own ks own) (hnd : ks.Nodup) (hf : own.all freeO = true) : Lie own w := by
  obtain ⟨hkl, hget⟩ := placed_get hp
  have hfk : ∀ (k : Nat) (o : Own), own[k]? = some o → freeO o = true := fun k o hk => List.all_eq_true.1 hf o (List.mem_of_getElem? hk)
  have hks : ∀ (i : Nat) (o : Own), own[i]? = some o → ∃ k, ks[i]? = some k ∧ σ.own[k]? = some o := fun i o h => by
    have h1 := (List.getElem?_eq_some_iff.1 h).1
    exact ⟨ks[i]'(by omega), List.getElem?_eq_getElem _, hget i _ o (List.getElem?_eq_getElem _) h⟩
  refine ⟨fun i o h => ?_, fun i j oi oj b h1 h2 h3 h4 => ?_⟩
  · obtain ⟨k, _, hk⟩ := hks i o h
    exact freeO_holds (hfk i o h) (hb.own k o hk ρ (Agree.refl _ _))
  · obtain ⟨k, g1, hk⟩ := hks i oi h1
    obtain ⟨k', g2, hk'⟩ := hks j oj h2
    have := hb.apart k k' oi oj b hk hk' (by rw [freeO_num (hfk i oi h1) ρ (fun _ => 0) k 0]; exact h3) (by rw [freeO_num (hfk j oj h2) ρ (fun _ => 0) k' 0]; exact h4)
    subst this
    have e1 := (List.getElem?_eq_some_iff.1 g1).1
    have e2 := (List.getElem?_eq_some_iff.1 g2).1
    exact (List.getElem?_inj e1 hnd).1 (g1.trans g2.symm)
/-- A call that turns several blocks; what comes back may lie in memory that is new. -/
theorem WO.callL {f : FuncId} {ss : List SV} {X : Type} {own : List Own} (ks : List Nat) (val : X → Value) (own' : X → List Own) (p : Nat → X → World → Prop) (hds : dsOk ds ops.toList = true) (hg : gd ds σ o.guard = some true) (hd : dOk σ o.dst = true)
    (hc : callS σ o.op = some (f, ss)) (hf : callOk P f = true) (hp : placed σ.own ks own) (hnd : ks.Nodup) (hfo : own.all freeO = true) (hf' : ∀ x, (own' x).all freeO = true) (hl : ∀ x, (own' x).length = own.length)
    (h : ∀ ρ w, Base ρ σ w → Lie own w → GivesB P f (denL ρ ss).toArray w (ofOwn own) fun v w' => ∃ x, v = val x ∧ p w.heap.size x w' ∧ TurnL own (own' x) w w')
    (k : ∀ x lo s, p lo x s → WO P ops Q rest ((({ σ with own := setOL σ.own ks (own' x) } : St).put o.dst (.val (val x))).snap (fun b => lo ≤ b ∧ ¬ ofOwn (own' x) b) s)) : WO P ops Q (o :: rest) σ := fun ρ a w hs => by
  simp only [wpList, gd_sound hs hds hg, if_true]
  refine .inl ?_
  unfold Oper.wp
  rw [callS_run hs hf hc, Oper.upon_enter]
  refine Calls.mono (h ρ w hs.base (lie_of hs.base hp hnd hfo)) fun e w' ⟨v, he, hkp, x, hv, hpx, ht⟩ => ?_
  subst he
  subst hv
  have hlen := setOL_len ks (own' x) σ.own
  have hs' : Sat ρ { σ with own := setOL σ.own ks (own' x) } a w' := ⟨hs.size, hs.defers, fun i s hi => ⟨(hs.env i s hi).1, fun ρ' hρ => (hs.env i s hi).2 ρ' (by rw [← hlen]; exact hρ)⟩, hs.base.turnL hp hnd hfo (hf' x) (hl x) hkp ht⟩
  refine k x _ w' hpx ρ _ w' ((hs'.put _ _ _ (dOk_lt (σ := { σ with own := setOL σ.own ks (own' x) }) (by simpa [dOk] using hd)) fun _ _ => rfl).snap _ fun j oj b hj hn hS => ?_)
  have hj' : (setOL σ.own ks (own' x))[j]? = some oj := by cases hdst : o.dst <;> simpa [hdst, St.put] using hj
  obtain ⟨hkl, hget⟩ := placed_get hp
  have hlt : ∀ k, k ∈ ks → k < σ.own.length := fun k hk => by
    obtain ⟨i, hi⟩ := List.getElem?_of_mem hk
    have h1 := (List.getElem?_eq_some_iff.1 hi).1
    exact (List.getElem?_eq_some_iff.1 (hget i k _ hi (List.getElem?_eq_getElem (show i < own.length by omega)))).1
  rcases setOL_get ks (own' x) σ.own j oj hnd hlt (by rw [hl x]; exact hkl) hj' with ⟨i, h1, h2⟩ | ⟨_, h2⟩
  · exact hS.2 ⟨i, oj, h2, by rw [← freeO_num (List.all_eq_true.1 (hf' x) oj (List.mem_of_getElem? h2)) ρ (fun _ => 0) j 0]; exact hn⟩
  · exact absurd (Own.lt (hs.base.own j oj h2 ρ (Agree.refl _ _)) hn) (by have := hS.1; omega)
theorem no_own {ρ : Nat → Nat} {w1 w : World} {OO own' : List Own} {Sc : Nat → Prop} (hb : Base ρ σ w1) (hm : ((fun b => ¬ ofOwn OO b), w) ∈ σ.snaps) (hp : σ.own.take own'.length = own') (hfr : own'.all freeO = true)
    (hno : ∀ b, Sc b → ¬ ofOwn OO b) (hlt : ∀ b, Sc b → b < w.heap.size) : ∀ b, Sc b → ¬ ofOwn own' b := fun b hS ⟨k, o, h1, h2⟩ => by
  rcases (turnL_of hb hm hp hfr).num k o b h1 h2 with h | h
  · exact hno b hS h
  · have := hlt b hS; omega
theorem W.ownIs {rO : Option Nat} {c : Code} (own' : List Own) (h : σ.own = own') (k : WR rO P c Q ⟨σ.n, σ.env, own', σ.snaps, σ.dfs⟩) : WR rO P c Q σ := by subst h; exact k
/-- .. and new blocks come back. -/
theorem Base.turnN {ρ : Nat → Nat} {w w' : World} {ks : List Nat} {own own' news : List Own} (hb : Base ρ σ w) (hp : placed σ.own ks own) (hnd : ks.Nodup) (hf : own.all freeO = true) (hf' : (own' ++ news).all freeO = true) (hl : own'.length = own.length)
    (hk : Keep (fun b => ¬ ofOwn own b) w w') (ht : TurnL own (own' ++ news) w w') : Base ρ { σ with own := setOL σ.own ks own' ++ news } w' := by
  obtain ⟨hkl, hget⟩ := placed_get hp
  have hks : ∀ (i k : Nat), ks[i]? = some k → ∃ oo, own[i]? = some oo ∧ σ.own[k]? = some oo := fun i k h => by
    have h1 := (List.getElem?_eq_some_iff.1 h).1
    exact ⟨own[i]'(by omega), List.getElem?_eq_getElem _, hget i k _ h (List.getElem?_eq_getElem _)⟩
  have hfk : ∀ (k : Nat) (o : Own), own[k]? = some o → freeO o = true := fun k o hk => List.all_eq_true.1 hf o (List.mem_of_getElem? hk)
  have hfk' : ∀ (k : Nat) (o : Own), (own' ++ news)[k]? = some o → freeO o = true := fun k o hk => List.all_eq_true.1 hf' o (List.mem_of_getElem? hk)
  have hlt : ∀ k, k ∈ ks → k < σ.own.length := fun k hk => by
    obtain ⟨i, hi⟩ := List.getElem?_of_mem hk
    obtain ⟨oo, _, h2⟩ := hks i k hi
    exact (List.getElem?_eq_some_iff.1 h2).1
  have hcase : ∀ (j : Nat) (o : Own), (setOL σ.own ks own' ++ news)[j]? = some o → (∃ i : Nat, (ks[i]? = some j ∨ (own'.length ≤ i ∧ j = σ.own.length + (i - own'.length))) ∧ (own' ++ news)[i]? = some o) ∨ (j ∉ ks ∧ σ.own[j]? = some o) := fun j o h => by
    rcases Nat.lt_or_ge j (setOL σ.own ks own').length with hj | hj
    · rw [List.getElem?_append_left hj] at h
      rcases setOL_get ks own' σ.own j o hnd hlt (by omega) h with ⟨i, h1, h2⟩ | h1
      · have hi := (List.getElem?_eq_some_iff.1 h2).1
        exact .inl ⟨i, .inl h1, by rw [List.getElem?_append_left hi]; exact h2⟩
      · exact .inr h1
    · rw [List.getElem?_append_right hj, setOL_len] at h
      rw [setOL_len] at hj
      exact .inl ⟨own'.length + (j - σ.own.length), .inr ⟨by omega, by omega⟩, by rw [List.getElem?_append_right (by omega)]; rw [show own'.length + (j - σ.own.length) - own'.length = j - σ.own.length by omega]; exact h⟩
  have hofn : ∀ b, ofOwn own b → ∃ k oo, k ∈ ks ∧ σ.own[k]? = some oo ∧ oo.num ρ k = some b := fun b ⟨i, oo, h1, h2⟩ => by
    have hil := (List.getElem?_eq_some_iff.1 h1).1
    have h3 : ks[i]? = some (ks[i]'(by omega)) := List.getElem?_eq_getElem _
    exact ⟨_, oo, List.mem_of_getElem? h3, hget i _ oo h3 h1, by rw [freeO_num (hfk i oo h1) ρ (fun _ => 0) _ 0]; exact h2⟩
  have hnew : ∀ (i j : Nat) (o : Own) b, (own' ++ news)[i]? = some o → o.num ρ j = some b → ofOwn own b ∨ w.heap.size ≤ b := fun i j o b h2 h3 => ht.num i o b h2 (by rw [← freeO_num (hfk' i o h2) ρ (fun _ => 0) j 0]; exact h3)
  have hold : ∀ (j : Nat) (o : Own) b, σ.own[j]? = some o → o.num ρ j = some b → b < w.heap.size := fun j o b h1 h2 => Own.lt (hb.own j o h1 ρ (Agree.refl _ _)) h2
  refine ⟨fun j o hj ρ' hρ => ?_, fun i j oi oj b hi hj hni hnj => ?_, fun p hpm => ?_⟩
  · rcases hcase j o hj with ⟨i, h1, h2⟩ | ⟨h1, h2⟩
    · exact freeO_holds (hfk' i o h2) (ht.lie.here i o h2)
    · have h3 := hb.own j o h2 ρ' (hρ.mono (by simp [setOL_len]))
      refine Own.holds_same h3 fun b hnb => hk.block b (fun hof => ?_) (Own.lt h3 hnb)
      obtain ⟨k, oo, h4, h5, h6⟩ := hofn b hof
      have hjl := (List.getElem?_eq_some_iff.1 h2).1
      have := hb.apart j k o oo b h2 h5 (by rw [← Own.num_agree (hρ.mono (by simp [setOL_len])) hjl]; exact hnb) h6
      exact h1 (this ▸ h4)
  · rcases hcase i oi hi with ⟨i1, h1, h2⟩ | ⟨h1, h2⟩ <;> rcases hcase j oj hj with ⟨j1, h3, h4⟩ | ⟨h3, h4⟩
    · have := ht.lie.apart i1 j1 oi oj b h2 h4 (by rw [← freeO_num (hfk' i1 oi h2) ρ (fun _ => 0) i 0]; exact hni) (by rw [← freeO_num (hfk' j1 oj h4) ρ (fun _ => 0) j 0]; exact hnj)
      subst this
      rcases h1 with h1 | ⟨h1, h1'⟩ <;> rcases h3 with h3 | ⟨h3, h3'⟩
      · rw [h1] at h3; exact Option.some.inj h3
      · have := (List.getElem?_eq_some_iff.1 h1).1; omega
      · have := (List.getElem?_eq_some_iff.1 h3).1; omega
      · omega
    · rcases hnew i1 i oi b h2 hni with h | h
      · obtain ⟨k, oo, h5, h6, h7⟩ := hofn b h
        have := hb.apart k j oo oj b h6 h4 h7 hnj
        exact absurd (this ▸ h5) h3
      · have := hold j oj b h4 hnj; omega
    · rcases hnew j1 j oj b h4 hnj with h | h
      · obtain ⟨k, oo, h5, h6, h7⟩ := hofn b h
        have := hb.apart k i oo oi b h6 h2 h7 hni
        exact absurd (this ▸ h5) h1
      · have := hold i oi b h2 hni; omega
    · exact hb.apart i j oi oj b h2 h4 hni hnj
  · obtain ⟨h1, h2⟩ := hb.keep p hpm
    refine ⟨⟨hk.os.trans h1.os, hk.tape.trans h1.tape, hk.output.trans h1.output, Nat.le_trans h1.size hk.size, fun b hS hlt' => ?_⟩, fun j o b hj hnb hS => ?_⟩
    · rw [hk.block b (fun hof => ?_) (Nat.lt_of_lt_of_le hlt' h1.size)]
      · exact h1.block b hS hlt'
      · obtain ⟨k, oo, h4, h5, h6⟩ := hofn b hof
        have := h2 k oo b h5 h6 hS; omega
    · rcases hcase j o hj with ⟨i, h3, h4⟩ | ⟨h3, h4⟩
      · rcases hnew i j o b h4 hnb with h | h
        · obtain ⟨k, oo, _, h5, h6⟩ := hofn b h
          exact h2 k oo b h5 h6 hS
        · have := h1.size; omega
      · exact h2 j o b h4 hnb hS
/-- A call that turns several blocks, new ones of the caller's coming back. -/
theorem WO.callTN {f : FuncId} {ss : List SV} {X : Type} {own : List Own} (ks : List Nat) (val : X → Value) (own' news : X → List Own) (p : X → Prop) (hds : dsOk ds ops.toList = true) (hg : gd ds σ o.guard = some true) (hd : dOk σ o.dst = true)
    (hc : callS σ o.op = some (f, ss)) (hf : callOk P f = true) (hp : placed σ.own ks own) (hnd : ks.Nodup) (hfo : own.all freeO = true) (hf' : ∀ x, (own' x ++ news x).all freeO = true) (hl : ∀ x, (own' x).length = own.length)
    (h : ∀ ρ w, Base ρ σ w → Lie own w → GivesB P f (denL ρ ss).toArray w (ofOwn own) fun v w' => ∃ x, v = val x ∧ p x ∧ TurnL own (own' x ++ news x) w w')
    (k : ∀ x, p x → WO P ops Q rest (({ σ with own := setOL σ.own ks (own' x) ++ news x } : St).put o.dst (.val (val x)))) : WO P ops Q (o :: rest) σ := fun ρ a w hs => by
  simp only [wpList, gd_sound hs hds hg, if_true]
  refine .inl ?_
  unfold Oper.wp
  rw [callS_run hs hf hc, Oper.upon_enter]
  refine Calls.mono (h ρ w hs.base (lie_of hs.base hp hnd hfo)) fun e w' ⟨v, he, hkp, x, hv, hpx, ht⟩ => ?_
  subst he
  subst hv
  have hlen := setOL_len ks (own' x) σ.own
  have hs' : Sat ρ { σ with own := setOL σ.own ks (own' x) ++ news x } a w' := ⟨hs.size, hs.defers, fun i s hi => ⟨(hs.env i s hi).1, fun ρ' hρ => (hs.env i s hi).2 ρ' (hρ.mono (by simp [hlen]))⟩, hs.base.turnN hp hnd hfo (hf' x) (hl x) hkp ht⟩
  exact k x hpx ρ _ w' (hs'.put _ _ _ (dOk_lt (σ := { σ with own := setOL σ.own ks (own' x) ++ news x }) (by simpa [dOk] using hd)) fun _ _ => rfl)
theorem W.condF {rO : Option Nat} {x y : Code} (h : WR rO P y Q σ) : WR rO P (.cond (.const (.bool false)) x y) Q σ := fun ρ a w hs =>
  wpIn_cond_split (show a.eval (.const (.bool false)) = .bool false from rfl) (fun h9 => by cases h9) fun _ => h ρ a w hs
end
end Go.SX
set_option maxRecDepth 100000
namespace Go.Proofs.YtolmeekbjonbcaaGreat
open Go Go.SX
theorem agg130 : aggB Tryz.prog 130 = some false := by kernel_rfl
theorem agg22 : aggB Tryz.prog 22 = some false := by kernel_rfl
theorem agg23 : aggB Tryz.prog 23 = some false := by kernel_rfl
theorem agg27 : aggB Tryz.prog 27 = some false := by kernel_rfl
theorem agg3 : aggB Tryz.prog 3 = some false := by kernel_rfl
theorem agg36 : aggB Tryz.prog 36 = some false := by kernel_rfl
theorem agg39 : aggB Tryz.prog 39 = some true := by kernel_rfl
theorem agg4 : aggB Tryz.prog 4 = some false := by kernel_rfl
theorem agg41 : aggB Tryz.prog 41 = some true := by kernel_rfl
theorem agg45 : aggB Tryz.prog 45 = some true := by kernel_rfl
theorem agg59 : aggB Tryz.prog 59 = some false := by kernel_rfl
theorem agg61 : aggB Tryz.prog 61 = some true := by kernel_rfl
theorem agg69 : aggB Tryz.prog 69 = some true := by kernel_rfl
theorem agg71 : aggB Tryz.prog 71 = some false := by kernel_rfl
theorem agg79 : aggB Tryz.prog 79 = some false := by kernel_rfl
theorem agg88 : aggB Tryz.prog 88 = some false := by kernel_rfl
theorem agg97 : aggB Tryz.prog 97 = some false := by kernel_rfl
theorem co103 : callOk Tryz.prog 103 = true := by kernel_rfl
theorem co11 : callOk Tryz.prog 11 = true := by kernel_rfl
theorem co13 : callOk Tryz.prog 13 = true := by kernel_rfl
theorem co14 : callOk Tryz.prog 14 = true := by kernel_rfl
theorem co15 : callOk Tryz.prog 15 = true := by kernel_rfl
theorem co16 : callOk Tryz.prog 16 = true := by kernel_rfl
theorem co17 : callOk Tryz.prog 17 = true := by kernel_rfl
theorem co18 : callOk Tryz.prog 18 = true := by kernel_rfl
theorem co19 : callOk Tryz.prog 19 = true := by kernel_rfl
theorem co20 : callOk Tryz.prog 20 = true := by kernel_rfl
theorem co21 : callOk Tryz.prog 21 = true := by kernel_rfl
theorem co22 : callOk Tryz.prog 22 = true := by kernel_rfl
theorem co23 : callOk Tryz.prog 23 = true := by kernel_rfl
theorem co24 : callOk Tryz.prog 24 = true := by kernel_rfl
theorem co25 : callOk Tryz.prog 25 = true := by kernel_rfl
theorem co27 : callOk Tryz.prog 27 = true := by kernel_rfl
theorem co28 : callOk Tryz.prog 28 = true := by kernel_rfl
theorem co29 : callOk Tryz.prog 29 = true := by kernel_rfl
theorem co30 : callOk Tryz.prog 30 = true := by kernel_rfl
theorem co31 : callOk Tryz.prog 31 = true := by kernel_rfl
theorem co32 : callOk Tryz.prog 32 = true := by kernel_rfl
theorem co33 : callOk Tryz.prog 33 = true := by kernel_rfl
theorem co34 : callOk Tryz.prog 34 = true := by kernel_rfl
theorem co35 : callOk Tryz.prog 35 = true := by kernel_rfl
theorem co36 : callOk Tryz.prog 36 = true := by kernel_rfl
theorem co37 : callOk Tryz.prog 37 = true := by kernel_rfl
theorem co38 : callOk Tryz.prog 38 = true := by kernel_rfl
theorem co39 : callOk Tryz.prog 39 = true := by kernel_rfl
theorem co40 : callOk Tryz.prog 40 = true := by kernel_rfl
theorem co41 : callOk Tryz.prog 41 = true := by kernel_rfl
theorem co42 : callOk Tryz.prog 42 = true := by kernel_rfl
theorem co43 : callOk Tryz.prog 43 = true := by kernel_rfl
theorem co44 : callOk Tryz.prog 44 = true := by kernel_rfl
theorem co45 : callOk Tryz.prog 45 = true := by kernel_rfl
theorem co46 : callOk Tryz.prog 46 = true := by kernel_rfl
theorem co47 : callOk Tryz.prog 47 = true := by kernel_rfl
theorem co48 : callOk Tryz.prog 48 = true := by kernel_rfl
theorem co49 : callOk Tryz.prog 49 = true := by kernel_rfl
theorem co5 : callOk Tryz.prog 5 = true := by kernel_rfl
theorem co50 : callOk Tryz.prog 50 = true := by kernel_rfl
theorem co51 : callOk Tryz.prog 51 = true := by kernel_rfl
theorem co52 : callOk Tryz.prog 52 = true := by kernel_rfl
theorem co53 : callOk Tryz.prog 53 = true := by kernel_rfl
theorem co54 : callOk Tryz.prog 54 = true := by kernel_rfl
theorem co55 : callOk Tryz.prog 55 = true := by kernel_rfl
theorem co56 : callOk Tryz.prog 56 = true := by kernel_rfl
theorem co57 : callOk Tryz.prog 57 = true := by kernel_rfl
theorem co58 : callOk Tryz.prog 58 = true := by kernel_rfl
theorem co6 : callOk Tryz.prog 6 = true := by kernel_rfl
theorem co60 : callOk Tryz.prog 60 = true := by kernel_rfl
theorem co61 : callOk Tryz.prog 61 = true := by kernel_rfl
theorem co62 : callOk Tryz.prog 62 = true := by kernel_rfl
theorem co63 : callOk Tryz.prog 63 = true := by kernel_rfl
theorem co64 : callOk Tryz.prog 64 = true := by kernel_rfl
theorem co65 : callOk Tryz.prog 65 = true := by kernel_rfl
theorem co66 : callOk Tryz.prog 66 = true := by kernel_rfl
theorem co67 : callOk Tryz.prog 67 = true := by kernel_rfl
theorem co68 : callOk Tryz.prog 68 = true := by kernel_rfl
theorem co69 : callOk Tryz.prog 69 = true := by kernel_rfl
theorem co7 : callOk Tryz.prog 7 = true := by kernel_rfl
theorem co70 : callOk Tryz.prog 70 = true := by kernel_rfl
theorem co71 : callOk Tryz.prog 71 = true := by kernel_rfl
theorem co72 : callOk Tryz.prog 72 = true := by kernel_rfl
theorem co73 : callOk Tryz.prog 73 = true := by kernel_rfl
theorem co74 : callOk Tryz.prog 74 = true := by kernel_rfl
theorem co75 : callOk Tryz.prog 75 = true := by kernel_rfl
theorem co76 : callOk Tryz.prog 76 = true := by kernel_rfl
theorem co77 : callOk Tryz.prog 77 = true := by kernel_rfl
theorem co79 : callOk Tryz.prog 79 = true := by kernel_rfl
theorem co8 : callOk Tryz.prog 8 = true := by kernel_rfl
theorem co85 : callOk Tryz.prog 85 = true := by kernel_rfl
theorem co89 : callOk Tryz.prog 89 = true := by kernel_rfl
theorem co90 : callOk Tryz.prog 90 = true := by kernel_rfl
theorem cv107_122 : convTo Tryz.prog 107 122 = some .u32 := by kernel_rfl
theorem cv107_3 : convTo Tryz.prog 107 3 = some .i64 := by kernel_rfl
theorem cv122_5 : convTo Tryz.prog 122 5 = some .u8 := by kernel_rfl
theorem cv124_5 : convTo Tryz.prog 124 5 = some .u8 := by kernel_rfl
theorem cv3_107 : convTo Tryz.prog 3 107 = some .u64 := by kernel_rfl
theorem cv3_130 : convTo Tryz.prog 3 130 = some .u64 := by kernel_rfl
theorem cv5_3 : convTo Tryz.prog 5 3 = some .i64 := by kernel_rfl
theorem ek22 : elemK Tryz.prog 22 = some (41, 4, 48, [.int .i64 0, .int .i64 0, .int .i64 0, .slice none 0 0]) := by kernel_rfl
theorem ek23 : elemK Tryz.prog 23 = some (45, 4, 32, [.int .i64 0, .int .i64 0, .int .i64 0, .int .i64 0]) := by kernel_rfl
theorem ek26 : elemK Tryz.prog 26 = some (39, 3, 24, [.int .i64 0, .int .i64 0, .int .i64 0]) := by kernel_rfl
theorem ek27 : elemK Tryz.prog 27 = some (3, 1, 8, [.int .i64 0]) := by kernel_rfl
theorem ek36 : elemK Tryz.prog 36 = some (27, 1, 24, [.slice none 0 0]) := by kernel_rfl
theorem ek71 : elemK Tryz.prog 71 = some (4, 1, 1, [.bool false]) := by kernel_rfl
theorem el22 : elemSz Tryz.prog 22 = some (41, 4) := by kernel_rfl
theorem el23 : elemSz Tryz.prog 23 = some (45, 4) := by kernel_rfl
theorem el26 : elemSz Tryz.prog 26 = some (39, 3) := by kernel_rfl
theorem el27 : elemSz Tryz.prog 27 = some (3, 1) := by kernel_rfl
theorem el36 : elemSz Tryz.prog 36 = some (27, 1) := by kernel_rfl
theorem el71 : elemSz Tryz.prog 71 = some (4, 1) := by kernel_rfl
theorem fo39_0 : fieldOff Tryz.prog 39 0 = some 0 := by kernel_rfl
theorem fo39_1 : fieldOff Tryz.prog 39 1 = some 1 := by kernel_rfl
theorem fo39_2 : fieldOff Tryz.prog 39 2 = some 2 := by kernel_rfl
theorem fo41_0 : fieldOff Tryz.prog 41 0 = some 0 := by kernel_rfl
theorem fo41_1 : fieldOff Tryz.prog 41 1 = some 1 := by kernel_rfl
theorem fo41_2 : fieldOff Tryz.prog 41 2 = some 2 := by kernel_rfl
theorem fo41_3 : fieldOff Tryz.prog 41 3 = some 3 := by kernel_rfl
theorem fo45_0 : fieldOff Tryz.prog 45 0 = some 0 := by kernel_rfl
theorem fo45_1 : fieldOff Tryz.prog 45 1 = some 1 := by kernel_rfl
theorem fo45_2 : fieldOff Tryz.prog 45 2 = some 2 := by kernel_rfl
theorem fo45_3 : fieldOff Tryz.prog 45 3 = some 3 := by kernel_rfl
theorem fo61_0 : fieldOff Tryz.prog 61 0 = some 0 := by kernel_rfl
theorem fo61_1 : fieldOff Tryz.prog 61 1 = some 1 := by kernel_rfl
theorem fo69_0 : fieldOff Tryz.prog 69 0 = some 0 := by kernel_rfl
theorem fo69_1 : fieldOff Tryz.prog 69 1 = some 1 := by kernel_rfl
theorem fs39 : fieldsS Tryz.prog 39 = some [(0, 1), (1, 1), (2, 1)] := by kernel_rfl
theorem fs41 : fieldsS Tryz.prog 41 = some [(0, 1), (1, 1), (2, 1), (3, 1)] := by kernel_rfl
theorem fs45 : fieldsS Tryz.prog 45 = some [(0, 1), (1, 1), (2, 1), (3, 1)] := by kernel_rfl
theorem fs61 : fieldsS Tryz.prog 61 = some [(0, 1), (1, 1)] := by kernel_rfl
theorem fs69 : fieldsS Tryz.prog 69 = some [(0, 1), (1, 1)] := by kernel_rfl
theorem it39 : intsT Tryz.prog 39 = some 3 := by kernel_rfl
theorem len22 : lenKd Tryz.prog 22 = .slice := by kernel_rfl
theorem len23 : lenKd Tryz.prog 23 = .slice := by kernel_rfl
theorem len26 : lenKd Tryz.prog 26 = .slice := by kernel_rfl
theorem len27 : lenKd Tryz.prog 27 = .slice := by kernel_rfl
theorem len36 : lenKd Tryz.prog 36 = .slice := by kernel_rfl
theorem len71 : lenKd Tryz.prog 71 = .slice := by kernel_rfl
theorem ms37 : mapSet Tryz.prog 37 = some (3, 4) := by kernel_rfl
theorem sz130 : szOf Tryz.prog 130 = some 1 := by kernel_rfl
theorem sz22 : szOf Tryz.prog 22 = some 1 := by kernel_rfl
theorem sz23 : szOf Tryz.prog 23 = some 1 := by kernel_rfl
theorem sz27 : szOf Tryz.prog 27 = some 1 := by kernel_rfl
theorem sz3 : szOf Tryz.prog 3 = some 1 := by kernel_rfl
theorem sz36 : szOf Tryz.prog 36 = some 1 := by kernel_rfl
theorem sz39 : szOf Tryz.prog 39 = some 3 := by kernel_rfl
theorem sz4 : szOf Tryz.prog 4 = some 1 := by kernel_rfl
theorem sz41 : szOf Tryz.prog 41 = some 4 := by kernel_rfl
theorem sz45 : szOf Tryz.prog 45 = some 4 := by kernel_rfl
theorem sz59 : szOf Tryz.prog 59 = some 1 := by kernel_rfl
theorem sz61 : szOf Tryz.prog 61 = some 2 := by kernel_rfl
theorem sz69 : szOf Tryz.prog 69 = some 2 := by kernel_rfl
theorem sz71 : szOf Tryz.prog 71 = some 1 := by kernel_rfl
theorem sz79 : szOf Tryz.prog 79 = some 1 := by kernel_rfl
theorem sz88 : szOf Tryz.prog 88 = some 1 := by kernel_rfl
theorem sz97 : szOf Tryz.prog 97 = some 1 := by kernel_rfl
theorem ze130 : zeroS Tryz.prog 130 = some [.val (.int .u64 0)] := by kernel_rfl
theorem ze22 : zeroS Tryz.prog 22 = some [.val (.slice none 0 0)] := by kernel_rfl
theorem ze27 : zeroS Tryz.prog 27 = some [.val (.slice none 0 0)] := by kernel_rfl
theorem ze3 : zeroS Tryz.prog 3 = some [.val (.int .i64 0)] := by kernel_rfl
theorem ze39 : zeroS Tryz.prog 39 = some [.val (.int .i64 0), .val (.int .i64 0), .val (.int .i64 0)] := by kernel_rfl
theorem ze41 : zeroS Tryz.prog 41 = some [.val (.int .i64 0), .val (.int .i64 0), .val (.int .i64 0), .val (.slice none 0 0)] := by kernel_rfl
theorem ze45 : zeroS Tryz.prog 45 = some [.val (.int .i64 0), .val (.int .i64 0), .val (.int .i64 0), .val (.int .i64 0)] := by kernel_rfl
theorem ze59 : zeroS Tryz.prog 59 = some [.val (.nilFunc)] := by kernel_rfl
theorem ze61 : zeroS Tryz.prog 61 = some [.val (.slice none 0 0), .val (.int .i64 0)] := by kernel_rfl
theorem ze69 : zeroS Tryz.prog 69 = some [.val (.slice none 0 0), .val (.slice none 0 0)] := by kernel_rfl
theorem ze71 : zeroS Tryz.prog 71 = some [.val (.slice none 0 0)] := by kernel_rfl
theorem ze79 : zeroS Tryz.prog 79 = some [.val (.nilFunc)] := by kernel_rfl
theorem ze88 : zeroS Tryz.prog 88 = some [.val (.nilFunc)] := by kernel_rfl
theorem ze97 : zeroS Tryz.prog 97 = some [.val (.nilFunc)] := by kernel_rfl
theorem ty : (aggB Tryz.prog 130 = some false) ∧ (aggB Tryz.prog 22 = some false) ∧ (aggB Tryz.prog 23 = some false) ∧ (aggB Tryz.prog 27 = some false) ∧ (aggB Tryz.prog 3 = some false) ∧ (aggB Tryz.prog 36 = some false) ∧ (aggB Tryz.prog 39 = some true) ∧ (aggB Tryz.prog 4 = some false) ∧ (aggB Tryz.prog 41 = some true) ∧ (aggB Tryz.prog 45 = some true) ∧ (aggB Tryz.prog 59 = some false) ∧ (aggB Tryz.prog 61 = some true) ∧ (aggB Tryz.prog 69 = some true) ∧ (aggB Tryz.prog 71 = some false) ∧ (aggB Tryz.prog 79 = some false) ∧ (aggB Tryz.prog 88 = some false) ∧ (aggB Tryz.prog 97 = some false) ∧ (convTo Tryz.prog 107 122 = some .u32) ∧ (convTo Tryz.prog 107 3 = some .i64) ∧ (convTo Tryz.prog 122 5 = some .u8) ∧ (convTo Tryz.prog 124 5 = some .u8) ∧ (convTo Tryz.prog 3 107 = some .u64) ∧ (convTo Tryz.prog 3 130 = some .u64) ∧ (convTo Tryz.prog 5 3 = some .i64) ∧ (elemSz Tryz.prog 22 = some (41, 4)) ∧ (elemSz Tryz.prog 23 = some (45, 4)) ∧ (elemSz Tryz.prog 26 = some (39, 3)) ∧ (elemSz Tryz.prog 27 = some (3, 1)) ∧ (elemSz Tryz.prog 36 = some (27, 1)) ∧ (elemSz Tryz.prog 71 = some (4, 1)) ∧ (fieldOff Tryz.prog 39 0 = some 0) ∧ (fieldOff Tryz.prog 39 1 = some 1) ∧ (fieldOff Tryz.prog 39 2 = some 2) ∧ (fieldOff Tryz.prog 41 0 = some 0) ∧ (fieldOff Tryz.prog 41 1 = some 1) ∧ (fieldOff Tryz.prog 41 2 = some 2) ∧ (fieldOff Tryz.prog 41 3 = some 3) ∧ (fieldOff Tryz.prog 45 0 = some 0) ∧ (fieldOff Tryz.prog 45 1 = some 1) ∧ (fieldOff Tryz.prog 45 2 = some 2) ∧ (fieldOff Tryz.prog 45 3 = some 3) ∧ (fieldOff Tryz.prog 61 0 = some 0) ∧ (fieldOff Tryz.prog 61 1 = some 1) ∧ (fieldOff Tryz.prog 69 0 = some 0) ∧ (fieldOff Tryz.prog 69 1 = some 1) ∧ (fieldsS Tryz.prog 39 = some [(0, 1), (1, 1), (2, 1)]) ∧ (fieldsS Tryz.prog 41 = some [(0, 1), (1, 1), (2, 1), (3, 1)]) ∧ (fieldsS Tryz.prog 45 = some [(0, 1), (1, 1), (2, 1), (3, 1)]) ∧ (fieldsS Tryz.prog 61 = some [(0, 1), (1, 1)]) ∧ (fieldsS Tryz.prog 69 = some [(0, 1), (1, 1)]) ∧ (lenKd Tryz.prog 22 = .slice) ∧ (lenKd Tryz.prog 23 = .slice) ∧ (lenKd Tryz.prog 26 = .slice) ∧ (lenKd Tryz.prog 27 = .slice) ∧ (lenKd Tryz.prog 36 = .slice) ∧ (lenKd Tryz.prog 71 = .slice) ∧ (szOf Tryz.prog 130 = some 1) ∧ (szOf Tryz.prog 22 = some 1) ∧ (szOf Tryz.prog 23 = some 1) ∧ (szOf Tryz.prog 27 = some 1) ∧ (szOf Tryz.prog 3 = some 1) ∧ (szOf Tryz.prog 36 = some 1) ∧ (szOf Tryz.prog 39 = some 3) ∧ (szOf Tryz.prog 4 = some 1) ∧ (szOf Tryz.prog 41 = some 4) ∧ (szOf Tryz.prog 45 = some 4) ∧ (szOf Tryz.prog 59 = some 1) ∧ (szOf Tryz.prog 61 = some 2) ∧ (szOf Tryz.prog 69 = some 2) ∧ (szOf Tryz.prog 71 = some 1) ∧ (szOf Tryz.prog 79 = some 1) ∧ (szOf Tryz.prog 88 = some 1) ∧ (szOf Tryz.prog 97 = some 1) ∧ (zeroS Tryz.prog 130 = some [.val (.int .u64 0)]) ∧ (zeroS Tryz.prog 22 = some [.val (.slice none 0 0)]) ∧ (zeroS Tryz.prog 27 = some [.val (.slice none 0 0)]) ∧ (zeroS Tryz.prog 3 = some [.val (.int .i64 0)]) ∧ (zeroS Tryz.prog 39 = some [.val (.int .i64 0), .val (.int .i64 0), .val (.int .i64 0)]) ∧ (zeroS Tryz.prog 41 = some [.val (.int .i64 0), .val (.int .i64 0), .val (.int .i64 0), .val (.slice none 0 0)]) ∧ (zeroS Tryz.prog 45 = some [.val (.int .i64 0), .val (.int .i64 0), .val (.int .i64 0), .val (.int .i64 0)]) ∧ (zeroS Tryz.prog 59 = some [.val (.nilFunc)]) ∧ (zeroS Tryz.prog 61 = some [.val (.slice none 0 0), .val (.int .i64 0)]) ∧ (zeroS Tryz.prog 69 = some [.val (.slice none 0 0), .val (.slice none 0 0)]) ∧ (zeroS Tryz.prog 71 = some [.val (.slice none 0 0)]) ∧ (zeroS Tryz.prog 79 = some [.val (.nilFunc)]) ∧ (zeroS Tryz.prog 88 = some [.val (.nilFunc)]) ∧ (zeroS Tryz.prog 97 = some [.val (.nilFunc)]) := ⟨agg130, agg22, agg23, agg27, agg3, agg36, agg39, agg4, agg41, agg45, agg59, agg61, agg69, agg71, agg79, agg88, agg97, cv107_122, cv107_3, cv122_5, cv124_5, cv3_107, cv3_130, cv5_3, el22, el23, el26, el27, el36, el71, fo39_0, fo39_1, fo39_2, fo41_0, fo41_1, fo41_2, fo41_3, fo45_0, fo45_1, fo45_2, fo45_3, fo61_0, fo61_1, fo69_0, fo69_1, fs39, fs41, fs45, fs61, fs69, len22, len23, len26, len27, len36, len71, sz130, sz22, sz23, sz27, sz3, sz36, sz39, sz4, sz41, sz45, sz59, sz61, sz69, sz71, sz79, sz88, sz97, ze130, ze22, ze27, ze3, ze39, ze41, ze45, ze59, ze61, ze69, ze71, ze79, ze88, ze97⟩
theorem mixed : Tryz.prog.follows .mixedOrders = true := by kernel_rfl
end Go.Proofs.YtolmeekbjonbcaaGreat
namespace Go.Proofs.YtolmeekbjonbcaaGreat
/-- lemmas that go together -/
theorem sy : (false = true) = False ∧ (∀ {α : Type} [BEq α] [ReflBEq α] (a : α), (a == a) = true) ∧ (∀ {α : Type} [BEq α] [LawfulBEq α] (a : α), (a != a) = false) ∧ (∀ b : Bool, (b || false) = b) ∧ (∀ b : Bool, (false || b) = b) ∧ (!false) = true ∧ (!true) = false ∧ ∀ n : Nat, (n : Int).toNat = n :=
  ⟨Bool.false_eq_true, fun a => beq_self_eq_true a, fun a => bne_self_eq_false a, Bool.or_false, Bool.false_or, Bool.not_false, Bool.not_true, fun n => Int.toNat_natCast n⟩
end Go.Proofs.YtolmeekbjonbcaaGreat
set_option linter.unusedVariables false
set_option linter.unusedSimpArgs false
set_option maxHeartbeats 400000
namespace Go.Proofs.YtolmeekbjonbcaaGreat
open Int renaming reduceEq → q1, reduceLT → q2, reduceBEq → q3, reduceBNe → q4
open Nat renaming reduceAdd → q5, reduceSub → q6, reduceMul → q7, reduceLT → q8, reduceLeDiff → q9, reduceEqDiff → qa
open List renaming reduceReplicate → qb
open Go Go.SX Go.RowKit
/-- function 56 -/
theorem index_spec {S : Nat → Prop} {w : World} {v : Value} {l : List Int} (hl : rInts.rd S w [v] l) (n : Int) : Gives Tryz.prog 56 #[v, .int .i64 n] w fun r _ => r = .int .i64 (idxOf l n) := by
  obtain ⟨p, c, rfl, hc1, hc2⟩ := Rp.slice_val hl
  have hl : (Rp.slice rInt).rd (fun _ => True) w _ l := Rp.any hl
  refine gives_of [.val (.slice p l.length c), .val (.int .i64 n)] 19 [.tmp 4] Tryz.func56 rfl rfl rfl (by simp) rfl rfl ?_
  refine W.pure (ds := []) rfl fun K1 hK1 => ?_
  simp only [sx, ty, Bool.false_eq_true, q1, q2, q5, q6, q7, q8, q9, qa, qb, reduceIte]; with_reducible refine hK1 _ ?_; clear hK1
  refine W.seqK fun K2 hK2 => ?_
  refine W.pure (ds := []) rfl fun K3 hK3 => ?_
  simp only [sx, ty, Bool.false_eq_true, q1, q2, q5, q6, q7, q8, q9, qa, qb, reduceIte]; with_reducible refine hK3 _ ?_; clear hK3
  refine W.block ?_
  refine W.loopK (X := Nat) [0, 1, 7] (fun x => [(8, .val (.int .i64 x))]) (fun x => x ≤ l.length ∧ ∀ j, j < x → ∀ y, l[j]? = some y → (n == y) = false) (fun x => l.length - x) 0 ?_ ?_ ?_
  · exact ⟨rfl, by simp [getE, bnd, keepE], ⟨[], by simp⟩, by simp [Own.bnd, bndL, bnd, boxO], by simp⟩
  · skip
    exact ⟨Nat.zero_le _, fun j hj => by omega⟩
  · rintro i ⟨hi, hno⟩
    simp only [sx, ty, Bool.false_eq_true, q1, q2, q5, q6, q7, q8, q9, qa, qb, reduceIte, sxk]
    refine W.pure (ds := []) rfl fun K4 hK4 => ?_
    simp only [sx, ty, Bool.false_eq_true, q1, q2, q5, q6, q7, q8, q9, qa, qb, reduceIte]; with_reducible refine hK4 _ ?_; clear hK4
    refine W.seqK fun K5 hK5 => ?_
    refine W.cond rfl rfl (fun hc => ?_) (fun hc => ?_)
    · skip
      have hlt : i < l.length := by simpa using hc
      refine W.skip (hK5 _ ?_)
      refine W.seqK fun K6 hK6 => ?_
      refine W.block ?_
      refine W.pure (ds := []) rfl fun K7 hK7 => ?_
      simp only [sx, ty, Bool.false_eq_true, q1, q2, q5, q6, q7, q8, q9, qa, qb, reduceIte]; with_reducible refine hK7 _ ?_; clear hK7
      refine W.seqK fun K8 hK8 => W.region ?_
      refine WO.go 3 (ds := []) rfl ?_
      simp only [sx, ty, Bool.false_eq_true, q1, q2, q5, q6, q7, q8, q9, qa, qb, reduceIte]
      refine WO.elem (y := l[i]) hl (by simp [St.put]) (ds := []) rfl rfl rfl (by simp [St.put]) (fun _ => rfl) rfl rfl rfl rfl rfl el27 agg3 sz3 (.inr rfl) (by omega) (getIdx l hlt) fun p ces hces => ?_
      obtain rfl := rInt_open hces
      refine WO.go 1 (ds := []) rfl ?_
      simp only [sx, ty, Bool.false_eq_true, q1, q2, q5, q6, q7, q8, q9, qa, qb, reduceIte]
      with_reducible refine WO.nil ?_
      refine hK8 _ ?_; clear hK8
      refine W.cond rfl rfl (fun hc => ?_) (fun hc => ?_)
      · skip
        refine W.pure (ds := []) rfl fun K9 hK9 => ?_
        simp only [sx, ty, Bool.false_eq_true, q1, q2, q5, q6, q7, q8, q9, qa, qb, reduceIte]; with_reducible refine hK9 _ ?_; clear hK9
        refine W.ret ⟨by simp, _, rfl, fun ρ w1 hb => ?_⟩
        simp only [beq_iff_eq] at hc
        simp only [den]
        rw [show idxOf l n = i from findI_some hno (getIdx l hlt) (by simp; exact hc)]
      · skip
        refine W.skip (hK6 _ ?_)
        refine W.region ?_
        refine WO.go 2 (ds := []) rfl ?_
        simp only [sx, ty, Bool.false_eq_true, q1, q2, q5, q6, q7, q8, q9, qa, qb, reduceIte]
        with_reducible refine WO.nil ?_
        refine ⟨i + 1, ⟨hlt, fun j hj y hy => ?_⟩, by omega, rfl, by simp [getE, bnd, keepE, wrap_succ (show i + 1 ≤ 9223372036854775807 by omega)], ⟨[], by simp⟩, by simp, by simp⟩
        rcases Nat.lt_succ_iff_lt_or_eq.1 hj with h | rfl
        · exact hno j h y hy
        · rw [getIdx l hlt] at hy; obtain rfl := Option.some.inj hy; exact hc
    · skip
      refine W.exit (hK2 _ ?_)
      refine W.pure (ds := []) rfl fun K10 hK10 => ?_
      simp only [sx, ty, Bool.false_eq_true, q1, q2, q5, q6, q7, q8, q9, qa, qb, reduceIte]; with_reducible refine hK10 _ ?_; clear hK10
      refine W.ret ⟨by simp, _, rfl, fun ρ w1 hb => ?_⟩
      have hge : l.length ≤ i := by simpa using hc
      simp only [den]
      rw [show idxOf l n = -1 from findI_none fun j y hy => hno j (by have := (List.getElem?_eq_some_iff.1 hy).1; omega) y hy]
/-- function 75 -/
theorem indexFunc_spec {S : Nat → Prop} {w : World} {v : Value} {l : List Int} (hl : rInts.rd S w [v] l) (q : Int → Bool) (K : FuncId) (caps : Array Value) (hK : callOk Tryz.prog K = true)
    (hq : ∀ w1, Keep (fun _ => True) w w1 → ∀ x, x ∈ l → Gives Tryz.prog K (#[.int .i64 x] ++ caps) w1 fun r _ => r = .bool (q x)) : Gives Tryz.prog 75 #[v, .func (.func K) #[] caps] w fun r _ => r = .int .i64 (findI q l) := by
  obtain ⟨p, c, rfl, hc1, hc2⟩ := Rp.slice_val hl
  have hl : (Rp.slice rInt).rd (fun _ => True) w _ l := Rp.any hl
  refine gives_of [.val (.slice p l.length c), .val (.func (.func K) #[] caps)] 19 [.tmp 4] Tryz.func75 rfl rfl rfl (by simp) rfl rfl ?_
  refine W.pure (ds := []) rfl fun K1 hK1 => ?_
  simp only [sx, ty, Bool.false_eq_true, q1, q2, q5, q6, q7, q8, q9, qa, qb, reduceIte]; with_reducible refine hK1 _ ?_; clear hK1
  refine W.seqK fun K2 hK2 => ?_
  refine W.pure (ds := []) rfl fun K3 hK3 => ?_
  simp only [sx, ty, Bool.false_eq_true, q1, q2, q5, q6, q7, q8, q9, qa, qb, reduceIte]; with_reducible refine hK3 _ ?_; clear hK3
  refine W.block ?_
  refine W.loopK (X := Nat) [0, 1, 7] (fun x => [(8, .val (.int .i64 x))]) (fun x => x ≤ l.length ∧ ∀ j, j < x → ∀ y, l[j]? = some y → q y = false) (fun x => l.length - x) 0 ?_ ?_ ?_
  · exact ⟨rfl, by simp [getE, bnd, keepE], ⟨[], by simp⟩, by simp [Own.bnd, bndL, bnd, boxO], by simp⟩
  · skip
    exact ⟨Nat.zero_le _, fun j hj => by omega⟩
  · rintro i ⟨hi, hno⟩
    simp only [sx, ty, Bool.false_eq_true, q1, q2, q5, q6, q7, q8, q9, qa, qb, reduceIte, sxk]
    refine W.pure (ds := []) rfl fun K4 hK4 => ?_
    simp only [sx, ty, Bool.false_eq_true, q1, q2, q5, q6, q7, q8, q9, qa, qb, reduceIte]; with_reducible refine hK4 _ ?_; clear hK4
    refine W.seqK fun K5 hK5 => ?_
    refine W.cond rfl rfl (fun hc => ?_) (fun hc => ?_)
    · skip
      have hlt : i < l.length := by simpa using hc
      refine W.skip (hK5 _ ?_)
      refine W.seqK fun K6 hK6 => ?_
      refine W.block ?_
      refine W.pure (ds := []) rfl fun K7 hK7 => ?_
      simp only [sx, ty, Bool.false_eq_true, q1, q2, q5, q6, q7, q8, q9, qa, qb, reduceIte]; with_reducible refine hK7 _ ?_; clear hK7
      refine W.seqK fun K8 hK8 => W.region ?_
      refine WO.go 3 (ds := []) rfl ?_
      simp only [sx, ty, Bool.false_eq_true, q1, q2, q5, q6, q7, q8, q9, qa, qb, reduceIte]
      refine WO.elem (y := l[i]) hl (by simp [St.put]) (ds := []) rfl rfl rfl (by simp [St.put]) (fun _ => rfl) rfl rfl rfl rfl rfl el27 agg3 sz3 (.inr rfl) (by omega) (getIdx l hlt) fun p ces hces => ?_
      obtain rfl := rInt_open hces
      simp only [sx, ty, Bool.false_eq_true, q1, q2, q5, q6, q7, q8, q9, qa, qb, reduceIte]
      refine WO.call (.bool (q l[i])) (ds := []) rfl rfl rfl rfl hK (fun ρ w1 hb => by have := hq w1 (hb.first (by simp [St.put])) l[i] (List.getElem_mem hlt); rw [← argsCap] at this; simpa [denL_eq, den, Function.comp_def] using this) ?_
      simp only [sx, ty, Bool.false_eq_true, q1, q2, q5, q6, q7, q8, q9, qa, qb, reduceIte]
      with_reducible refine WO.nil ?_
      refine hK8 _ ?_; clear hK8
      refine W.cond rfl rfl (fun hc => ?_) (fun hc => ?_)
      · skip
        refine W.pure (ds := []) rfl fun K9 hK9 => ?_
        simp only [sx, ty, Bool.false_eq_true, q1, q2, q5, q6, q7, q8, q9, qa, qb, reduceIte]; with_reducible refine hK9 _ ?_; clear hK9
        refine W.ret ⟨by simp, _, rfl, fun ρ w1 hb => ?_⟩
        simp only [den]
        rw [show findI q l = i from findI_some hno (getIdx l hlt) hc]
      · skip
        refine W.skip (hK6 _ ?_)
        refine W.region ?_
        refine WO.go 2 (ds := []) rfl ?_
        simp only [sx, ty, Bool.false_eq_true, q1, q2, q5, q6, q7, q8, q9, qa, qb, reduceIte]
        with_reducible refine WO.nil ?_
        refine ⟨i + 1, ⟨hlt, fun j hj y hy => ?_⟩, by omega, rfl, by simp [getE, bnd, keepE, wrap_succ (show i + 1 ≤ 9223372036854775807 by omega)], ⟨[], by simp⟩, by simp, by simp⟩
        rcases Nat.lt_succ_iff_lt_or_eq.1 hj with h | rfl
        · exact hno j h y hy
        · rw [getIdx l hlt] at hy; obtain rfl := Option.some.inj hy; exact hc
    · skip
      refine W.exit (hK2 _ ?_)
      refine W.pure (ds := []) rfl fun K10 hK10 => ?_
      simp only [sx, ty, Bool.false_eq_true, q1, q2, q5, q6, q7, q8, q9, qa, qb, reduceIte]; with_reducible refine hK10 _ ?_; clear hK10
      refine W.ret ⟨by simp, _, rfl, fun ρ w1 hb => ?_⟩
      have hge : l.length ≤ i := by simpa using hc
      simp only [den]
      rw [show findI q l = -1 from findI_none fun j y hy => hno j (by have := (List.getElem?_eq_some_iff.1 hy).1; omega) y hy]
/-- function 54 -/
theorem containsFunc_spec {S : Nat → Prop} {w : World} {v : Value} {l : List Int} (hl : rInts.rd S w [v] l) (q : Int → Bool) (K : FuncId) (caps : Array Value) (hK : callOk Tryz.prog K = true)
    (hq : ∀ w1, Keep (fun _ => True) w w1 → ∀ x, x ∈ l → Gives Tryz.prog K (#[.int .i64 x] ++ caps) w1 fun r _ => r = .bool (q x)) : Gives Tryz.prog 54 #[v, .func (.func K) #[] caps] w fun r _ => r = .bool (l.any q) := by
  obtain ⟨p, c, rfl, hc1, hc2⟩ := Rp.slice_val hl
  have hl : (Rp.slice rInt).rd (fun _ => True) w _ l := Rp.any hl
  refine gives_of [.val (.slice p l.length c), .val (.func (.func K) #[] caps)] 9 [.tmp 4] Tryz.func54 rfl rfl rfl (by simp) rfl rfl ?_
  refine W.pure (ds := []) rfl fun K1 hK1 => ?_
  simp only [sx, ty, Bool.false_eq_true, q1, q2, q5, q6, q7, q8, q9, qa, qb, reduceIte]; with_reducible refine hK1 _ ?_; clear hK1
  refine W.seqK fun K2 hK2 => W.region ?_
  refine WO.go 2 (ds := []) rfl ?_
  simp only [sx, ty, Bool.false_eq_true, q1, q2, q5, q6, q7, q8, q9, qa, qb, reduceIte]
  refine WO.call (.int .i64 (findI q l)) (ds := []) rfl rfl rfl rfl co75 (fun ρ w1 hb => indexFunc_spec (Rp.now hl (hb.first (by simp))) q K caps hK fun w2 hk => hq w2 ((hb.first (by simp)).trans hk)) ?_
  refine WO.go 2 (ds := []) rfl ?_
  simp only [sx, ty, Bool.false_eq_true, q1, q2, q5, q6, q7, q8, q9, qa, qb, reduceIte]
  with_reducible refine WO.nil ?_
  refine hK2 _ ?_; clear hK2
  refine W.ret ⟨by simp, _, rfl, fun ρ w1 hb => ?_⟩
  simp only [den]
  rw [findI_any]
/-- function 55 -/
theorem withinFn_spec {w : World} {a b : Addr} {lo hi : Int} (n : Int) (ha : At w a [.int .i64 lo]) (hb : At w b [.int .i64 hi]) (hal : a.block < w.heap.size) (hbl : b.block < w.heap.size) : Gives Tryz.prog 55 #[.int .i64 n, .pointer (some a), .pointer (some b)] w fun r _ => r = .bool (decide (n < lo) || decide (hi < n)) := by
  refine gives_of [.val (.int .i64 n), .val (.pointer (some a)), .val (.pointer (some b))] 13 [.tmp 4] Tryz.func55 rfl rfl rfl (by simp) rfl rfl ?_
  refine W.pure (ds := []) rfl fun K1 hK1 => ?_
  simp only [sx, ty, Bool.false_eq_true, q1, q2, q5, q6, q7, q8, q9, qa, qb, reduceIte]; with_reducible refine hK1 _ ?_; clear hK1
  refine W.join 4 (.val (.bool (decide (n < lo) || decide (hi < n)))) [] (W.region ?_) ?_
  · skip
    refine WO.go 1 (ds := [some 5, some 6, some 7, some 8, some 9, some 10, some 11, some 12, some 4]) rfl ?_
    simp only [sx, ty, Bool.false_eq_true, q1, q2, q5, q6, q7, q8, q9, qa, qb, reduceIte]
    refine WO.load [.int .i64 lo] false (ds := [some 5, some 6, some 7, some 8, some 9, some 10, some 11, some 12, some 4]) rfl rfl rfl rfl rfl agg3 sz3 (.inr rfl) (fun ρ w1 hb1 => ha.frame ((hb1.first (by simp [St.put])).block _ trivial hal)) ?_
    refine WO.go 2 (ds := [some 5, some 6, some 7, some 8, some 9, some 10, some 11, some 12, some 4]) rfl ?_
    simp only [sx, ty, Bool.false_eq_true, q1, q2, q5, q6, q7, q8, q9, qa, qb, reduceIte]
    refine WO.cases 8 _ rfl (fun hg8 => ?_) (fun hg8 => ?_)
    · skip
      refine WO.go 5 (ds := [some 5, some 6, some 7, some 8, some 9, some 10, some 11, some 12, some 4]) rfl ?_
      simp only [sx, ty, Bool.false_eq_true, q1, q2, q5, q6, q7, q8, q9, qa, qb, reduceIte]
      with_reducible refine WO.nil ?_
      refine ⟨rfl, by simp [getE, bnd, keepE, hg8], ⟨_, rfl⟩, by simp [Own.bnd, bndL, bnd, boxO], by simp⟩
    · skip
      refine WO.go 1 (ds := [some 5, some 6, some 7, some 8, some 9, some 10, some 11, some 12, some 4]) rfl ?_
      simp only [sx, ty, Bool.false_eq_true, q1, q2, q5, q6, q7, q8, q9, qa, qb, reduceIte]
      refine WO.load [.int .i64 hi] false (ds := [some 5, some 6, some 7, some 8, some 9, some 10, some 11, some 12, some 4]) rfl rfl rfl rfl rfl agg3 sz3 (.inr rfl) (fun ρ w1 hb1 => hb.frame ((hb1.first (by simp [St.put])).block _ trivial hbl)) ?_
      refine WO.go 3 (ds := [some 5, some 6, some 7, some 8, some 9, some 10, some 11, some 12, some 4]) rfl ?_
      simp only [sx, ty, Bool.false_eq_true, q1, q2, q5, q6, q7, q8, q9, qa, qb, reduceIte]
      with_reducible refine WO.nil ?_
      refine ⟨rfl, by simp [getE, bnd, keepE, hg8], ⟨_, rfl⟩, by simp [Own.bnd, bndL, bnd, boxO], by simp⟩
  · simp only [sx, ty, Bool.false_eq_true, q1, q2, q5, q6, q7, q8, q9, qa, qb, reduceIte, sxk]
    refine W.ret ⟨by simp, _, rfl, fun ρ w1 hb => ?_⟩
    rfl
/-- function 28 -/
theorem within_spec {S : Nat → Prop} {w : World} {v : Value} {l : List Int} (hl : rInts.rd S w [v] l) (lo hi : Int) : Gives Tryz.prog 28 #[.int .i64 lo, .int .i64 hi, v] w fun r _ => r = .bool (l.all (within lo hi)) := by
  obtain ⟨p, c, rfl, hc1, hc2⟩ := Rp.slice_val hl
  have hl : (Rp.slice rInt).rd (fun _ => True) w _ l := Rp.any hl
  refine gives_of [.val (.int .i64 lo), .val (.int .i64 hi), .val (.slice p l.length c)] 11 [.tmp 6] Tryz.func28 rfl rfl rfl (by simp) rfl rfl ?_
  refine W.pure (ds := []) rfl fun K1 hK1 => ?_
  simp only [sx, ty, Bool.false_eq_true, q1, q2, q5, q6, q7, q8, q9, qa, qb, reduceIte]; with_reducible refine hK1 _ ?_; clear hK1
  refine W.seqK fun K2 hK2 => W.region ?_
  refine WO.go 2 (ds := []) rfl ?_
  simp only [sx, ty, Bool.false_eq_true, q1, q2, q5, q6, q7, q8, q9, qa, qb, reduceIte]
  refine WO.call (.bool (l.any fun n => decide (n < lo) || decide (hi < n))) (ds := []) rfl rfl rfl rfl co54 (fun ρ w1 hb => by
    obtain ⟨h0, h0'⟩ := own_cells (k := 0) hb rfl 0
    obtain ⟨h1, h1'⟩ := own_cells (k := 1) hb rfl 0
    exact containsFunc_spec (Rp.now hl (hb.first (by simp))) _ 55 #[.pointer (some ⟨ρ 0, 0, none⟩), .pointer (some ⟨ρ 1, 0, none⟩)] co55 fun w2 hk x hx =>
      withinFn_spec x (h0.frame (hk.block _ trivial h0')) (h1.frame (hk.block _ trivial h1')) (Nat.lt_of_lt_of_le h0' hk.size) (Nat.lt_of_lt_of_le h1' hk.size)) ?_
  refine WO.go 2 (ds := []) rfl ?_
  simp only [sx, ty, Bool.false_eq_true, q1, q2, q5, q6, q7, q8, q9, qa, qb, reduceIte]
  with_reducible refine WO.nil ?_
  refine hK2 _ ?_; clear hK2
  refine W.ret ⟨by simp, _, rfl, fun ρ w1 hb => ?_⟩
  simp only [den]
  rw [within_any]
/-- function 73 -/
theorem diffInt_spec {S : Nat → Prop} {w : World} {v : Value} {l : List Int} (hl : (Rp.slice rInt).rd S w [v] l) (key : Int → Int) (K : FuncId) (hK : callOk Tryz.prog K = true)
    (hq : ∀ w1, Keep (fun _ => True) w w1 → ∀ x, x ∈ l → ∀ ces, rInt.rd (fun _ => True) w ces x → Gives Tryz.prog K #[.int .i64 x] w1 fun r _ => r = .int .i64 (key x)) : Gives Tryz.prog 73 #[v, .func (.func K) #[] #[]] w fun r _ => r = .bool (decide (l.map key).Nodup) := by
  obtain ⟨p, c, rfl, hc1, hc2⟩ := Rp.slice_val hl
  have hl : (Rp.slice rInt).rd (fun _ => True) w _ l := Rp.any hl
  refine gives_of [.val (.slice p l.length c), .val (.func (.func K) #[] #[])] 25 [.tmp 4] Tryz.func73 rfl rfl rfl (by simp) rfl rfl ?_
  refine W.pure (ds := []) rfl fun K1 hK1 => ?_
  simp only [sx, ty, Bool.false_eq_true, q1, q2, q5, q6, q7, q8, q9, qa, qb, reduceIte]; with_reducible refine hK1 _ ?_; clear hK1
  refine W.seqK fun K2 hK2 => W.region ?_
  refine WO.makeSet (ds := []) rfl rfl rfl rfl fun r => ?_
  simp only [St.pushO]
  refine WO.go 1 (ds := []) rfl ?_
  simp only [sx, ty, Bool.false_eq_true, q1, q2, q5, q6, q7, q8, q9, qa, qb, reduceIte]
  with_reducible refine WO.nil ?_
  refine hK2 _ ?_; clear hK2
  refine W.seqK fun K3 hK3 => ?_
  refine W.pure (ds := []) rfl fun K4 hK4 => ?_
  simp only [sx, ty, Bool.false_eq_true, q1, q2, q5, q6, q7, q8, q9, qa, qb, reduceIte]; with_reducible refine hK4 _ ?_; clear hK4
  refine W.block ?_
  refine W.loopO (X := Nat) [1, 5, 9, 10] (fun x => [(11, .val (.int .i64 x))]) (fun x => [.map r (setE ((l.take x).map key)) ((l.take x).map key).length]) (fun x => [((fun _ => True), w)]) (fun x => x ≤ l.length ∧ ((l.take x).map key).Nodup) (fun x => l.length - x) 0 ?_ ?_ ?_
  · exact ⟨rfl, by simp [getE, bnd, keepE], ⟨[], by simp⟩, by simp [Own.bnd, bndL, bnd, boxO], by simp⟩
  · skip
    simp
  · rintro i ⟨hi, hno⟩
    simp only [sx, ty, Bool.false_eq_true, q1, q2, q5, q6, q7, q8, q9, qa, qb, reduceIte, sxk]
    refine W.pure (ds := []) rfl fun K5 hK5 => ?_
    simp only [sx, ty, Bool.false_eq_true, q1, q2, q5, q6, q7, q8, q9, qa, qb, reduceIte]; with_reducible refine hK5 _ ?_; clear hK5
    refine W.seqK fun K6 hK6 => ?_
    refine W.cond rfl rfl (fun hc => ?_) (fun hc => ?_)
    · skip
      have hlt : i < l.length := by simpa using hc
      refine W.skip (hK6 _ ?_)
      refine W.seqK fun K7 hK7 => ?_
      refine W.block ?_
      refine W.seqK fun K8 hK8 => W.region ?_
      refine WO.elem (y := l[i]) hl (by simp [St.put]) (ds := []) rfl rfl rfl (by simp [St.put]) (fun _ => rfl) rfl rfl rfl rfl rfl el27 agg3 sz3 (.inr rfl) (by omega) (getIdx l hlt) fun p ces hces => ?_
      obtain rfl := rInt_open hces
      refine WO.go 1 (ds := []) rfl ?_
      simp only [sx, ty, Bool.false_eq_true, q1, q2, q5, q6, q7, q8, q9, qa, qb, reduceIte]
      with_reducible refine WO.nil ?_
      refine hK8 _ ?_; clear hK8
      refine W.seqK fun K9 hK9 => ?_
      refine W.seqK fun K10 hK10 => W.region ?_
      refine WO.go 3 (ds := []) rfl ?_
      simp only [sx, ty, Bool.false_eq_true, q1, q2, q5, q6, q7, q8, q9, qa, qb, reduceIte]
      refine WO.call (.int .i64 (key l[i])) (ds := []) rfl rfl rfl rfl hK (fun ρ w1 hb => by have := hq w1 (hb.first (by simp [St.put, setOwn])) l[i] (List.getElem_mem hlt) _ hces; simpa [denL_eq, den, Function.comp_def] using this) ?_
      simp only [sx, ty, Bool.false_eq_true, q1, q2, q5, q6, q7, q8, q9, qa, qb, reduceIte]
      refine WO.inSet (k := 0) (ks := (l.take i).map key) (ds := []) rfl rfl rfl rfl rfl rfl rfl ms37 ?_
      simp only [sx, ty, Bool.false_eq_true, q1, q2, q5, q6, q7, q8, q9, qa, qb, reduceIte]
      with_reducible refine WO.nil ?_
      refine hK10 _ ?_; clear hK10
      refine W.cond rfl rfl (fun hc => ?_) (fun hc => ?_)
      · skip
        refine W.pure (ds := []) rfl fun K11 hK11 => ?_
        simp only [sx, ty, Bool.false_eq_true, q1, q2, q5, q6, q7, q8, q9, qa, qb, reduceIte]; with_reducible refine hK11 _ ?_; clear hK11
        refine W.ret ⟨by simp, _, rfl, fun ρ w1 hb => ?_⟩
        simp only [den, Value.bool.injEq]
        have hx : key l[i] ∈ (l.take i).map key := by simpa using hc
        rw [eq_comm, decide_eq_false_iff_not]
        intro hnd
        rw [← List.take_append_drop i l, List.map_append, List.nodup_append] at hnd
        exact hnd.2.2 _ hx (key l[i]) (List.mem_map.2 ⟨l[i], by rw [List.drop_eq_getElem_cons hlt]; exact List.mem_cons_self, rfl⟩) rfl
      · skip
        refine W.skip (hK9 _ ?_)
        refine W.region ?_
        refine WO.go 3 (ds := []) rfl ?_
        simp only [sx, ty, Bool.false_eq_true, q1, q2, q5, q6, q7, q8, q9, qa, qb, reduceIte]
        refine WO.call (.int .i64 (key l[i])) (ds := []) rfl rfl rfl rfl hK (fun ρ w1 hb => by have := hq w1 (hb.first (by simp [St.put, setOwn])) l[i] (List.getElem_mem hlt) _ hces; simpa [denL_eq, den, Function.comp_def] using this) ?_
        simp only [sx, ty, Bool.false_eq_true, q1, q2, q5, q6, q7, q8, q9, qa, qb, reduceIte]
        have hx : key l[i] ∉ (l.take i).map key := by simpa using hc
        refine WO.addSet (k := 0) (ks := (l.take i).map key) (ds := []) rfl rfl rfl rfl rfl rfl rfl rfl ms37 hx ?_
        simp only [setOwn]
        rw [← take_map_snoc key l (getIdx l hlt)]
        simp only [sx, ty, Bool.false_eq_true, q1, q2, q5, q6, q7, q8, q9, qa, qb, reduceIte]
        with_reducible refine WO.nil ?_
        refine hK7 _ ?_
        refine W.region ?_
        refine WO.go 2 (ds := []) rfl ?_
        simp only [sx, ty, Bool.false_eq_true, q1, q2, q5, q6, q7, q8, q9, qa, qb, reduceIte]
        with_reducible refine WO.nil ?_
        refine ⟨i + 1, ?_, by first | omega | (simp; omega), rfl, by simp [getE, bnd, keepE, wrap_succ (show i + 1 ≤ 9223372036854775807 by omega)], ⟨_, rfl⟩, by simp [Own.bnd, bndL, bnd, boxO], by simp⟩
        exact ⟨hlt, by rw [take_map_snoc key l (getIdx l hlt)]; exact (nodup_snoc _ _).2 ⟨hno, hx⟩⟩
    · skip
      refine W.exit (hK3 _ ?_)
      refine W.pure (ds := []) rfl fun K12 hK12 => ?_
      simp only [sx, ty, Bool.false_eq_true, q1, q2, q5, q6, q7, q8, q9, qa, qb, reduceIte]; with_reducible refine hK12 _ ?_; clear hK12
      refine W.ret ⟨by simp, _, rfl, fun ρ w1 hb => ?_⟩
      have hge : l.length ≤ i := by simpa using hc
      rw [List.take_of_length_le hge] at hno
      simp only [den, hno, decide_true]
/-- function 50 -/
theorem diffDem_spec {S : Nat → Prop} {w : World} {v : Value} {l : List Dem} (hl : (Rp.slice rDem).rd S w [v] l) (key : Dem → Int) (K : FuncId) (hK : callOk Tryz.prog K = true)
    (hq : ∀ w1, Keep (fun _ => True) w w1 → ∀ x, x ∈ l → ∀ ces, rDem.rd (fun _ => True) w ces x → Gives Tryz.prog K #[.agg ces.toArray] w1 fun r _ => r = .int .i64 (key x)) : Gives Tryz.prog 50 #[v, .func (.func K) #[] #[]] w fun r _ => r = .bool (decide (l.map key).Nodup) := by
  obtain ⟨p, c, rfl, hc1, hc2⟩ := Rp.slice_val hl
  have hl : (Rp.slice rDem).rd (fun _ => True) w _ l := Rp.any hl
  refine gives_of [.val (.slice p l.length c), .val (.func (.func K) #[] #[])] 25 [.tmp 4] Tryz.func50 rfl rfl rfl (by simp) rfl rfl ?_
  refine W.pure (ds := []) rfl fun K1 hK1 => ?_
  simp only [sx, ty, Bool.false_eq_true, q1, q2, q5, q6, q7, q8, q9, qa, qb, reduceIte]; with_reducible refine hK1 _ ?_; clear hK1
  refine W.seqK fun K2 hK2 => W.region ?_
  refine WO.makeSet (ds := []) rfl rfl rfl rfl fun r => ?_
  simp only [St.pushO]
  refine WO.go 1 (ds := []) rfl ?_
  simp only [sx, ty, Bool.false_eq_true, q1, q2, q5, q6, q7, q8, q9, qa, qb, reduceIte]
  with_reducible refine WO.nil ?_
  refine hK2 _ ?_; clear hK2
  refine W.seqK fun K3 hK3 => ?_
  refine W.pure (ds := []) rfl fun K4 hK4 => ?_
  simp only [sx, ty, Bool.false_eq_true, q1, q2, q5, q6, q7, q8, q9, qa, qb, reduceIte]; with_reducible refine hK4 _ ?_; clear hK4
  refine W.block ?_
  refine W.loopO (X := Nat) [1, 5, 9, 10] (fun x => [(11, .val (.int .i64 x))]) (fun x => [.map r (setE ((l.take x).map key)) ((l.take x).map key).length]) (fun x => [((fun _ => True), w)]) (fun x => x ≤ l.length ∧ ((l.take x).map key).Nodup) (fun x => l.length - x) 0 ?_ ?_ ?_
  · exact ⟨rfl, by simp [getE, bnd, keepE], ⟨[], by simp⟩, by simp [Own.bnd, bndL, bnd, boxO], by simp⟩
  · skip
    simp
  · rintro i ⟨hi, hno⟩
    simp only [sx, ty, Bool.false_eq_true, q1, q2, q5, q6, q7, q8, q9, qa, qb, reduceIte, sxk]
    refine W.pure (ds := []) rfl fun K5 hK5 => ?_
    simp only [sx, ty, Bool.false_eq_true, q1, q2, q5, q6, q7, q8, q9, qa, qb, reduceIte]; with_reducible refine hK5 _ ?_; clear hK5
    refine W.seqK fun K6 hK6 => ?_
    refine W.cond rfl rfl (fun hc => ?_) (fun hc => ?_)
    · skip
      have hlt : i < l.length := by simpa using hc
      refine W.skip (hK6 _ ?_)
      refine W.seqK fun K7 hK7 => ?_
      refine W.block ?_
      refine W.seqK fun K8 hK8 => W.region ?_
      refine WO.elem (y := l[i]) hl (by simp [St.put]) (ds := []) rfl rfl rfl (by simp [St.put]) (fun _ => rfl) rfl rfl rfl rfl rfl el22 agg41 sz41 (.inl rfl) (by omega) (getIdx l hlt) fun p ces hces => ?_
      obtain ⟨p2, c2, rfl, hed, hel⟩ := rDem_open hces
      refine WO.go 2 (ds := []) rfl ?_
      simp only [sx, ty, Bool.false_eq_true, q1, q2, q5, q6, q7, q8, q9, qa, qb, reduceIte]
      with_reducible refine WO.nil ?_
      refine hK8 _ ?_; clear hK8
      refine W.seqK fun K9 hK9 => ?_
      refine W.seqK fun K10 hK10 => W.region ?_
      refine WO.go 3 (ds := []) rfl ?_
      simp only [sx, ty, Bool.false_eq_true, q1, q2, q5, q6, q7, q8, q9, qa, qb, reduceIte]
      refine WO.call (.int .i64 (key l[i])) (ds := []) rfl rfl rfl rfl hK (fun ρ w1 hb => by have := hq w1 (hb.first (by simp [St.put, setOwn])) l[i] (List.getElem_mem hlt) _ hces; simpa [denL_eq, den, Function.comp_def] using this) ?_
      simp only [sx, ty, Bool.false_eq_true, q1, q2, q5, q6, q7, q8, q9, qa, qb, reduceIte]
      refine WO.inSet (k := 0) (ks := (l.take i).map key) (ds := []) rfl rfl rfl rfl rfl rfl rfl ms37 ?_
      simp only [sx, ty, Bool.false_eq_true, q1, q2, q5, q6, q7, q8, q9, qa, qb, reduceIte]
      with_reducible refine WO.nil ?_
      refine hK10 _ ?_; clear hK10
      refine W.cond rfl rfl (fun hc => ?_) (fun hc => ?_)
      · skip
        refine W.pure (ds := []) rfl fun K11 hK11 => ?_
        simp only [sx, ty, Bool.false_eq_true, q1, q2, q5, q6, q7, q8, q9, qa, qb, reduceIte]; with_reducible refine hK11 _ ?_; clear hK11
        refine W.ret ⟨by simp, _, rfl, fun ρ w1 hb => ?_⟩
        simp only [den, Value.bool.injEq]
        have hx : key l[i] ∈ (l.take i).map key := by simpa using hc
        rw [eq_comm, decide_eq_false_iff_not]
        intro hnd
        rw [← List.take_append_drop i l, List.map_append, List.nodup_append] at hnd
        exact hnd.2.2 _ hx (key l[i]) (List.mem_map.2 ⟨l[i], by rw [List.drop_eq_getElem_cons hlt]; exact List.mem_cons_self, rfl⟩) rfl
      · skip
        refine W.skip (hK9 _ ?_)
        refine W.region ?_
        refine WO.go 3 (ds := []) rfl ?_
        simp only [sx, ty, Bool.false_eq_true, q1, q2, q5, q6, q7, q8, q9, qa, qb, reduceIte]
        refine WO.call (.int .i64 (key l[i])) (ds := []) rfl rfl rfl rfl hK (fun ρ w1 hb => by have := hq w1 (hb.first (by simp [St.put, setOwn])) l[i] (List.getElem_mem hlt) _ hces; simpa [denL_eq, den, Function.comp_def] using this) ?_
        simp only [sx, ty, Bool.false_eq_true, q1, q2, q5, q6, q7, q8, q9, qa, qb, reduceIte]
        have hx : key l[i] ∉ (l.take i).map key := by simpa using hc
        refine WO.addSet (k := 0) (ks := (l.take i).map key) (ds := []) rfl rfl rfl rfl rfl rfl rfl rfl ms37 hx ?_
        simp only [setOwn]
        rw [← take_map_snoc key l (getIdx l hlt)]
        simp only [sx, ty, Bool.false_eq_true, q1, q2, q5, q6, q7, q8, q9, qa, qb, reduceIte]
        with_reducible refine WO.nil ?_
        refine hK7 _ ?_
        refine W.region ?_
        refine WO.go 2 (ds := []) rfl ?_
        simp only [sx, ty, Bool.false_eq_true, q1, q2, q5, q6, q7, q8, q9, qa, qb, reduceIte]
        with_reducible refine WO.nil ?_
        refine ⟨i + 1, ?_, by first | omega | (simp; omega), rfl, by simp [getE, bnd, keepE, wrap_succ (show i + 1 ≤ 9223372036854775807 by omega)], ⟨_, rfl⟩, by simp [Own.bnd, bndL, bnd, boxO], by simp⟩
        exact ⟨hlt, by rw [take_map_snoc key l (getIdx l hlt)]; exact (nodup_snoc _ _).2 ⟨hno, hx⟩⟩
    · skip
      refine W.exit (hK3 _ ?_)
      refine W.pure (ds := []) rfl fun K12 hK12 => ?_
      simp only [sx, ty, Bool.false_eq_true, q1, q2, q5, q6, q7, q8, q9, qa, qb, reduceIte]; with_reducible refine hK12 _ ?_; clear hK12
      refine W.ret ⟨by simp, _, rfl, fun ρ w1 hb => ?_⟩
      have hge : l.length ≤ i := by simpa using hc
      rw [List.take_of_length_le hge] at hno
      simp only [den, hno, decide_true]
/-- function 52 -/
theorem diffCop_spec {S : Nat → Prop} {w : World} {v : Value} {l : List Cop} (hl : (Rp.slice rCop).rd S w [v] l) (key : Cop → Int) (K : FuncId) (hK : callOk Tryz.prog K = true)
    (hq : ∀ w1, Keep (fun _ => True) w w1 → ∀ x, x ∈ l → ∀ ces, rCop.rd (fun _ => True) w ces x → Gives Tryz.prog K #[.agg ces.toArray] w1 fun r _ => r = .int .i64 (key x)) : Gives Tryz.prog 52 #[v, .func (.func K) #[] #[]] w fun r _ => r = .bool (decide (l.map key).Nodup) := by
  obtain ⟨p, c, rfl, hc1, hc2⟩ := Rp.slice_val hl
  have hl : (Rp.slice rCop).rd (fun _ => True) w _ l := Rp.any hl
  refine gives_of [.val (.slice p l.length c), .val (.func (.func K) #[] #[])] 25 [.tmp 4] Tryz.func52 rfl rfl rfl (by simp) rfl rfl ?_
  refine W.pure (ds := []) rfl fun K1 hK1 => ?_
  simp only [sx, ty, Bool.false_eq_true, q1, q2, q5, q6, q7, q8, q9, qa, qb, reduceIte]; with_reducible refine hK1 _ ?_; clear hK1
  refine W.seqK fun K2 hK2 => W.region ?_
  refine WO.makeSet (ds := []) rfl rfl rfl rfl fun r => ?_
  simp only [St.pushO]
  refine WO.go 1 (ds := []) rfl ?_
  simp only [sx, ty, Bool.false_eq_true, q1, q2, q5, q6, q7, q8, q9, qa, qb, reduceIte]
  with_reducible refine WO.nil ?_
  refine hK2 _ ?_; clear hK2
  refine W.seqK fun K3 hK3 => ?_
  refine W.pure (ds := []) rfl fun K4 hK4 => ?_
  simp only [sx, ty, Bool.false_eq_true, q1, q2, q5, q6, q7, q8, q9, qa, qb, reduceIte]; with_reducible refine hK4 _ ?_; clear hK4
  refine W.block ?_
  refine W.loopO (X := Nat) [1, 5, 9, 10] (fun x => [(11, .val (.int .i64 x))]) (fun x => [.map r (setE ((l.take x).map key)) ((l.take x).map key).length]) (fun x => [((fun _ => True), w)]) (fun x => x ≤ l.length ∧ ((l.take x).map key).Nodup) (fun x => l.length - x) 0 ?_ ?_ ?_
  · exact ⟨rfl, by simp [getE, bnd, keepE], ⟨[], by simp⟩, by simp [Own.bnd, bndL, bnd, boxO], by simp⟩
  · skip
    simp
  · rintro i ⟨hi, hno⟩
    simp only [sx, ty, Bool.false_eq_true, q1, q2, q5, q6, q7, q8, q9, qa, qb, reduceIte, sxk]
    refine W.pure (ds := []) rfl fun K5 hK5 => ?_
    simp only [sx, ty, Bool.false_eq_true, q1, q2, q5, q6, q7, q8, q9, qa, qb, reduceIte]; with_reducible refine hK5 _ ?_; clear hK5
    refine W.seqK fun K6 hK6 => ?_
    refine W.cond rfl rfl (fun hc => ?_) (fun hc => ?_)
    · skip
      have hlt : i < l.length := by simpa using hc
      refine W.skip (hK6 _ ?_)
      refine W.seqK fun K7 hK7 => ?_
      refine W.block ?_
      refine W.seqK fun K8 hK8 => W.region ?_
      refine WO.elem (y := l[i]) hl (by simp [St.put]) (ds := []) rfl rfl rfl (by simp [St.put]) (fun _ => rfl) rfl rfl rfl rfl rfl el23 agg45 sz45 (.inl rfl) (by omega) (getIdx l hlt) fun p ces hces => ?_
      obtain rfl := rCop_open hces
      refine WO.go 2 (ds := []) rfl ?_
      simp only [sx, ty, Bool.false_eq_true, q1, q2, q5, q6, q7, q8, q9, qa, qb, reduceIte]
      with_reducible refine WO.nil ?_
      refine hK8 _ ?_; clear hK8
      refine W.seqK fun K9 hK9 => ?_
      refine W.seqK fun K10 hK10 => W.region ?_
      refine WO.go 3 (ds := []) rfl ?_
      simp only [sx, ty, Bool.false_eq_true, q1, q2, q5, q6, q7, q8, q9, qa, qb, reduceIte]
      refine WO.call (.int .i64 (key l[i])) (ds := []) rfl rfl rfl rfl hK (fun ρ w1 hb => by have := hq w1 (hb.first (by simp [St.put, setOwn])) l[i] (List.getElem_mem hlt) _ hces; simpa [denL_eq, den, Function.comp_def] using this) ?_
      simp only [sx, ty, Bool.false_eq_true, q1, q2, q5, q6, q7, q8, q9, qa, qb, reduceIte]
      refine WO.inSet (k := 0) (ks := (l.take i).map key) (ds := []) rfl rfl rfl rfl rfl rfl rfl ms37 ?_
      simp only [sx, ty, Bool.false_eq_true, q1, q2, q5, q6, q7, q8, q9, qa, qb, reduceIte]
      with_reducible refine WO.nil ?_
      refine hK10 _ ?_; clear hK10
      refine W.cond rfl rfl (fun hc => ?_) (fun hc => ?_)
      · skip
        refine W.pure (ds := []) rfl fun K11 hK11 => ?_
        simp only [sx, ty, Bool.false_eq_true, q1, q2, q5, q6, q7, q8, q9, qa, qb, reduceIte]; with_reducible refine hK11 _ ?_; clear hK11
        refine W.ret ⟨by simp, _, rfl, fun ρ w1 hb => ?_⟩
        simp only [den, Value.bool.injEq]
        have hx : key l[i] ∈ (l.take i).map key := by simpa using hc
        rw [eq_comm, decide_eq_false_iff_not]
        intro hnd
        rw [← List.take_append_drop i l, List.map_append, List.nodup_append] at hnd
        exact hnd.2.2 _ hx (key l[i]) (List.mem_map.2 ⟨l[i], by rw [List.drop_eq_getElem_cons hlt]; exact List.mem_cons_self, rfl⟩) rfl
      · skip
        refine W.skip (hK9 _ ?_)
        refine W.region ?_
        refine WO.go 3 (ds := []) rfl ?_
        simp only [sx, ty, Bool.false_eq_true, q1, q2, q5, q6, q7, q8, q9, qa, qb, reduceIte]
        refine WO.call (.int .i64 (key l[i])) (ds := []) rfl rfl rfl rfl hK (fun ρ w1 hb => by have := hq w1 (hb.first (by simp [St.put, setOwn])) l[i] (List.getElem_mem hlt) _ hces; simpa [denL_eq, den, Function.comp_def] using this) ?_
        simp only [sx, ty, Bool.false_eq_true, q1, q2, q5, q6, q7, q8, q9, qa, qb, reduceIte]
        have hx : key l[i] ∉ (l.take i).map key := by simpa using hc
        refine WO.addSet (k := 0) (ks := (l.take i).map key) (ds := []) rfl rfl rfl rfl rfl rfl rfl rfl ms37 hx ?_
        simp only [setOwn]
        rw [← take_map_snoc key l (getIdx l hlt)]
        simp only [sx, ty, Bool.false_eq_true, q1, q2, q5, q6, q7, q8, q9, qa, qb, reduceIte]
        with_reducible refine WO.nil ?_
        refine hK7 _ ?_
        refine W.region ?_
        refine WO.go 2 (ds := []) rfl ?_
        simp only [sx, ty, Bool.false_eq_true, q1, q2, q5, q6, q7, q8, q9, qa, qb, reduceIte]
        with_reducible refine WO.nil ?_
        refine ⟨i + 1, ?_, by first | omega | (simp; omega), rfl, by simp [getE, bnd, keepE, wrap_succ (show i + 1 ≤ 9223372036854775807 by omega)], ⟨_, rfl⟩, by simp [Own.bnd, bndL, bnd, boxO], by simp⟩
        exact ⟨hlt, by rw [take_map_snoc key l (getIdx l hlt)]; exact (nodup_snoc _ _).2 ⟨hno, hx⟩⟩
    · skip
      refine W.exit (hK3 _ ?_)
      refine W.pure (ds := []) rfl fun K12 hK12 => ?_
      simp only [sx, ty, Bool.false_eq_true, q1, q2, q5, q6, q7, q8, q9, qa, qb, reduceIte]; with_reducible refine hK12 _ ?_; clear hK12
      refine W.ret ⟨by simp, _, rfl, fun ρ w1 hb => ?_⟩
      have hge : l.length ≤ i := by simpa using hc
      rw [List.take_of_length_le hge] at hno
      simp only [den, hno, decide_true]
end Go.Proofs.YtolmeekbjonbcaaGreat
set_option linter.unusedVariables false
set_option linter.unusedSimpArgs false
set_option maxHeartbeats 400000
namespace Go.Proofs.YtolmeekbjonbcaaGreat
open Int renaming reduceEq → q1, reduceLT → q2, reduceBEq → q3, reduceBNe → q4
open Nat renaming reduceAdd → q5, reduceSub → q6, reduceMul → q7, reduceLT → q8, reduceLeDiff → q9, reduceEqDiff → qa
open List renaming reduceReplicate → qb
open Go Go.SX Go.RowKit
/-- function 74 -/
theorem key35 (w : World) (x : Int) : Gives Tryz.prog 74 #[.int .i64 x] w fun r _ => r = .int .i64 x := by
  refine gives_of [.val (.int .i64 x)] 4 [.tmp 2] Tryz.func74 rfl rfl rfl (by simp) rfl rfl ?_
  refine W.pure (ds := []) rfl fun K1 hK1 => ?_
  simp only [sx, ty, Bool.false_eq_true, q1, q2, q5, q6, q7, q8, q9, qa, qb, reduceIte]; with_reducible refine hK1 _ ?_; clear hK1
  refine W.pure (ds := []) rfl fun K2 hK2 => ?_
  simp only [sx, ty, Bool.false_eq_true, q1, q2, q5, q6, q7, q8, q9, qa, qb, reduceIte]; with_reducible refine hK2 _ ?_; clear hK2
  refine W.ret ⟨by simp, _, rfl, fun ρ w1 hb => ?_⟩
  rfl
/-- function 51 -/
theorem key26 {S : Nat → Prop} {w : World} {ces : List Value} {d : Dem} (hd : rDem.rd S w ces d) : Gives Tryz.prog 51 #[.agg ces.toArray] w fun r _ => r = .int .i64 d.1 := by
  obtain ⟨p, c, rfl, hel, hlen⟩ := rDem_open hd
  refine gives_of [.agg [.val (.int .i64 d.1), .val (.int .i64 d.2.1), .val (.int .i64 d.2.2.1), .val (.slice p d.2.2.2.length c)]] 5 [.tmp 2] Tryz.func51 rfl rfl rfl (by simp) rfl rfl ?_
  refine W.pure (ds := []) rfl fun K1 hK1 => ?_
  simp only [sx, ty, Bool.false_eq_true, q1, q2, q5, q6, q7, q8, q9, qa, qb, reduceIte]; with_reducible refine hK1 _ ?_; clear hK1
  refine W.pure (ds := []) rfl fun K2 hK2 => ?_
  simp only [sx, ty, Bool.false_eq_true, q1, q2, q5, q6, q7, q8, q9, qa, qb, reduceIte]; with_reducible refine hK2 _ ?_; clear hK2
  refine W.ret ⟨by simp, _, rfl, fun ρ w1 hb => ?_⟩
  rfl
/-- function 53 -/
theorem key28 {S : Nat → Prop} {w : World} {ces : List Value} {c : Cop} (hd : rCop.rd S w ces c) : Gives Tryz.prog 53 #[.agg ces.toArray] w fun r _ => r = .int .i64 c.1 := by
  obtain rfl := rCop_open hd
  refine gives_of [.agg [.val (.int .i64 c.1), .val (.int .i64 c.2.1), .val (.int .i64 c.2.2.1), .val (.int .i64 c.2.2.2)]] 5 [.tmp 2] Tryz.func53 rfl rfl rfl (by simp) rfl rfl ?_
  refine W.pure (ds := []) rfl fun K1 hK1 => ?_
  simp only [sx, ty, Bool.false_eq_true, q1, q2, q5, q6, q7, q8, q9, qa, qb, reduceIte]; with_reducible refine hK1 _ ?_; clear hK1
  refine W.pure (ds := []) rfl fun K2 hK2 => ?_
  simp only [sx, ty, Bool.false_eq_true, q1, q2, q5, q6, q7, q8, q9, qa, qb, reduceIte]; with_reducible refine hK2 _ ?_; clear hK2
  refine W.ret ⟨by simp, _, rfl, fun ρ w1 hb => ?_⟩
  rfl
/-- function 48 -/
theorem isDemand_spec {S : Nat → Prop} {w : World} {ces : List Value} {d : Dem} (hd : rDem.rd S w ces d) : Gives Tryz.prog 48 #[.agg ces.toArray] w fun r _ => r = .bool (validD d) := by
  obtain ⟨p, c, rfl, hel, hlen⟩ := rDem_open hd
  refine gives_of [.agg [.val (.int .i64 d.1), .val (.int .i64 d.2.1), .val (.int .i64 d.2.2.1), .val (.slice p d.2.2.2.length c)]] 30 [.tmp 2] Tryz.func48 rfl rfl rfl (by simp) rfl rfl ?_
  refine W.pure (ds := []) rfl fun K1 hK1 => ?_
  simp only [sx, ty, Bool.false_eq_true, q1, q2, q5, q6, q7, q8, q9, qa, qb, reduceIte]; with_reducible refine hK1 _ ?_; clear hK1
  refine W.pure (ds := []) rfl fun K2 hK2 => ?_
  simp only [sx, ty, Bool.false_eq_true, q1, q2, q5, q6, q7, q8, q9, qa, qb, reduceIte]; with_reducible refine hK2 _ ?_; clear hK2
  refine W.join 2 (.val (.bool ([d.1, d.2.1, d.2.2.1].all (within 1 1000000) && ([(d.2.2.2.length : Int)].all (within 1 12) && (d.2.2.2.all (within 1 1000000) && decide (d.2.2.2.map fun x => x).Nodup))))) [] (W.region ?_) ?_
  · skip
    refine WO.go 7 (ds := [some 7, some 8, some 9, some 10, some 11, some 12, some 13, some 14, some 15, some 16, some 17, some 18, some 19, some 20, some 21, some 22, some 23, some 24, some 25, some 26, some 27, some 28, some 29, some 2]) rfl ?_
    simp only [sx, ty, Bool.false_eq_true, q1, q2, q5, q6, q7, q8, q9, qa, qb, reduceIte]
    refine WO.call (.bool ([d.1, d.2.1, d.2.2.1].all (within 1 1000000))) (ds := [some 7, some 8, some 9, some 10, some 11, some 12, some 13, some 14, some 15, some 16, some 17, some 18, some 19, some 20, some 21, some 22, some 23, some 24, some 25, some 26, some 27, some 28, some 29, some 2]) rfl rfl rfl rfl co28 (fun ρ w1 hb => within_spec (own_ints (xs := [d.1, d.2.1, d.2.2.1]) hb rfl rfl rfl (by simp)) _ _) ?_
    refine WO.go 1 (ds := [some 7, some 8, some 9, some 10, some 11, some 12, some 13, some 14, some 15, some 16, some 17, some 18, some 19, some 20, some 21, some 22, some 23, some 24, some 25, some 26, some 27, some 28, some 29, some 2]) rfl ?_
    simp only [sx, ty, Bool.false_eq_true, q1, q2, q5, q6, q7, q8, q9, qa, qb, reduceIte]
    refine WO.cases 15 _ rfl (fun hg15 => ?_) (fun hg15 => ?_)
    · skip
      refine WO.go 2 (ds := [some 7, some 8, some 9, some 10, some 11, some 12, some 13, some 14, some 15, some 16, some 17, some 18, some 19, some 20, some 21, some 22, some 23, some 24, some 25, some 26, some 27, some 28, some 29, some 2]) rfl ?_
      simp only [sx, ty, Bool.false_eq_true, q1, q2, q5, q6, q7, q8, q9, qa, qb, reduceIte]
      refine WO.call (.bool ([(d.2.2.2.length : Int)].all (within 1 12))) (ds := [some 7, some 8, some 9, some 10, some 11, some 12, some 13, some 14, some 15, some 16, some 17, some 18, some 19, some 20, some 21, some 22, some 23, some 24, some 25, some 26, some 27, some 28, some 29, some 2]) rfl rfl rfl rfl co28 (fun ρ w1 hb => within_spec (own_ints (xs := [(d.2.2.2.length : Int)]) hb rfl rfl rfl (by simp)) _ _) ?_
      refine WO.go 2 (ds := [some 7, some 8, some 9, some 10, some 11, some 12, some 13, some 14, some 15, some 16, some 17, some 18, some 19, some 20, some 21, some 22, some 23, some 24, some 25, some 26, some 27, some 28, some 29, some 2]) rfl ?_
      simp only [sx, ty, Bool.false_eq_true, q1, q2, q5, q6, q7, q8, q9, qa, qb, reduceIte]
      refine WO.cases 20 _ rfl (fun hg20 => ?_) (fun hg20 => ?_)
      · skip
        refine WO.go 2 (ds := [some 7, some 8, some 9, some 10, some 11, some 12, some 13, some 14, some 15, some 16, some 17, some 18, some 19, some 20, some 21, some 22, some 23, some 24, some 25, some 26, some 27, some 28, some 29, some 2]) rfl ?_
        simp only [sx, ty, Bool.false_eq_true, q1, q2, q5, q6, q7, q8, q9, qa, qb, reduceIte]
        refine WO.call (.bool (d.2.2.2.all (within 1 1000000))) (ds := [some 7, some 8, some 9, some 10, some 11, some 12, some 13, some 14, some 15, some 16, some 17, some 18, some 19, some 20, some 21, some 22, some 23, some 24, some 25, some 26, some 27, some 28, some 29, some 2]) rfl rfl rfl rfl co28 (fun ρ w1 hb => within_spec (Rp.now hel (hb.first (by simp))) _ _) ?_
        refine WO.go 2 (ds := [some 7, some 8, some 9, some 10, some 11, some 12, some 13, some 14, some 15, some 16, some 17, some 18, some 19, some 20, some 21, some 22, some 23, some 24, some 25, some 26, some 27, some 28, some 29, some 2]) rfl ?_
        simp only [sx, ty, Bool.false_eq_true, q1, q2, q5, q6, q7, q8, q9, qa, qb, reduceIte]
        refine WO.cases 25 _ rfl (fun hg25 => ?_) (fun hg25 => ?_)
        · skip
          refine WO.go 2 (ds := [some 7, some 8, some 9, some 10, some 11, some 12, some 13, some 14, some 15, some 16, some 17, some 18, some 19, some 20, some 21, some 22, some 23, some 24, some 25, some 26, some 27, some 28, some 29, some 2]) rfl ?_
          simp only [sx, ty, Bool.false_eq_true, q1, q2, q5, q6, q7, q8, q9, qa, qb, reduceIte]
          refine WO.call (.bool (decide (d.2.2.2.map fun x => x).Nodup)) (ds := [some 7, some 8, some 9, some 10, some 11, some 12, some 13, some 14, some 15, some 16, some 17, some 18, some 19, some 20, some 21, some 22, some 23, some 24, some 25, some 26, some 27, some 28, some 29, some 2]) rfl rfl rfl rfl co73 (fun ρ w1 hb => diffInt_spec (Rp.now hel (hb.first (by simp))) (fun x => x) 74 co74 fun w2 _ x _ ces hces => by obtain rfl := rInt_open hces; exact key35 w2 x) ?_
          refine WO.go 2 (ds := [some 7, some 8, some 9, some 10, some 11, some 12, some 13, some 14, some 15, some 16, some 17, some 18, some 19, some 20, some 21, some 22, some 23, some 24, some 25, some 26, some 27, some 28, some 29, some 2]) rfl ?_
          simp only [sx, ty, Bool.false_eq_true, q1, q2, q5, q6, q7, q8, q9, qa, qb, reduceIte]
          with_reducible refine WO.nil ?_
          refine ⟨rfl, ?_, ⟨_, rfl⟩, by simp [Own.bnd, bndL, bnd, boxO], by simp⟩
          try rw [hg15]
          try rw [hg20]
          try rw [hg25]
          try rw [hg11]
          try rw [hg12]
          try rw [hg39]
          simp [getE, bnd, keepE]
        · skip
          refine WO.go 5 (ds := [some 7, some 8, some 9, some 10, some 11, some 12, some 13, some 14, some 15, some 16, some 17, some 18, some 19, some 20, some 21, some 22, some 23, some 24, some 25, some 26, some 27, some 28, some 29, some 2]) rfl ?_
          simp only [sx, ty, Bool.false_eq_true, q1, q2, q5, q6, q7, q8, q9, qa, qb, reduceIte]
          with_reducible refine WO.nil ?_
          refine ⟨rfl, ?_, ⟨_, rfl⟩, by simp [Own.bnd, bndL, bnd, boxO], by simp⟩
          try rw [hg15]
          try rw [hg20]
          try rw [hg25]
          try rw [hg11]
          try rw [hg12]
          try rw [hg39]
          simp [getE, bnd, keepE]
      · skip
        refine WO.go 10 (ds := [some 7, some 8, some 9, some 10, some 11, some 12, some 13, some 14, some 15, some 16, some 17, some 18, some 19, some 20, some 21, some 22, some 23, some 24, some 25, some 26, some 27, some 28, some 29, some 2]) rfl ?_
        simp only [sx, ty, Bool.false_eq_true, q1, q2, q5, q6, q7, q8, q9, qa, qb, reduceIte]
        with_reducible refine WO.nil ?_
        refine ⟨rfl, ?_, ⟨_, rfl⟩, by simp [Own.bnd, bndL, bnd, boxO], by simp⟩
        try rw [hg15]
        try rw [hg20]
        try rw [hg25]
        try rw [hg11]
        try rw [hg12]
        try rw [hg39]
        simp [getE, bnd, keepE]
    · skip
      refine WO.go 15 (ds := [some 7, some 8, some 9, some 10, some 11, some 12, some 13, some 14, some 15, some 16, some 17, some 18, some 19, some 20, some 21, some 22, some 23, some 24, some 25, some 26, some 27, some 28, some 29, some 2]) rfl ?_
      simp only [sx, ty, Bool.false_eq_true, q1, q2, q5, q6, q7, q8, q9, qa, qb, reduceIte]
      with_reducible refine WO.nil ?_
      refine ⟨rfl, ?_, ⟨_, rfl⟩, by simp [Own.bnd, bndL, bnd, boxO], by simp⟩
      try rw [hg15]
      try rw [hg20]
      try rw [hg25]
      try rw [hg11]
      try rw [hg12]
      try rw [hg39]
      simp [getE, bnd, keepE]
  · simp only [sx, ty, Bool.false_eq_true, q1, q2, q5, q6, q7, q8, q9, qa, qb, reduceIte, sxk]
    refine W.ret ⟨by simp, _, rfl, fun ρ w1 hb => ?_⟩
    simp [den, validD, Bool.and_assoc]
/-- function 49 -/
theorem isCopy_spec {S : Nat → Prop} {w : World} {ces : List Value} {c : Cop} (hd : rCop.rd S w ces c) : Gives Tryz.prog 49 #[.agg ces.toArray] w fun r _ => r = .bool (validC c) := by
  obtain rfl := rCop_open hd
  refine gives_of [.agg [.val (.int .i64 c.1), .val (.int .i64 c.2.1), .val (.int .i64 c.2.2.1), .val (.int .i64 c.2.2.2)]] 17 [.tmp 2] Tryz.func49 rfl rfl rfl (by simp) rfl rfl ?_
  refine W.pure (ds := []) rfl fun K1 hK1 => ?_
  simp only [sx, ty, Bool.false_eq_true, q1, q2, q5, q6, q7, q8, q9, qa, qb, reduceIte]; with_reducible refine hK1 _ ?_; clear hK1
  refine W.join 2 (.val (.bool ([c.1, c.2.1, c.2.2.1].all (within 1 1000000) && [c.2.2.2].all (within 0 99)))) [] (W.region ?_) ?_
  · skip
    refine WO.go 7 (ds := [some 3, some 4, some 5, some 6, some 7, some 8, some 9, some 10, some 11, some 12, some 13, some 14, some 15, some 16, some 2]) rfl ?_
    simp only [sx, ty, Bool.false_eq_true, q1, q2, q5, q6, q7, q8, q9, qa, qb, reduceIte]
    refine WO.call (.bool ([c.1, c.2.1, c.2.2.1].all (within 1 1000000))) (ds := [some 3, some 4, some 5, some 6, some 7, some 8, some 9, some 10, some 11, some 12, some 13, some 14, some 15, some 16, some 2]) rfl rfl rfl rfl co28 (fun ρ w1 hb => within_spec (own_ints (xs := [c.1, c.2.1, c.2.2.1]) hb rfl rfl rfl (by simp)) _ _) ?_
    refine WO.go 1 (ds := [some 3, some 4, some 5, some 6, some 7, some 8, some 9, some 10, some 11, some 12, some 13, some 14, some 15, some 16, some 2]) rfl ?_
    simp only [sx, ty, Bool.false_eq_true, q1, q2, q5, q6, q7, q8, q9, qa, qb, reduceIte]
    refine WO.cases 11 _ rfl (fun hg11 => ?_) (fun hg11 => ?_)
    · skip
      refine WO.go 3 (ds := [some 3, some 4, some 5, some 6, some 7, some 8, some 9, some 10, some 11, some 12, some 13, some 14, some 15, some 16, some 2]) rfl ?_
      simp only [sx, ty, Bool.false_eq_true, q1, q2, q5, q6, q7, q8, q9, qa, qb, reduceIte]
      refine WO.call (.bool ([c.2.2.2].all (within 0 99))) (ds := [some 3, some 4, some 5, some 6, some 7, some 8, some 9, some 10, some 11, some 12, some 13, some 14, some 15, some 16, some 2]) rfl rfl rfl rfl co28 (fun ρ w1 hb => within_spec (own_ints (xs := [c.2.2.2]) hb rfl rfl rfl (by simp)) _ _) ?_
      refine WO.go 2 (ds := [some 3, some 4, some 5, some 6, some 7, some 8, some 9, some 10, some 11, some 12, some 13, some 14, some 15, some 16, some 2]) rfl ?_
      simp only [sx, ty, Bool.false_eq_true, q1, q2, q5, q6, q7, q8, q9, qa, qb, reduceIte]
      with_reducible refine WO.nil ?_
      refine ⟨rfl, ?_, ⟨_, rfl⟩, by simp [Own.bnd, bndL, bnd, boxO], by simp⟩
      try rw [hg15]
      try rw [hg20]
      try rw [hg25]
      try rw [hg11]
      try rw [hg12]
      try rw [hg39]
      simp [getE, bnd, keepE]
    · skip
      refine WO.go 6 (ds := [some 3, some 4, some 5, some 6, some 7, some 8, some 9, some 10, some 11, some 12, some 13, some 14, some 15, some 16, some 2]) rfl ?_
      simp only [sx, ty, Bool.false_eq_true, q1, q2, q5, q6, q7, q8, q9, qa, qb, reduceIte]
      with_reducible refine WO.nil ?_
      refine ⟨rfl, ?_, ⟨_, rfl⟩, by simp [Own.bnd, bndL, bnd, boxO], by simp⟩
      try rw [hg15]
      try rw [hg20]
      try rw [hg25]
      try rw [hg11]
      try rw [hg12]
      try rw [hg39]
      simp [getE, bnd, keepE]
  · simp only [sx, ty, Bool.false_eq_true, q1, q2, q5, q6, q7, q8, q9, qa, qb, reduceIte, sxk]
    refine W.ret ⟨by simp, _, rfl, fun ρ w1 hb => ?_⟩
    simp [den, validC, Bool.and_assoc]
/-- function 27 -/
theorem valid_spec {S S2 : Nat → Prop} {w : World} {v u : Value} {ds : List Dem} {cs : List Cop} (hl : rDems.rd S w [v] ds) (hl2 : rCops.rd S2 w [u] cs) : Gives Tryz.prog 27 #[v, u] w fun r _ => r = .bool (valid ds cs) := by
  obtain ⟨p, c, rfl, hc1, hc2⟩ := Rp.slice_val hl
  obtain ⟨p2, c2, rfl, hc3, hc4⟩ := Rp.slice_val hl2
  have hl : (Rp.slice rDem).rd (fun _ => True) w _ ds := Rp.any hl
  have hl2 : (Rp.slice rCop).rd (fun _ => True) w _ cs := Rp.any hl2
  refine gives_of [.val (.slice p ds.length c), .val (.slice p2 cs.length c2)] 43 [.tmp 4] Tryz.func27 rfl rfl rfl (by simp) rfl rfl ?_
  refine W.pure (ds := []) rfl fun K1 hK1 => ?_
  simp only [sx, ty, Bool.false_eq_true, q1, q2, q5, q6, q7, q8, q9, qa, qb, reduceIte]; with_reducible refine hK1 _ ?_; clear hK1
  refine W.seqK fun K2 hK2 => ?_
  refine W.join 16 (.val (.bool (decide (200 < (ds.length : Int)) || decide (200 < (cs.length : Int))))) [0, 1] (W.region ?_) ?_
  · skip
    refine WO.go 4 (ds := [some 9, some 10, some 11, some 12, some 13, some 14, some 15, some 16]) rfl ?_
    simp only [sx, ty, Bool.false_eq_true, q1, q2, q5, q6, q7, q8, q9, qa, qb, reduceIte]
    refine WO.cases 12 _ rfl (fun hg12 => ?_) (fun hg12 => ?_)
    · skip
      refine WO.go 4 (ds := [some 9, some 10, some 11, some 12, some 13, some 14, some 15, some 16]) rfl ?_
      simp only [sx, ty, Bool.false_eq_true, q1, q2, q5, q6, q7, q8, q9, qa, qb, reduceIte]
      with_reducible refine WO.nil ?_
      refine ⟨rfl, ?_, ⟨_, rfl⟩, by simp [Own.bnd, bndL, bnd, boxO], by simp⟩
      try rw [hg15]
      try rw [hg20]
      try rw [hg25]
      try rw [hg11]
      try rw [hg12]
      try rw [hg39]
      simp [getE, bnd, keepE]
    · skip
      refine WO.go 4 (ds := [some 9, some 10, some 11, some 12, some 13, some 14, some 15, some 16]) rfl ?_
      simp only [sx, ty, Bool.false_eq_true, q1, q2, q5, q6, q7, q8, q9, qa, qb, reduceIte]
      with_reducible refine WO.nil ?_
      refine ⟨rfl, ?_, ⟨_, rfl⟩, by simp [Own.bnd, bndL, bnd, boxO], by simp⟩
      try rw [hg15]
      try rw [hg20]
      try rw [hg25]
      try rw [hg11]
      try rw [hg12]
      try rw [hg39]
      simp [getE, bnd, keepE]
  · simp only [sx, ty, Bool.false_eq_true, q1, q2, q5, q6, q7, q8, q9, qa, qb, reduceIte, sxk]
    refine W.cond rfl rfl (fun hc => ?_) (fun hc => ?_)
    · skip
      refine W.pure (ds := []) rfl fun K4 hK4 => ?_
      simp only [sx, ty, Bool.false_eq_true, q1, q2, q5, q6, q7, q8, q9, qa, qb, reduceIte]; with_reducible refine hK4 _ ?_; clear hK4
      refine W.ret ⟨by simp, _, rfl, fun ρ w1 hb => ?_⟩
      simp only [den, Value.bool.injEq]
      simp only [Bool.or_eq_true, decide_eq_true_eq] at hc
      rw [eq_comm]
      unfold valid validDs validCs
      rcases hc with h | h
      · have : decide (ds.length ≤ 200) = false := by simp; omega
        simp [this]
      · have : decide (cs.length ≤ 200) = false := by simp; omega
        simp [this]
    · skip
      have hcc := hc
      refine W.skip (hK2 _ ?_)
      refine W.seqK fun K5 hK5 => ?_
      refine W.pure (ds := []) rfl fun K6 hK6 => ?_
      simp only [sx, ty, Bool.false_eq_true, q1, q2, q5, q6, q7, q8, q9, qa, qb, reduceIte]; with_reducible refine hK6 _ ?_; clear hK6
      refine W.block ?_
      refine W.loopK (X := Nat) [0, 1, 17, 18] (fun x => [(19, .val (.int .i64 x))]) (fun x => x ≤ ds.length ∧ (ds.take x).all validD = true) (fun x => ds.length - x) 0 ?_ ?_ ?_
      · exact ⟨rfl, by simp [getE, bnd, keepE], ⟨[], by simp⟩, by simp [Own.bnd, bndL, bnd, boxO], by simp⟩
      · skip
        simp
      · rintro i ⟨hi, hno⟩
        simp only [sx, ty, Bool.false_eq_true, q1, q2, q5, q6, q7, q8, q9, qa, qb, reduceIte, sxk]
        refine W.pure (ds := []) rfl fun K7 hK7 => ?_
        simp only [sx, ty, Bool.false_eq_true, q1, q2, q5, q6, q7, q8, q9, qa, qb, reduceIte]; with_reducible refine hK7 _ ?_; clear hK7
        refine W.seqK fun K8 hK8 => ?_
        refine W.cond rfl rfl (fun hc => ?_) (fun hc => ?_)
        · skip
          have hlt : i < ds.length := by simpa using hc
          refine W.skip (hK8 _ ?_)
          refine W.seqK fun K9 hK9 => ?_
          refine W.block ?_
          refine W.seqK fun K10 hK10 => W.region ?_
          refine WO.elem (y := ds[i]) hl (by simp [St.put]) (ds := []) rfl rfl rfl (by simp [St.put]) (fun _ => rfl) rfl rfl rfl rfl rfl el22 agg41 sz41 (.inl rfl) (by omega) (getIdx ds hlt) fun p ces hces => ?_
          obtain ⟨p3, c3, rfl, hed, hel⟩ := rDem_open hces
          refine WO.go 2 (ds := []) rfl ?_
          simp only [sx, ty, Bool.false_eq_true, q1, q2, q5, q6, q7, q8, q9, qa, qb, reduceIte]
          with_reducible refine WO.nil ?_
          refine hK10 _ ?_; clear hK10
          refine W.seqK fun K11 hK11 => W.region ?_
          refine WO.go 1 (ds := []) rfl ?_
          simp only [sx, ty, Bool.false_eq_true, q1, q2, q5, q6, q7, q8, q9, qa, qb, reduceIte]
          refine WO.call (.bool (validD ds[i])) (ds := []) rfl rfl rfl rfl co48 (fun ρ w1 hb => by have := isDemand_spec (Rp.now hces (hb.first (by simp [St.put]))); simpa [denL_eq, den, Function.comp_def] using this) ?_
          refine WO.go 1 (ds := []) rfl ?_
          simp only [sx, ty, Bool.false_eq_true, q1, q2, q5, q6, q7, q8, q9, qa, qb, reduceIte]
          with_reducible refine WO.nil ?_
          refine hK11 _ ?_; clear hK11
          refine W.cond rfl rfl (fun hc => ?_) (fun hc => ?_)
          · skip
            refine W.pure (ds := []) rfl fun K12 hK12 => ?_
            simp only [sx, ty, Bool.false_eq_true, q1, q2, q5, q6, q7, q8, q9, qa, qb, reduceIte]; with_reducible refine hK12 _ ?_; clear hK12
            refine W.ret ⟨by simp, _, rfl, fun ρ w1 hb => ?_⟩
            have hx : ds.all validD = false := by
              rw [List.all_eq_false]
              exact ⟨ds[i], List.getElem_mem hlt, by simpa using hc⟩
            simp [den, valid, validDs, hx]
          · skip
            refine W.skip (hK9 _ ?_)
            refine W.region ?_
            refine WO.go 2 (ds := []) rfl ?_
            simp only [sx, ty, Bool.false_eq_true, q1, q2, q5, q6, q7, q8, q9, qa, qb, reduceIte]
            with_reducible refine WO.nil ?_
            refine ⟨i + 1, ?_, by first | omega | (simp; omega), rfl, by simp [getE, bnd, keepE, wrap_succ (show i + 1 ≤ 9223372036854775807 by omega)], ⟨_, rfl⟩, by simp [Own.bnd, bndL, bnd, boxO], by simp⟩
            refine ⟨hlt, ?_⟩
            rw [List.take_succ_eq_append_getElem hlt, List.all_append, hno]
            simpa using hc
        · skip
          have hA : ds.all validD = true := by rw [← hno, List.take_of_length_le (by simpa using hc)]
          refine W.exit (hK5 _ ?_)
          refine W.seqK fun K13 hK13 => ?_
          refine W.pure (ds := []) rfl fun K14 hK14 => ?_
          simp only [sx, ty, Bool.false_eq_true, q1, q2, q5, q6, q7, q8, q9, qa, qb, reduceIte]; with_reducible refine hK14 _ ?_; clear hK14
          refine W.block ?_
          refine W.loopK (X := Nat) [0, 1, 27, 28] (fun x => [(29, .val (.int .i64 x))]) (fun x => x ≤ cs.length ∧ (cs.take x).all validC = true) (fun x => cs.length - x) 0 ?_ ?_ ?_
          · exact ⟨rfl, by simp [getE, bnd, keepE], ⟨[], by simp⟩, by simp [Own.bnd, bndL, bnd, boxO], by simp⟩
          · skip
            simp
          · rintro i ⟨hi, hno⟩
            simp only [sx, ty, Bool.false_eq_true, q1, q2, q5, q6, q7, q8, q9, qa, qb, reduceIte, sxk]
            refine W.pure (ds := []) rfl fun K15 hK15 => ?_
            simp only [sx, ty, Bool.false_eq_true, q1, q2, q5, q6, q7, q8, q9, qa, qb, reduceIte]; with_reducible refine hK15 _ ?_; clear hK15
            refine W.seqK fun K16 hK16 => ?_
            refine W.cond rfl rfl (fun hc => ?_) (fun hc => ?_)
            · skip
              have hlt : i < cs.length := by simpa using hc
              refine W.skip (hK16 _ ?_)
              refine W.seqK fun K17 hK17 => ?_
              refine W.block ?_
              refine W.seqK fun K18 hK18 => W.region ?_
              refine WO.elem (y := cs[i]) hl2 (by simp [St.put]) (ds := []) rfl rfl rfl (by simp [St.put]) (fun _ => rfl) rfl rfl rfl rfl rfl el23 agg45 sz45 (.inl rfl) (by omega) (getIdx cs hlt) fun p ces hces => ?_
              obtain rfl := rCop_open hces
              refine WO.go 2 (ds := []) rfl ?_
              simp only [sx, ty, Bool.false_eq_true, q1, q2, q5, q6, q7, q8, q9, qa, qb, reduceIte]
              with_reducible refine WO.nil ?_
              refine hK18 _ ?_; clear hK18
              refine W.seqK fun K19 hK19 => W.region ?_
              refine WO.go 1 (ds := []) rfl ?_
              simp only [sx, ty, Bool.false_eq_true, q1, q2, q5, q6, q7, q8, q9, qa, qb, reduceIte]
              refine WO.call (.bool (validC cs[i])) (ds := []) rfl rfl rfl rfl co49 (fun ρ w1 hb => by have := isCopy_spec (Rp.now hces (hb.first (by simp [St.put]))); simpa [denL_eq, den, Function.comp_def] using this) ?_
              refine WO.go 1 (ds := []) rfl ?_
              simp only [sx, ty, Bool.false_eq_true, q1, q2, q5, q6, q7, q8, q9, qa, qb, reduceIte]
              with_reducible refine WO.nil ?_
              refine hK19 _ ?_; clear hK19
              refine W.cond rfl rfl (fun hc => ?_) (fun hc => ?_)
              · skip
                refine W.pure (ds := []) rfl fun K20 hK20 => ?_
                simp only [sx, ty, Bool.false_eq_true, q1, q2, q5, q6, q7, q8, q9, qa, qb, reduceIte]; with_reducible refine hK20 _ ?_; clear hK20
                refine W.ret ⟨by simp, _, rfl, fun ρ w1 hb => ?_⟩
                have hx : cs.all validC = false := by
                  rw [List.all_eq_false]
                  exact ⟨cs[i], List.getElem_mem hlt, by simpa using hc⟩
                simp [den, valid, validCs, hx]
              · skip
                refine W.skip (hK17 _ ?_)
                refine W.region ?_
                refine WO.go 2 (ds := []) rfl ?_
                simp only [sx, ty, Bool.false_eq_true, q1, q2, q5, q6, q7, q8, q9, qa, qb, reduceIte]
                with_reducible refine WO.nil ?_
                refine ⟨i + 1, ?_, by first | omega | (simp; omega), rfl, by simp [getE, bnd, keepE, wrap_succ (show i + 1 ≤ 9223372036854775807 by omega)], ⟨_, rfl⟩, by simp [Own.bnd, bndL, bnd, boxO], by simp⟩
                refine ⟨hlt, ?_⟩
                rw [List.take_succ_eq_append_getElem hlt, List.all_append, hno]
                simpa using hc
            · skip
              have hB : cs.all validC = true := by rw [← hno, List.take_of_length_le (by simpa using hc)]
              refine W.exit (hK13 _ ?_)
              refine W.join 4 (.val (.bool (decide (ds.map fun d : Dem => d.1).Nodup && decide (cs.map fun d : Cop => d.1).Nodup))) [] (W.region ?_) ?_
              · skip
                refine WO.go 1 (ds := [some 37, some 38, some 39, some 40, some 41, some 42, some 4]) rfl ?_
                simp only [sx, ty, Bool.false_eq_true, q1, q2, q5, q6, q7, q8, q9, qa, qb, reduceIte]
                refine WO.call (.bool (decide (ds.map fun d : Dem => d.1).Nodup)) (ds := [some 37, some 38, some 39, some 40, some 41, some 42, some 4]) rfl rfl rfl rfl co50 (fun ρ w1 hb => diffDem_spec (Rp.now hl (hb.first (by simp))) (fun d : Dem => d.1) 51 co51 fun w2 hk x _ ces hces => key26 (Rp.now hces hk)) ?_
                refine WO.go 1 (ds := [some 37, some 38, some 39, some 40, some 41, some 42, some 4]) rfl ?_
                simp only [sx, ty, Bool.false_eq_true, q1, q2, q5, q6, q7, q8, q9, qa, qb, reduceIte]
                refine WO.cases 39 _ rfl (fun hg39 => ?_) (fun hg39 => ?_)
                · skip
                  refine WO.go 1 (ds := [some 37, some 38, some 39, some 40, some 41, some 42, some 4]) rfl ?_
                  simp only [sx, ty, Bool.false_eq_true, q1, q2, q5, q6, q7, q8, q9, qa, qb, reduceIte]
                  refine WO.call (.bool (decide (cs.map fun d : Cop => d.1).Nodup)) (ds := [some 37, some 38, some 39, some 40, some 41, some 42, some 4]) rfl rfl rfl rfl co52 (fun ρ w1 hb => diffCop_spec (Rp.now hl2 (hb.first (by simp))) (fun d : Cop => d.1) 53 co53 fun w2 hk x _ ces hces => key28 (Rp.now hces hk)) ?_
                  refine WO.go 2 (ds := [some 37, some 38, some 39, some 40, some 41, some 42, some 4]) rfl ?_
                  simp only [sx, ty, Bool.false_eq_true, q1, q2, q5, q6, q7, q8, q9, qa, qb, reduceIte]
                  with_reducible refine WO.nil ?_
                  refine ⟨rfl, ?_, ⟨_, rfl⟩, by simp [Own.bnd, bndL, bnd, boxO], by simp⟩
                  try rw [hg15]
                  try rw [hg20]
                  try rw [hg25]
                  try rw [hg11]
                  try rw [hg12]
                  try rw [hg39]
                  simp [getE, bnd, keepE]
                · skip
                  refine WO.go 4 (ds := [some 37, some 38, some 39, some 40, some 41, some 42, some 4]) rfl ?_
                  simp only [sx, ty, Bool.false_eq_true, q1, q2, q5, q6, q7, q8, q9, qa, qb, reduceIte]
                  with_reducible refine WO.nil ?_
                  refine ⟨rfl, ?_, ⟨_, rfl⟩, by simp [Own.bnd, bndL, bnd, boxO], by simp⟩
                  try rw [hg15]
                  try rw [hg20]
                  try rw [hg25]
                  try rw [hg11]
                  try rw [hg12]
                  try rw [hg39]
                  simp [getE, bnd, keepE]
              · simp only [sx, ty, Bool.false_eq_true, q1, q2, q5, q6, q7, q8, q9, qa, qb, reduceIte, sxk]
                refine W.ret ⟨by simp, _, rfl, fun ρ w1 hb => ?_⟩
                simp only [Bool.or_eq_false_iff, decide_eq_false_iff_not] at hcc
                obtain ⟨h1, h2⟩ := hcc
                have h1 : decide (ds.length ≤ 200) = true := by simp; omega
                have h2 : decide (cs.length ≤ 200) = true := by simp; omega
                simp only [den, valid, validDs, validCs, hA, hB, h1, h2, Bool.true_and]
theorem idxOf_le (l : List Int) (x : Int) (h : l.length ≤ 9223372036854775807) : -1 ≤ idxOf l x ∧ idxOf l x ≤ 9223372036854775806 := by
  unfold idxOf
  rcases findI_bound (fun y => x == y) l with h1 | ⟨_, h1⟩ <;> omega
theorem idxOf_small (l : List Int) (x : Int) (n : Nat) (h : l.length ≤ n) : idxOf l x < n ∨ idxOf l x = -1 := by
  unfold idxOf
  rcases findI_bound (fun y => x == y) l with h1 | ⟨_, h1⟩ <;> omega
/-- function 29 -/
theorem cost_spec {S S2 : Nat → Prop} {w : World} {ces cec : List Value} {d : Dem} {c : Cop} (hd : rDem.rd S w ces d) (hc : rCop.rd S2 w cec c) (hall : Int) (hle : d.2.2.2.length ≤ 1000) : Gives Tryz.prog 29 #[.agg ces.toArray, .agg cec.toArray, .int .i64 hall] w fun r _ => r = .int .i64 (costF d c hall) := by
  obtain ⟨p, cp, rfl, hel, hlen⟩ := rDem_open hd
  obtain rfl := rCop_open hc
  have hib := idxOf_small d.2.2.2 c.2.2.1 1000 (by omega)
  have hib0 := (idxOf_le d.2.2.2 c.2.2.1 hlen).1
  refine gives_of [.agg [.val (.int .i64 d.1), .val (.int .i64 d.2.1), .val (.int .i64 d.2.2.1), .val (.slice p d.2.2.2.length cp)], .agg [.val (.int .i64 c.1), .val (.int .i64 c.2.1), .val (.int .i64 c.2.2.1), .val (.int .i64 c.2.2.2)], .val (.int .i64 hall)] 31 [.tmp 6] Tryz.func29 rfl rfl rfl (by simp) rfl rfl ?_
  refine W.pure (ds := []) rfl fun K1 hK1 => ?_
  simp only [sx, ty, Bool.false_eq_true, q1, q2, q5, q6, q7, q8, q9, qa, qb, reduceIte]; with_reducible refine hK1 _ ?_; clear hK1
  refine W.seqK fun K2 hK2 => W.region ?_
  refine WO.go 4 (ds := []) rfl ?_
  simp only [sx, ty, Bool.false_eq_true, q1, q2, q5, q6, q7, q8, q9, qa, qb, reduceIte]
  refine WO.call (.int .i64 (idxOf d.2.2.2 c.2.2.1)) (ds := []) rfl rfl rfl rfl co56 (fun ρ w1 hb => index_spec (Rp.now hel (hb.first (by simp))) _) ?_
  refine WO.go 1 (ds := []) rfl ?_
  simp only [sx, ty, Bool.false_eq_true, q1, q2, q5, q6, q7, q8, q9, qa, qb, reduceIte]
  with_reducible refine WO.nil ?_
  refine hK2 _ ?_; clear hK2
  refine W.seqK fun K3 hK3 => ?_
  refine W.join 21 (.val (.bool ((d.2.1 != c.2.1) || decide (idxOf d.2.2.2 c.2.2.1 < 0)))) [2, 4, 7] (W.region ?_) ?_
  · skip
    refine WO.go 6 (ds := [some 13, some 14, some 15, some 16, some 17, some 18, some 19, some 20, some 21]) rfl ?_
    simp only [sx, ty, Bool.false_eq_true, q1, q2, q5, q6, q7, q8, q9, qa, qb, reduceIte]
    refine WO.cases 18 _ rfl (fun hg18 => ?_) (fun hg18 => ?_)
    · skip
      refine WO.go 3 (ds := [some 13, some 14, some 15, some 16, some 17, some 18, some 19, some 20, some 21]) rfl ?_
      simp only [sx, ty, Bool.false_eq_true, q1, q2, q5, q6, q7, q8, q9, qa, qb, reduceIte]
      with_reducible refine WO.nil ?_
      refine ⟨rfl, ?_, ⟨_, rfl⟩, by simp [Own.bnd, bndL, bnd, boxO], by simp⟩
      try rw [hg18]
      simp [getE, bnd, keepE]
    · skip
      refine WO.go 3 (ds := [some 13, some 14, some 15, some 16, some 17, some 18, some 19, some 20, some 21]) rfl ?_
      simp only [sx, ty, Bool.false_eq_true, q1, q2, q5, q6, q7, q8, q9, qa, qb, reduceIte]
      with_reducible refine WO.nil ?_
      refine ⟨rfl, ?_, ⟨_, rfl⟩, by simp [Own.bnd, bndL, bnd, boxO], by simp⟩
      try rw [hg18]
      simp [getE, bnd, keepE]
  · simp only [sx, ty, Bool.false_eq_true, q1, q2, q5, q6, q7, q8, q9, qa, qb, reduceIte, sxk]
    refine W.cond rfl rfl (fun hc => ?_) (fun hc => ?_)
    · skip
      have h1 : d.2.1 ≠ c.2.1 ∨ idxOf d.2.2.2 c.2.2.1 < 0 := by simpa using hc
      refine W.pure (ds := []) rfl fun K5 hK5 => ?_
      simp only [sx, ty, Bool.false_eq_true, q1, q2, q5, q6, q7, q8, q9, qa, qb, reduceIte]; with_reducible refine hK5 _ ?_; clear hK5
      refine W.ret ⟨by simp, _, rfl, fun ρ w1 hb => ?_⟩
      simp only [den, costF, if_pos h1]
    · skip
      have h1 : ¬ (d.2.1 ≠ c.2.1 ∨ idxOf d.2.2.2 c.2.2.1 < 0) := by simpa using hc
      refine W.skip (hK3 _ ?_)
      refine W.seqK fun K6 hK6 => ?_
      refine W.pure (ds := []) rfl fun K7 hK7 => ?_
      simp only [sx, ty, Bool.false_eq_true, q1, q2, q5, q6, q7, q8, q9, qa, qb, reduceIte]; with_reducible refine hK7 _ ?_; clear hK7
      refine W.cond rfl rfl (fun hc => ?_) (fun hc => ?_)
      · skip
        have h2 : c.2.2.2 = hall := by simpa using hc
        refine W.pure (ds := []) rfl fun K8 hK8 => ?_
        simp only [sx, ty, Bool.false_eq_true, q1, q2, q5, q6, q7, q8, q9, qa, qb, reduceIte]; with_reducible refine hK8 _ ?_; clear hK8
        refine W.ret ⟨by simp, _, rfl, fun ρ w1 hb => ?_⟩
        simp only [den, costF, if_neg h1, if_pos h2]
        rw [wrap_id (show -9223372036854775808 ≤ 10 * idxOf d.2.2.2 c.2.2.1 by omega) (by omega)]
      · skip
        have h2 : ¬ (c.2.2.2 = hall) := by simpa using hc
        refine W.skip (hK6 _ ?_)
        refine W.pure (ds := []) rfl fun K9 hK9 => ?_
        simp only [sx, ty, Bool.false_eq_true, q1, q2, q5, q6, q7, q8, q9, qa, qb, reduceIte]; with_reducible refine hK9 _ ?_; clear hK9
        refine W.ret ⟨by simp, _, rfl, fun ρ w1 hb => ?_⟩
        simp only [den, costF, if_neg h1, if_neg h2]
        rw [wrap_id (show -9223372036854775808 ≤ 10 * idxOf d.2.2.2 c.2.2.1 by omega) (by omega), wrap_id (by omega) (by omega)]
end Go.Proofs.YtolmeekbjonbcaaGreat
set_option linter.unusedVariables false
set_option linter.unusedSimpArgs false
set_option maxHeartbeats 400000
namespace Go.Proofs.YtolmeekbjonbcaaGreat
open Int renaming reduceEq → q1, reduceLT → q2, reduceBEq → q3, reduceBNe → q4
open Nat renaming reduceAdd → q5, reduceSub → q6, reduceMul → q7, reduceLT → q8, reduceLeDiff → q9, reduceEqDiff → qa
open List renaming reduceReplicate → qb
open Go Go.SX Go.RowKit
/-- what Costs returns: the costs, and whether its arguments are right -/
def costsR (ds : List Dem) (cs : List Cop) (hall : Int) : List (List Int) × Int := if (valid ds cs && within 0 99 hall) = true then (costsF ds cs hall, 0) else ([], 1)
theorem costsR_bad {ds : List Dem} {cs : List Cop} {hall : Int} (h : (valid ds cs && within 0 99 hall) = false) : costsR ds cs hall = ([], 1) := by unfold costsR; rw [h]; rfl
theorem costsR_good {ds : List Dem} {cs : List Cop} {hall : Int} (h : (valid ds cs && within 0 99 hall) = true) : costsR ds cs hall = (costsF ds cs hall, 0) := by unfold costsR; rw [h]; rfl
theorem valid_lens {ds : List Dem} {cs : List Cop} (h : valid ds cs = true) : ds.length ≤ 200 ∧ cs.length ≤ 200 ∧ ∀ d, d ∈ ds → d.2.2.2.length ≤ 12 := by
  simp only [valid, validDs, validCs, Bool.and_eq_true, decide_eq_true_eq] at h
  refine ⟨h.1.1.1, h.2.1.1, fun d hd => ?_⟩
  have := List.all_eq_true.1 h.1.1.2 d hd
  simp only [validD, within, Bool.and_eq_true, decide_eq_true_eq] at this
  omega
/-- the rows that are there after i rounds -/
def RowsAt (S : Nat → Prop) (s : World) (ds : List Dem) (cs : List Cop) (hall : Int) (xs : List Value) : Prop :=
  ∀ (j : Nat) x, xs[j]? = some x → ∃ d, ds[j]? = some d ∧ rInts.rd S s [x] (cs.map fun c => costF d c hall)
set_option maxHeartbeats 1000000 in
/-- function 13 -/
theorem costs_spec {S S2 : Nat → Prop} {w : World} {v u : Value} {ds : List Dem} {cs : List Cop} (hl : rDems.rd S w [v] ds) (hl2 : rCops.rd S2 w [u] cs) (hall : Int) : Gives Tryz.prog 13 #[v, u, .int .i64 hall] w fun r w' =>
    ∃ p c, r = .tuple #[.slice p (costsR ds cs hall).1.length c, .int .i64 (costsR ds cs hall).2] ∧ rRows.rd (fun b => w.heap.size ≤ b) w' [.slice p (costsR ds cs hall).1.length c] (costsR ds cs hall).1 := by
  obtain ⟨p, c, rfl, hc1, hc2⟩ := Rp.slice_val hl
  obtain ⟨p2, c2, rfl, hc3, hc4⟩ := Rp.slice_val hl2
  have hl : (Rp.slice rDem).rd (fun _ => True) w _ ds := Rp.any hl
  have hl2 : (Rp.slice rCop).rd (fun _ => True) w _ cs := Rp.any hl2
  refine gives_of [.val (.slice p ds.length c), .val (.slice p2 cs.length c2), .val (.int .i64 hall)] 54 [.tmp 6, .tmp 7] Tryz.func13 rfl rfl rfl (by simp) rfl rfl ?_
  refine W.pure (ds := []) rfl fun K1 hK1 => ?_
  simp only [sx, ty, Bool.false_eq_true, q1, q2, q5, q6, q7, q8, q9, qa, qb, reduceIte]; with_reducible refine hK1 _ ?_; clear hK1
  refine W.seqK fun K2 hK2 => ?_
  refine W.join 23 (.val (.bool (!valid ds cs || ![hall].all (within 0 99)))) [0, 1, 2] (W.region ?_) ?_
  · skip
    refine WO.go 2 (ds := [some 14, some 15, some 16, some 17, some 18, some 19, some 20, some 21, some 22, some 23]) rfl ?_
    simp only [sx, ty, Bool.false_eq_true, q1, q2, q5, q6, q7, q8, q9, qa, qb, reduceIte]
    refine WO.call (.bool (valid ds cs)) (ds := [some 14, some 15, some 16, some 17, some 18, some 19, some 20, some 21, some 22, some 23]) rfl rfl rfl rfl co27 (fun ρ w1 hb => valid_spec (Rp.now hl (hb.first (by simp))) (Rp.now hl2 (hb.first (by simp)))) ?_
    refine WO.go 2 (ds := [some 14, some 15, some 16, some 17, some 18, some 19, some 20, some 21, some 22, some 23]) rfl ?_
    simp only [sx, ty, Bool.false_eq_true, q1, q2, q5, q6, q7, q8, q9, qa, qb, reduceIte]
    refine WO.cases 18 _ rfl (fun hg18 => ?_) (fun hg18 => ?_)
    · skip
      refine WO.go 5 (ds := [some 14, some 15, some 16, some 17, some 18, some 19, some 20, some 21, some 22, some 23]) rfl ?_
      simp only [sx, ty, Bool.false_eq_true, q1, q2, q5, q6, q7, q8, q9, qa, qb, reduceIte]
      with_reducible refine WO.nil ?_
      refine ⟨rfl, ?_, ⟨_, rfl⟩, by simp [Own.bnd, bndL, bnd, boxO], by simp⟩
      try rw [hg18]
      simp [getE, bnd, keepE]
    · skip
      refine WO.go 2 (ds := [some 14, some 15, some 16, some 17, some 18, some 19, some 20, some 21, some 22, some 23]) rfl ?_
      simp only [sx, ty, Bool.false_eq_true, q1, q2, q5, q6, q7, q8, q9, qa, qb, reduceIte]
      refine WO.call (.bool ([hall].all (within 0 99))) (ds := [some 14, some 15, some 16, some 17, some 18, some 19, some 20, some 21, some 22, some 23]) rfl rfl rfl rfl co28 (fun ρ w1 hb => within_spec (own_ints (xs := [hall]) hb rfl rfl rfl (by simp)) _ _) ?_
      refine WO.go 2 (ds := [some 14, some 15, some 16, some 17, some 18, some 19, some 20, some 21, some 22, some 23]) rfl ?_
      simp only [sx, ty, Bool.false_eq_true, q1, q2, q5, q6, q7, q8, q9, qa, qb, reduceIte]
      with_reducible refine WO.nil ?_
      refine ⟨rfl, ?_, ⟨_, rfl⟩, by simp [Own.bnd, bndL, bnd, boxO], by simp⟩
      try rw [hg18]
      simp [getE, bnd, keepE]
  · simp only [sx, ty, Bool.false_eq_true, q1, q2, q5, q6, q7, q8, q9, qa, qb, reduceIte, sxk]
    refine W.cond rfl rfl (fun hc => ?_) (fun hc => ?_)
    · skip
      have hbad : (valid ds cs && within 0 99 hall) = false := by simpa [← Bool.not_and] using hc
      refine W.pure (ds := []) rfl fun K4 hK4 => ?_
      simp only [sx, ty, Bool.false_eq_true, q1, q2, q5, q6, q7, q8, q9, qa, qb, reduceIte]; with_reducible refine hK4 _ ?_; clear hK4
      refine W.ret ⟨by simp, _, rfl, fun ρ w1 hb => ?_⟩
      rw [costsR_bad hbad]
      exact ⟨none, 0, rfl, Rp.slice_nil (by omega)⟩
    · skip
      have hgood : (valid ds cs && within 0 99 hall) = true := by simpa using hc
      have hv : valid ds cs = true := by simp only [Bool.and_eq_true] at hgood; exact hgood.1
      obtain ⟨hds, hcs, heds⟩ := valid_lens hv
      refine W.skip (hK2 _ ?_)
      refine W.pure (ds := []) rfl fun K5 hK5 => ?_
      simp only [sx, ty, Bool.false_eq_true, q1, q2, q5, q6, q7, q8, q9, qa, qb, reduceIte]; with_reducible refine hK5 _ ?_; clear hK5
      refine W.seqK fun K6 hK6 => ?_
      refine W.pure (ds := []) rfl fun K7 hK7 => ?_
      simp only [sx, ty, Bool.false_eq_true, q1, q2, q5, q6, q7, q8, q9, qa, qb, reduceIte]; with_reducible refine hK7 _ ?_; clear hK7
      refine W.block ?_
      refine W.ownNil 27 1 ?_
      refine W.snapE (S := fun _ => True) (s := w) (fun _ => False) (by simp [St.pushO]) (fun _ h => h.elim) ?_
      simp only [sx, ty, Bool.false_eq_true, q1, q2, q5, q6, q7, q8, q9, qa, qb, reduceIte]
      refine W.loopO (X := Nat × Option Addr × Nat × List Value × (Nat → Prop) × World) [1, 2, 24, 25] (fun x => [(8, .val (.slice x.2.1 x.1 x.2.2.1)), (26, .val (.int .i64 x.1))]) (fun x => [.slice 27 1 (.slice x.2.1 x.1 x.2.2.1) x.1 x.2.2.2.1]) (fun x => [(x.2.2.2.2.1, x.2.2.2.2.2), ((fun _ => True), w)]) (fun x => x.1 ≤ ds.length ∧ x.2.2.2.1.length = x.1 ∧ RowsAt x.2.2.2.2.1 x.2.2.2.2.2 ds cs hall x.2.2.2.1 ∧ (∀ b, x.2.2.2.2.1 b → w.heap.size ≤ b)) (fun x => ds.length - x.1) (0, none, 0, [], (fun _ => False), w) ?_ ?_ ?_
      · exact ⟨rfl, by simp [getE, bnd, keepE], ⟨[], by simp⟩, by simp [Own.bnd, bndL, bnd, boxO], by simp⟩
      · skip
        exact ⟨Nat.zero_le _, rfl, fun j x h => by simp at h, fun b h => h.elim⟩
      · rintro ⟨i, p3, c3, xs, S4, s4⟩ ⟨hi, hxl, hrows, hnew⟩
        simp only at hi hxl hrows hnew
        simp only [sx, ty, Bool.false_eq_true, q1, q2, q5, q6, q7, q8, q9, qa, qb, reduceIte, sxk]
        refine W.pure (ds := []) rfl fun K8 hK8 => ?_
        simp only [sx, ty, Bool.false_eq_true, q1, q2, q5, q6, q7, q8, q9, qa, qb, reduceIte]; with_reducible refine hK8 _ ?_; clear hK8
        refine W.seqK fun K9 hK9 => ?_
        refine W.cond rfl rfl (fun hc => ?_) (fun hc => ?_)
        · skip
          have hlt : i < ds.length := by simpa using hc
          have hle5 := heds _ (List.getElem_mem hlt)
          refine W.skip (hK9 _ ?_)
          refine W.seqK fun K10 hK10 => ?_
          refine W.block ?_
          refine W.seqK fun K11 hK11 => W.region ?_
          refine WO.elem (y := ds[i]) hl (by simp [St.put]) (ds := []) rfl rfl rfl (by simp [St.put]) (fun _ => rfl) rfl rfl rfl rfl rfl el22 agg41 sz41 (.inl rfl) (by omega) (getIdx ds hlt) fun p ces hces => ?_
          obtain ⟨p5, c5, rfl, hed, hel⟩ := rDem_open hces
          have hd5 := hces
          clear hces
          refine WO.go 2 (ds := []) rfl ?_
          simp only [sx, ty, Bool.false_eq_true, q1, q2, q5, q6, q7, q8, q9, qa, qb, reduceIte]
          with_reducible refine WO.nil ?_
          refine hK11 _ ?_; clear hK11
          refine W.seqK fun K12 hK12 => W.region ?_
          refine WO.go 2 (ds := []) rfl ?_
          simp only [sx, ty, Bool.false_eq_true, q1, q2, q5, q6, q7, q8, q9, qa, qb, reduceIte]
          refine WO.make (ds := []) rfl rfl rfl rfl rfl rfl ek27 (Nat.le_refl _) (by rw [maxLen_eq]; omega) (by omega) fun b => ?_
          rw [fillL_zero (fun j => Value.int .i64 (costF ds[i] (cs[j]?.getD default) hall))]
          refine WO.go 1 (ds := []) rfl ?_
          simp only [sx, ty, Bool.false_eq_true, q1, q2, q5, q6, q7, q8, q9, qa, qb, reduceIte]
          with_reducible refine WO.nil ?_
          refine hK12 _ ?_; clear hK12
          refine W.seqK fun K13 hK13 => ?_
          refine W.pure (ds := []) rfl fun K14 hK14 => ?_
          simp only [sx, ty, Bool.false_eq_true, q1, q2, q5, q6, q7, q8, q9, qa, qb, reduceIte]; with_reducible refine hK14 _ ?_; clear hK14
          refine W.block ?_
          refine W.loopO (X := Nat) [1, 2, 8, 10, 11, 24, 25, 26, 33, 34] (fun x => [(35, .val (.int .i64 x))]) (fun x => [.slice 27 1 (.slice p3 i c3) i xs, .cells 41 [.val (.int .i64 ds[i].1), .val (.int .i64 ds[i].2.1), .val (.int .i64 ds[i].2.2.1), .val (.slice p5 ds[i].2.2.2.length c5)], .slice 3 1 (.slice (some ⟨b, 0, none⟩) cs.length cs.length) cs.length (fillL (fun j => Value.int .i64 (costF ds[i] (cs[j]?.getD default) hall)) (.int .i64 0) cs.length x)]) (fun x => [(S4, s4), ((fun _ => True), w)]) (fun x => x ≤ cs.length) (fun x => cs.length - x) 0 ?_ ?_ ?_
          · exact ⟨rfl, by simp [getE, bnd, keepE], ⟨[], by simp⟩, by simp [Own.bnd, bndL, bnd, boxO], by simp⟩
          · skip
            exact Nat.zero_le _
          · rintro k hkl
            simp only [sx, ty, Bool.false_eq_true, q1, q2, q5, q6, q7, q8, q9, qa, qb, reduceIte, sxk]
            refine W.pure (ds := []) rfl fun K15 hK15 => ?_
            simp only [sx, ty, Bool.false_eq_true, q1, q2, q5, q6, q7, q8, q9, qa, qb, reduceIte]; with_reducible refine hK15 _ ?_; clear hK15
            refine W.seqK fun K16 hK16 => ?_
            refine W.cond rfl rfl (fun hc => ?_) (fun hc => ?_)
            · skip
              have hk : k < cs.length := by simpa using hc
              refine W.skip (hK16 _ ?_)
              refine W.seqK fun K17 hK17 => ?_
              refine W.block ?_
              refine W.seqK fun K18 hK18 => W.region ?_
              refine WO.go 1 (ds := []) rfl ?_
              simp only [sx, ty, Bool.false_eq_true, q1, q2, q5, q6, q7, q8, q9, qa, qb, reduceIte]
              refine WO.elem (y := cs[k]) hl2 (by simp [St.put]) (ds := []) rfl rfl rfl (by simp [St.put]) (fun _ => rfl) rfl rfl rfl rfl rfl el23 agg45 sz45 (.inl rfl) (by omega) (getIdx cs hk) fun p ces hces => ?_
              obtain rfl := rCop_open hces
              refine WO.go 3 (ds := []) rfl ?_
              simp only [sx, ty, Bool.false_eq_true, q1, q2, q5, q6, q7, q8, q9, qa, qb, reduceIte]
              with_reducible refine WO.nil ?_
              refine hK18 _ ?_; clear hK18
              refine W.region ?_
              refine WO.go 5 (ds := []) rfl ?_
              simp only [sx, ty, Bool.false_eq_true, q1, q2, q5, q6, q7, q8, q9, qa, qb, reduceIte]
              refine WO.call (.int .i64 (costF ds[i] cs[k] hall)) (ds := []) rfl rfl rfl rfl co29 (fun ρ w1 hb => by have := cost_spec (Rp.now hd5 (hb.first (by simp))) (Rp.now hces (hb.first (by simp))) hall (by omega); simpa [denL_eq, den, Function.comp_def] using this) ?_
              simp only [sx, ty, Bool.false_eq_true, q1, q2, q5, q6, q7, q8, q9, qa, qb, reduceIte]
              refine WO.index (ds := []) rfl rfl rfl rfl rfl rfl el27 (by omega) (by omega) ?_
              simp only [sx, ty, Bool.false_eq_true, q1, q2, q5, q6, q7, q8, q9, qa, qb, reduceIte]
              refine WO.storeOwn (k := 2) (i := k) (ds := []) rfl rfl rfl rfl rfl rfl rfl hk rfl rfl sz3 ?_
              rw [show (fillL (fun j => Value.int .i64 (costF ds[i] (cs[j]?.getD default) hall)) (.int .i64 0) cs.length k).set k (.int .i64 (costF ds[i] cs[k] hall)) = fillL (fun j => Value.int .i64 (costF ds[i] (cs[j]?.getD default) hall)) (.int .i64 0) cs.length (k + 1) by rw [← fillL_set]; simp only [getIdx cs hk, Option.getD_some]]
              simp only [sx, ty, Bool.false_eq_true, q1, q2, q5, q6, q7, q8, q9, qa, qb, reduceIte]
              with_reducible refine WO.nil ?_
              refine hK17 _ ?_
              refine W.region ?_
              refine WO.go 2 (ds := []) rfl ?_
              simp only [sx, ty, Bool.false_eq_true, q1, q2, q5, q6, q7, q8, q9, qa, qb, reduceIte]
              with_reducible refine WO.nil ?_
              refine ⟨k + 1, ?_, by first | omega | (simp; omega), rfl, by simp [getE, bnd, keepE, wrap_succ (show k + 1 ≤ 9223372036854775807 by omega)], ⟨_, rfl⟩, by simp [Own.bnd, bndL, bnd, boxO], by simp⟩
              exact hk
            · skip
              have hke : k = cs.length := by have : cs.length ≤ k := by simpa using hc
                                             omega
              subst hke
              refine W.exit (hK13 _ ?_)
              refine W.region ?_
              refine WO.go 3 (ds := []) rfl ?_
              simp only [sx, ty, Bool.false_eq_true, q1, q2, q5, q6, q7, q8, q9, qa, qb, reduceIte]
              refine WO.append (k := 0) (m := 1) [.slice (some ⟨b, 0, none⟩) cs.length cs.length] (ds := []) rfl rfl rfl rfl rfl rfl rfl ek36 (news_own (k2 := 3) rfl fun _ => rfl) rfl (by simp [Value.oneCell']) (by rw [maxLen_eq]; omega) (by omega) fun p6 c6 => ?_
              refine WO.go 1 (ds := []) rfl ?_
              simp only [sx, ty, Bool.false_eq_true, q1, q2, q5, q6, q7, q8, q9, qa, qb, reduceIte]
              with_reducible refine WO.nil ?_
              refine hK10 _ ?_
              refine W.region ?_
              refine WO.go 2 (ds := []) rfl ?_
              simp only [sx, ty, Bool.false_eq_true, q1, q2, q5, q6, q7, q8, q9, qa, qb, reduceIte]
              refine WO.snapK [2] (fun S s => RowsAt S s ds cs hall (xs ++ [.slice (some ⟨b, 0, none⟩) cs.length cs.length]) ∧ ∀ b, S b → w.heap.size ≤ b) (fun ρ w1 hb => ?_) (fun S s hSs => ?_)
              · refine ⟨joinS S4 s4 ρ _ [2], ⟨fun j x hx => ?_, ?_⟩, joinS_apart hb (by simp) [2]⟩
                · rcases Nat.lt_or_ge j xs.length with hj | hj
                  · rw [List.getElem?_append_left hj] at hx
                    obtain ⟨d, h1, h2⟩ := hrows j x hx
                    exact ⟨d, h1, Rp.joinS h2 hb (by simp) [2]⟩
                  · rw [List.getElem?_append_right hj] at hx
                    have hj0 := (List.getElem?_eq_some_iff.1 hx).1
                    simp only [List.length_cons, List.length_nil] at hj0
                    obtain rfl : j = xs.length := by omega
                    simp only [Nat.sub_self, List.getElem?_cons_zero, Option.some.injEq] at hx
                    subst hx
                    rw [hxl]
                    refine ⟨ds[i], getIdx ds hlt, own_slice (A := rInt) (k := 2) hb rfl (by simp) (fun b hb' => .inr ⟨2, _, by simp, rfl, hb'⟩) fun j y hy => ?_⟩
                    rw [List.getElem?_map] at hy
                    have hjl : j < cs.length := by
                      by_cases h : j < cs.length
                      · exact h
                      · rw [List.getElem?_eq_none (by omega)] at hy; cases hy
                    rw [getIdx cs hjl] at hy
                    obtain rfl := Option.some.inj hy
                    rw [show rInt.sz = 1 from rfl, take_one _ j _ (fillL_get _ _ _ j hjl), getIdx cs hjl]
                    rfl
                · rintro b (⟨h1, _⟩ | ⟨k, o, h1, h2, h3⟩)
                  · exact hnew b h1
                  · exact own_new hb (by simp) (by rw [nth_eq]; exact h2) h3
              · simp only [sx, ty, Bool.false_eq_true, q1, q2, q5, q6, q7, q8, q9, qa, qb, reduceIte, sxd]
                with_reducible refine WO.nil ?_
                refine ⟨(i + 1, p6, c6, xs ++ [.slice (some ⟨b, 0, none⟩) cs.length cs.length], S, s), ⟨hlt, by simp [hxl], hSs.1, hSs.2⟩, by show ds.length - (i + 1) < ds.length - i; omega, rfl, by simp [getE, bnd, keepE, wrap_succ (show i + 1 ≤ 9223372036854775807 by omega)], ⟨_, rfl⟩, by simp [Own.bnd, bndL, bnd], by simp⟩
        · skip
          have hie : i = ds.length := by have : ds.length ≤ i := by simpa using hc
                                         omega
          subst hie
          refine W.exit (hK6 _ ?_)
          refine W.pure (ds := []) rfl fun K19 hK19 => ?_
          simp only [sx, ty, Bool.false_eq_true, q1, q2, q5, q6, q7, q8, q9, qa, qb, reduceIte]; with_reducible refine hK19 _ ?_; clear hK19
          refine W.ret ⟨by simp, _, rfl, fun ρ w1 hb => ?_⟩
          rw [costsR_good hgood]
          simp only [costsF, List.length_map]
          refine ⟨p3, c3, rfl, own_slice (A := rInts) (k := 0) hb rfl (by simp) (fun b hb' => own_new hb (by simp) (k := 0) rfl hb') fun j y hy => ?_⟩
          rw [List.getElem?_map] at hy
          have hjl : j < ds.length := by
            by_cases h : j < ds.length
            · exact h
            · rw [List.getElem?_eq_none (by omega)] at hy; cases hy
          rw [getIdx ds hjl] at hy
          obtain rfl := Option.some.inj hy
          obtain ⟨d, h1, h2⟩ := hrows j xs[j] (getIdx xs (by omega))
          rw [getIdx ds hjl] at h1
          obtain rfl := Option.some.inj h1
          rw [show rInts.sz = 1 from rfl, take_one _ j _ (getIdx xs (by omega))]
          exact Rp.mono _ (Rp.keep h2 (hb.at (by simp))) fun b hb' _ => hnew b hb'
end Go.Proofs.YtolmeekbjonbcaaGreat
set_option linter.unusedVariables false
set_option linter.unusedSimpArgs false
set_option maxHeartbeats 1000000
namespace Go.Proofs.YtolmeekbjonbcaaGreat
open Int renaming reduceEq → q1, reduceLT → q2, reduceBEq → q3, reduceBNe → q4
open Nat renaming reduceAdd → q5, reduceSub → q6, reduceMul → q7, reduceLT → q8, reduceLeDiff → q9, reduceEqDiff → qa
open List renaming reduceReplicate → qb
open Go Go.SX Go.RowKit
theorem idx_self {l : List Int} {i : Nat} (hlt : i < l.length) (h : ∀ j, j < i → l[j]? ≠ some l[i]) : idxOf l l[i] = i :=
  findI_some (fun j hj y hy => by
    have := h j hj
    rw [hy] at this
    simp only [beq_eq_false_iff_ne, ne_eq]
    rintro rfl
    exact this rfl) (getIdx l hlt) (by simp)
theorem nodup_idx (l : List Int) : (∀ (i : Nat) (h : i < l.length), idxOf l l[i] = i) ↔ l.Nodup := by
  constructor
  · intro h
    rw [List.nodup_iff_pairwise_ne, List.pairwise_iff_getElem]
    intro i j hi hj hij he
    have h1 := h i hi
    have h2 := h j hj
    rw [← he, h1] at h2
    omega
  · intro h i hi
    refine idx_self hi fun j hj he => ?_
    rw [getIdx l (by omega)] at he
    have := (List.pairwise_iff_getElem.1 (List.nodup_iff_pairwise_ne.1 h)) j i (by omega) hi hj
    exact this (Option.some.inj he)
/-- function 34 -/
theorem in_spec (w : World) (n lo hi : Int) : Gives Tryz.prog 34 #[.int .i64 n, .int .i64 lo, .int .i64 hi] w fun r _ => r = .bool (within lo hi n) := by
  refine gives_of [.val (.int .i64 n), .val (.int .i64 lo), .val (.int .i64 hi)] 15 [.tmp 6] Tryz.func34 rfl rfl rfl (by simp) rfl rfl ?_
  refine W.pure (ds := []) rfl fun K1 hK1 => ?_
  simp only [sx, ty, Bool.false_eq_true, q1, q2, q5, q6, q7, q8, q9, qa, qb, reduceIte]; with_reducible refine hK1 _ ?_; clear hK1
  refine W.join 6 (.val (.bool (decide (lo ≤ n) && decide (n ≤ hi)))) [] (W.region ?_) ?_
  · skip
    refine WO.go 4 (ds := [some 7, some 8, some 9, some 10, some 11, some 12, some 13, some 14, some 6]) rfl ?_
    simp only [sx, ty, Bool.false_eq_true, q1, q2, q5, q6, q7, q8, q9, qa, qb, reduceIte]
    refine WO.cases 10 _ rfl (fun hg10 => ?_) (fun hg10 => ?_)
    · skip
      refine WO.go 5 (ds := [some 7, some 8, some 9, some 10, some 11, some 12, some 13, some 14, some 6]) rfl ?_
      simp only [sx, ty, Bool.false_eq_true, q1, q2, q5, q6, q7, q8, q9, qa, qb, reduceIte]
      with_reducible refine WO.nil ?_
      refine ⟨rfl, ?_, ⟨_, rfl⟩, by simp [Own.bnd, bndL, bnd, boxO], by simp⟩
      try rw [hg10]
      simp [getE, bnd, keepE]
    · skip
      refine WO.go 5 (ds := [some 7, some 8, some 9, some 10, some 11, some 12, some 13, some 14, some 6]) rfl ?_
      simp only [sx, ty, Bool.false_eq_true, q1, q2, q5, q6, q7, q8, q9, qa, qb, reduceIte]
      with_reducible refine WO.nil ?_
      refine ⟨rfl, ?_, ⟨_, rfl⟩, by simp [Own.bnd, bndL, bnd, boxO], by simp⟩
      try rw [hg10]
      simp [getE, bnd, keepE]
  · simp only [sx, ty, Bool.false_eq_true, q1, q2, q5, q6, q7, q8, q9, qa, qb, reduceIte, sxk]
    refine W.ret ⟨by simp, _, rfl, fun ρ w1 hb => ?_⟩
    rfl
/-- function 47 -/
theorem rindex_spec {S : Nat → Prop} {w : World} {v : Value} {l : List Int} (hl : rInts.rd S w [v] l) (n : Int) : Gives Tryz.prog 47 #[v, .int .i64 n] w fun r _ => r = .int .i64 (idxOf l n) := by
  obtain ⟨p, c, rfl, hc1, hc2⟩ := Rp.slice_val hl
  have hl : (Rp.slice rInt).rd (fun _ => True) w _ l := Rp.any hl
  refine gives_of [.val (.slice p l.length c), .val (.int .i64 n)] 19 [.tmp 4] Tryz.func47 rfl rfl rfl (by simp) rfl rfl ?_
  refine W.pure (ds := []) rfl fun K1 hK1 => ?_
  simp only [sx, ty, Bool.false_eq_true, q1, q2, q5, q6, q7, q8, q9, qa, qb, reduceIte]; with_reducible refine hK1 _ ?_; clear hK1
  refine W.seqK fun K2 hK2 => ?_
  refine W.pure (ds := []) rfl fun K3 hK3 => ?_
  simp only [sx, ty, Bool.false_eq_true, q1, q2, q5, q6, q7, q8, q9, qa, qb, reduceIte]; with_reducible refine hK3 _ ?_; clear hK3
  refine W.block ?_
  refine W.loopK (X := Nat) [0, 1] (fun x => [(5, .val (.int .i64 x))]) (fun x => x ≤ l.length ∧ ∀ j, j < x → ∀ y, l[j]? = some y → (n == y) = false) (fun x => l.length - x) 0 ?_ ?_ ?_
  · exact ⟨rfl, by simp [getE, bnd, keepE], ⟨[], by simp⟩, by simp [Own.bnd, bndL, bnd, boxO], by simp⟩
  · skip
    exact ⟨Nat.zero_le _, fun j hj => by omega⟩
  · rintro i ⟨hi, hno⟩
    simp only [sx, ty, Bool.false_eq_true, q1, q2, q5, q6, q7, q8, q9, qa, qb, reduceIte, sxk]
    refine W.seqK fun K4 hK4 => ?_
    refine W.pure (ds := []) rfl fun K5 hK5 => ?_
    simp only [sx, ty, Bool.false_eq_true, q1, q2, q5, q6, q7, q8, q9, qa, qb, reduceIte]; with_reducible refine hK5 _ ?_; clear hK5
    refine W.cond rfl rfl (fun hc => ?_) (fun hc => ?_)
    · skip
      have hlt : i < l.length := by simpa using hc
      refine W.skip (hK4 _ ?_)
      refine W.seqK fun K6 hK6 => ?_
      refine W.block ?_
      refine W.seqK fun K7 hK7 => W.region ?_
      refine WO.go 2 (ds := []) rfl ?_
      simp only [sx, ty, Bool.false_eq_true, q1, q2, q5, q6, q7, q8, q9, qa, qb, reduceIte]
      refine WO.elem (y := l[i]) hl (by simp [St.put]) (ds := []) rfl rfl rfl (by simp [St.put]) (fun _ => rfl) rfl rfl rfl rfl rfl el27 agg3 sz3 (.inr rfl) (by omega) (getIdx l hlt) fun p ces hces => ?_
      obtain rfl := rInt_open hces
      refine WO.go 2 (ds := []) rfl ?_
      simp only [sx, ty, Bool.false_eq_true, q1, q2, q5, q6, q7, q8, q9, qa, qb, reduceIte]
      with_reducible refine WO.nil ?_
      refine hK7 _ ?_; clear hK7
      refine W.cond rfl rfl (fun hc => ?_) (fun hc => ?_)
      · skip
        refine W.pure (ds := []) rfl fun K8 hK8 => ?_
        simp only [sx, ty, Bool.false_eq_true, q1, q2, q5, q6, q7, q8, q9, qa, qb, reduceIte]; with_reducible refine hK8 _ ?_; clear hK8
        refine W.ret ⟨by simp, _, rfl, fun ρ w1 hb => ?_⟩
        simp only [beq_iff_eq] at hc
        simp only [den]
        rw [show idxOf l n = i from findI_some hno (getIdx l hlt) (by simp; exact hc.symm)]
      · skip
        refine W.skip (hK6 _ ?_)
        refine W.region ?_
        refine WO.go 3 (ds := []) rfl ?_
        simp only [sx, ty, Bool.false_eq_true, q1, q2, q5, q6, q7, q8, q9, qa, qb, reduceIte]
        with_reducible refine WO.nil ?_
        refine ⟨i + 1, ?_, by first | omega | (simp; omega), rfl, by simp [getE, bnd, keepE, wrap_succ (show i + 1 ≤ 9223372036854775807 by omega)], ⟨_, rfl⟩, by simp [Own.bnd, bndL, bnd, boxO], by simp⟩
        refine ⟨hlt, fun j hj y hy => ?_⟩
        rcases Nat.lt_succ_iff_lt_or_eq.1 hj with h | rfl
        · exact hno j h y hy
        · rw [getIdx l hlt] at hy; obtain rfl := Option.some.inj hy
          simp only [beq_eq_false_iff_ne, ne_eq] at hc ⊢
          exact fun h => hc h.symm
    · skip
      refine W.exit (hK2 _ ?_)
      refine W.pure (ds := []) rfl fun K9 hK9 => ?_
      simp only [sx, ty, Bool.false_eq_true, q1, q2, q5, q6, q7, q8, q9, qa, qb, reduceIte]; with_reducible refine hK9 _ ?_; clear hK9
      refine W.ret ⟨by simp, _, rfl, fun ρ w1 hb => ?_⟩
      have hge : l.length ≤ i := by simpa using hc
      simp only [den]
      rw [show idxOf l n = -1 from findI_none fun j y hy => hno j (by have := (List.getElem?_eq_some_iff.1 hy).1; omega) y hy]
/-- function 40 -/
theorem rdemand_spec {S : Nat → Prop} {w : World} {ces : List Value} {d : Dem} (hd : rDem.rd S w ces d) : Gives Tryz.prog 40 #[.agg ces.toArray] w fun r _ => r = .bool (validD d) := by
  obtain ⟨p, c, rfl, hel0, hlen⟩ := rDem_open hd
  have hel : (Rp.slice rInt).rd (fun _ => True) w _ d.2.2.2 := Rp.any hel0
  refine gives_of [.agg [.val (.int .i64 d.1), .val (.int .i64 d.2.1), .val (.int .i64 d.2.2.1), .val (.slice p d.2.2.2.length c)]] 53 [.tmp 2] Tryz.func40 rfl rfl rfl (by simp) rfl rfl ?_
  refine W.pure (ds := []) rfl fun K1 hK1 => ?_
  simp only [sx, ty, Bool.false_eq_true, q1, q2, q5, q6, q7, q8, q9, qa, qb, reduceIte]; with_reducible refine hK1 _ ?_; clear hK1
  refine W.seqK fun K2 hK2 => ?_
  refine W.join 26 (.val (.bool (!(within 1 1000000 d.1 && within 1 1000000 d.2.1 && within 1 1000000 d.2.2.1 && within 1 12 d.2.2.2.length)))) [1] (W.region ?_) ?_
  · skip
    refine WO.go 2 (ds := [some 4, some 5, some 6, some 7, some 8, some 9, some 10, some 11, some 12, some 13, some 14, some 15, some 16, some 17, some 18, some 19, some 20, some 21, some 22, some 23, some 24, some 25, some 26]) rfl ?_
    simp only [sx, ty, Bool.false_eq_true, q1, q2, q5, q6, q7, q8, q9, qa, qb, reduceIte]
    refine WO.call (.bool (within 1 1000000 d.1)) (ds := [some 4, some 5, some 6, some 7, some 8, some 9, some 10, some 11, some 12, some 13, some 14, some 15, some 16, some 17, some 18, some 19, some 20, some 21, some 22, some 23, some 24, some 25, some 26]) rfl rfl rfl rfl co34 (fun ρ w1 hb => in_spec w1 _ _ _) ?_
    refine WO.go 2 (ds := [some 4, some 5, some 6, some 7, some 8, some 9, some 10, some 11, some 12, some 13, some 14, some 15, some 16, some 17, some 18, some 19, some 20, some 21, some 22, some 23, some 24, some 25, some 26]) rfl ?_
    simp only [sx, ty, Bool.false_eq_true, q1, q2, q5, q6, q7, q8, q9, qa, qb, reduceIte]
    refine WO.cases 8 _ rfl (fun hg8 => ?_) (fun hg8 => ?_)
    · skip
      have hg8 : within 1 1000000 d.1 = false := by simpa using hg8
      refine WO.go 18 (ds := [some 4, some 5, some 6, some 7, some 8, some 9, some 10, some 11, some 12, some 13, some 14, some 15, some 16, some 17, some 18, some 19, some 20, some 21, some 22, some 23, some 24, some 25, some 26]) rfl ?_
      simp only [sx, ty, Bool.false_eq_true, q1, q2, q5, q6, q7, q8, q9, qa, qb, reduceIte]
      with_reducible refine WO.nil ?_
      refine ⟨rfl, ?_, ⟨_, rfl⟩, by simp [Own.bnd, bndL, bnd, boxO], by simp⟩
      simp only [Bool.not_eq_true', Bool.not_eq_false'] at *
      try rw [hg8]
      try rw [hg14]
      try rw [hg20]
      simp [getE, bnd, keepE]
    · skip
      have hg8 : within 1 1000000 d.1 = true := by simpa using hg8
      refine WO.go 2 (ds := [some 4, some 5, some 6, some 7, some 8, some 9, some 10, some 11, some 12, some 13, some 14, some 15, some 16, some 17, some 18, some 19, some 20, some 21, some 22, some 23, some 24, some 25, some 26]) rfl ?_
      simp only [sx, ty, Bool.false_eq_true, q1, q2, q5, q6, q7, q8, q9, qa, qb, reduceIte]
      refine WO.call (.bool (within 1 1000000 d.2.1)) (ds := [some 4, some 5, some 6, some 7, some 8, some 9, some 10, some 11, some 12, some 13, some 14, some 15, some 16, some 17, some 18, some 19, some 20, some 21, some 22, some 23, some 24, some 25, some 26]) rfl rfl rfl rfl co34 (fun ρ w1 hb => in_spec w1 _ _ _) ?_
      refine WO.go 3 (ds := [some 4, some 5, some 6, some 7, some 8, some 9, some 10, some 11, some 12, some 13, some 14, some 15, some 16, some 17, some 18, some 19, some 20, some 21, some 22, some 23, some 24, some 25, some 26]) rfl ?_
      simp only [sx, ty, Bool.false_eq_true, q1, q2, q5, q6, q7, q8, q9, qa, qb, reduceIte]
      refine WO.cases 14 _ rfl (fun hg14 => ?_) (fun hg14 => ?_)
      · skip
        have hg14 : within 1 1000000 d.2.1 = false := by simpa using hg14
        refine WO.go 12 (ds := [some 4, some 5, some 6, some 7, some 8, some 9, some 10, some 11, some 12, some 13, some 14, some 15, some 16, some 17, some 18, some 19, some 20, some 21, some 22, some 23, some 24, some 25, some 26]) rfl ?_
        simp only [sx, ty, Bool.false_eq_true, q1, q2, q5, q6, q7, q8, q9, qa, qb, reduceIte]
        with_reducible refine WO.nil ?_
        refine ⟨rfl, ?_, ⟨_, rfl⟩, by simp [Own.bnd, bndL, bnd, boxO], by simp⟩
        simp only [Bool.not_eq_true', Bool.not_eq_false'] at *
        try rw [hg8]
        try rw [hg14]
        try rw [hg20]
        simp [getE, bnd, keepE]
      · skip
        have hg14 : within 1 1000000 d.2.1 = true := by simpa using hg14
        refine WO.go 2 (ds := [some 4, some 5, some 6, some 7, some 8, some 9, some 10, some 11, some 12, some 13, some 14, some 15, some 16, some 17, some 18, some 19, some 20, some 21, some 22, some 23, some 24, some 25, some 26]) rfl ?_
        simp only [sx, ty, Bool.false_eq_true, q1, q2, q5, q6, q7, q8, q9, qa, qb, reduceIte]
        refine WO.call (.bool (within 1 1000000 d.2.2.1)) (ds := [some 4, some 5, some 6, some 7, some 8, some 9, some 10, some 11, some 12, some 13, some 14, some 15, some 16, some 17, some 18, some 19, some 20, some 21, some 22, some 23, some 24, some 25, some 26]) rfl rfl rfl rfl co34 (fun ρ w1 hb => in_spec w1 _ _ _) ?_
        refine WO.go 3 (ds := [some 4, some 5, some 6, some 7, some 8, some 9, some 10, some 11, some 12, some 13, some 14, some 15, some 16, some 17, some 18, some 19, some 20, some 21, some 22, some 23, some 24, some 25, some 26]) rfl ?_
        simp only [sx, ty, Bool.false_eq_true, q1, q2, q5, q6, q7, q8, q9, qa, qb, reduceIte]
        refine WO.cases 20 _ rfl (fun hg20 => ?_) (fun hg20 => ?_)
        · skip
          have hg20 : within 1 1000000 d.2.2.1 = false := by simpa using hg20
          refine WO.go 6 (ds := [some 4, some 5, some 6, some 7, some 8, some 9, some 10, some 11, some 12, some 13, some 14, some 15, some 16, some 17, some 18, some 19, some 20, some 21, some 22, some 23, some 24, some 25, some 26]) rfl ?_
          simp only [sx, ty, Bool.false_eq_true, q1, q2, q5, q6, q7, q8, q9, qa, qb, reduceIte]
          with_reducible refine WO.nil ?_
          refine ⟨rfl, ?_, ⟨_, rfl⟩, by simp [Own.bnd, bndL, bnd, boxO], by simp⟩
          simp only [Bool.not_eq_true', Bool.not_eq_false'] at *
          try rw [hg8]
          try rw [hg14]
          try rw [hg20]
          simp [getE, bnd, keepE]
        · skip
          have hg20 : within 1 1000000 d.2.2.1 = true := by simpa using hg20
          refine WO.go 3 (ds := [some 4, some 5, some 6, some 7, some 8, some 9, some 10, some 11, some 12, some 13, some 14, some 15, some 16, some 17, some 18, some 19, some 20, some 21, some 22, some 23, some 24, some 25, some 26]) rfl ?_
          simp only [sx, ty, Bool.false_eq_true, q1, q2, q5, q6, q7, q8, q9, qa, qb, reduceIte]
          refine WO.call (.bool (within 1 12 d.2.2.2.length)) (ds := [some 4, some 5, some 6, some 7, some 8, some 9, some 10, some 11, some 12, some 13, some 14, some 15, some 16, some 17, some 18, some 19, some 20, some 21, some 22, some 23, some 24, some 25, some 26]) rfl rfl rfl rfl co34 (fun ρ w1 hb => in_spec w1 _ _ _) ?_
          refine WO.go 2 (ds := [some 4, some 5, some 6, some 7, some 8, some 9, some 10, some 11, some 12, some 13, some 14, some 15, some 16, some 17, some 18, some 19, some 20, some 21, some 22, some 23, some 24, some 25, some 26]) rfl ?_
          simp only [sx, ty, Bool.false_eq_true, q1, q2, q5, q6, q7, q8, q9, qa, qb, reduceIte]
          with_reducible refine WO.nil ?_
          refine ⟨rfl, ?_, ⟨_, rfl⟩, by simp [Own.bnd, bndL, bnd, boxO], by simp⟩
          simp only [Bool.not_eq_true', Bool.not_eq_false'] at *
          try rw [hg8]
          try rw [hg14]
          try rw [hg20]
          simp [getE, bnd, keepE]
  · simp only [sx, ty, Bool.false_eq_true, q1, q2, q5, q6, q7, q8, q9, qa, qb, reduceIte, sxk]
    refine W.cond rfl rfl (fun hc => ?_) (fun hc => ?_)
    · skip
      have h0 : (within 1 1000000 d.1 && within 1 1000000 d.2.1 && within 1 1000000 d.2.2.1 && within 1 12 d.2.2.2.length) = false := by rwa [Bool.not_eq_true'] at hc
      refine W.pure (ds := []) rfl fun K4 hK4 => ?_
      simp only [sx, ty, Bool.false_eq_true, q1, q2, q5, q6, q7, q8, q9, qa, qb, reduceIte]; with_reducible refine hK4 _ ?_; clear hK4
      refine W.ret ⟨by simp, _, rfl, fun ρ w1 hb => ?_⟩
      simp only [den, validD, h0, Bool.false_and]
    · skip
      have h0 : (within 1 1000000 d.1 && within 1 1000000 d.2.1 && within 1 1000000 d.2.2.1 && within 1 12 d.2.2.2.length) = true := by rwa [Bool.not_eq_false'] at hc
      refine W.skip (hK2 _ ?_)
      refine W.seqK fun K5 hK5 => ?_
      refine W.pure (ds := []) rfl fun K6 hK6 => ?_
      simp only [sx, ty, Bool.false_eq_true, q1, q2, q5, q6, q7, q8, q9, qa, qb, reduceIte]; with_reducible refine hK6 _ ?_; clear hK6
      refine W.block ?_
      refine W.loopK (X := Nat) [1] (fun x => [(3, .val (.int .i64 x))]) (fun x => x ≤ d.2.2.2.length ∧ (∀ (j : Nat) (hj : j < d.2.2.2.length), j < x → within 1 1000000 d.2.2.2[j] = true ∧ idxOf d.2.2.2 d.2.2.2[j] = j)) (fun x => d.2.2.2.length - x) 0 ?_ ?_ ?_
      · exact ⟨rfl, by simp [getE, bnd, keepE], ⟨[], by simp⟩, by simp [Own.bnd, bndL, bnd, boxO], by simp⟩
      · skip
        exact ⟨Nat.zero_le _, fun j hj h => by omega⟩
      · rintro i ⟨hi, hno⟩
        simp only [sx, ty, Bool.false_eq_true, q1, q2, q5, q6, q7, q8, q9, qa, qb, reduceIte, sxk]
        refine W.seqK fun K7 hK7 => ?_
        refine W.pure (ds := []) rfl fun K8 hK8 => ?_
        simp only [sx, ty, Bool.false_eq_true, q1, q2, q5, q6, q7, q8, q9, qa, qb, reduceIte]; with_reducible refine hK8 _ ?_; clear hK8
        refine W.cond rfl rfl (fun hc => ?_) (fun hc => ?_)
        · skip
          have hlt : i < d.2.2.2.length := by simpa using hc
          refine W.skip (hK7 _ ?_)
          refine W.seqK fun K9 hK9 => ?_
          refine W.block ?_
          refine W.join 52 (.val (.bool (!within 1 1000000 d.2.2.2[i] || (idxOf d.2.2.2 d.2.2.2[i] != i)))) [1, 3] (W.regionQ mixed (by kernel_rfl) ?_) ?_
          · skip
            refine WQ.go 3 (ds := [some 34, some 35, some 36, some 37, some 38, some 39, some 40, some 41, some 42, some 43, some 44, some 45, some 46, some 47, some 48, some 49, some 50, some 51, some 52]) rfl ?_
            simp only [sx, ty, Bool.false_eq_true, q1, q2, q5, q6, q7, q8, q9, qa, qb, reduceIte, sxq, Bool.false_eq_true]
            refine WQ.elem (y := d.2.2.2[i]) hel (by simp [St.put]) (ds := [some 34, some 35, some 36, some 37, some 38, some 39, some 40, some 41, some 42, some 43, some 44, some 45, some 46, some 47, some 48, some 49, some 50, some 51, some 52]) rfl rfl rfl (by simp [St.put]) (fun _ => rfl) rfl rfl rfl rfl rfl el27 agg3 sz3 (.inr rfl) (by omega) (getIdx d.2.2.2 hlt) fun p ces hces => ?_
            obtain rfl := rInt_open hces
            simp only [sx, ty, Bool.false_eq_true, q1, q2, q5, q6, q7, q8, q9, qa, qb, reduceIte]
            refine WQ.call (.bool (within 1 1000000 d.2.2.2[i])) (ds := [some 34, some 35, some 36, some 37, some 38, some 39, some 40, some 41, some 42, some 43, some 44, some 45, some 46, some 47, some 48, some 49, some 50, some 51, some 52]) rfl rfl rfl rfl co34 (fun ρ w1 hb => in_spec w1 _ _ _) ?_
            refine WQ.go 2 (ds := [some 34, some 35, some 36, some 37, some 38, some 39, some 40, some 41, some 42, some 43, some 44, some 45, some 46, some 47, some 48, some 49, some 50, some 51, some 52]) rfl ?_
            simp only [sx, ty, Bool.false_eq_true, q1, q2, q5, q6, q7, q8, q9, qa, qb, reduceIte, sxq, Bool.false_eq_true]
            refine WQ.cases 41 _ rfl (fun hg41 => ?_) (fun hg41 => ?_)
            · skip
              refine WQ.go 11 (ds := [some 34, some 35, some 36, some 37, some 38, some 39, some 40, some 41, some 42, some 43, some 44, some 45, some 46, some 47, some 48, some 49, some 50, some 51, some 52]) rfl ?_
              simp only [sx, ty, Bool.false_eq_true, q1, q2, q5, q6, q7, q8, q9, qa, qb, reduceIte, sxq, Bool.false_eq_true]
              with_reducible refine WQ.nil ?_
              refine ⟨rfl, ?_, ⟨_, rfl⟩, by simp [Own.bnd, bndL, bnd, boxO], by simp⟩
              simp only [Bool.not_eq_true', Bool.not_eq_false'] at hg41
              rw [hg41]
              simp [getE, bnd, keepE]
            · skip
              refine WQ.go 5 (ds := [some 34, some 35, some 36, some 37, some 38, some 39, some 40, some 41, some 42, some 43, some 44, some 45, some 46, some 47, some 48, some 49, some 50, some 51, some 52]) rfl ?_
              simp only [sx, ty, Bool.false_eq_true, q1, q2, q5, q6, q7, q8, q9, qa, qb, reduceIte, sxq, Bool.false_eq_true]
              refine WQ.elem (y := d.2.2.2[i]) hel (by simp [St.put]) (ds := [some 34, some 35, some 36, some 37, some 38, some 39, some 40, some 41, some 42, some 43, some 44, some 45, some 46, some 47, some 48, some 49, some 50, some 51, some 52]) rfl rfl rfl (by simp [St.put]) (fun _ => rfl) rfl rfl rfl rfl rfl el27 agg3 sz3 (.inr rfl) (by omega) (getIdx d.2.2.2 hlt) fun p ces hces => ?_
              obtain rfl := rInt_open hces
              simp only [sx, ty, Bool.false_eq_true, q1, q2, q5, q6, q7, q8, q9, qa, qb, reduceIte]
              refine WQ.call (.int .i64 (idxOf d.2.2.2 d.2.2.2[i])) (ds := [some 34, some 35, some 36, some 37, some 38, some 39, some 40, some 41, some 42, some 43, some 44, some 45, some 46, some 47, some 48, some 49, some 50, some 51, some 52]) rfl rfl rfl rfl co47 (fun ρ w1 hb => rindex_spec (Rp.now hel (hb.first (by simp))) _) ?_
              refine WQ.go 3 (ds := [some 34, some 35, some 36, some 37, some 38, some 39, some 40, some 41, some 42, some 43, some 44, some 45, some 46, some 47, some 48, some 49, some 50, some 51, some 52]) rfl ?_
              simp only [sx, ty, Bool.false_eq_true, q1, q2, q5, q6, q7, q8, q9, qa, qb, reduceIte, sxq, Bool.false_eq_true]
              with_reducible refine WQ.nil ?_
              refine ⟨rfl, ?_, ⟨_, rfl⟩, by simp [Own.bnd, bndL, bnd, boxO], by simp⟩
              simp only [Bool.not_eq_true', Bool.not_eq_false'] at hg41
              rw [hg41]
              simp [getE, bnd, keepE]
          · simp only [sx, ty, Bool.false_eq_true, q1, q2, q5, q6, q7, q8, q9, qa, qb, reduceIte, sxk]
            refine W.cond rfl rfl (fun hc => ?_) (fun hc => ?_)
            · skip
              refine W.pure (ds := []) rfl fun K11 hK11 => ?_
              simp only [sx, ty, Bool.false_eq_true, q1, q2, q5, q6, q7, q8, q9, qa, qb, reduceIte]; with_reducible refine hK11 _ ?_; clear hK11
              refine W.ret ⟨by simp, _, rfl, fun ρ w1 hb => ?_⟩
              simp only [den, validD, h0, Bool.true_and, Value.bool.injEq]
              rw [eq_comm, Bool.and_eq_false_iff]
              rcases (by simpa using hc : within 1 1000000 d.2.2.2[i] = false ∨ ¬ idxOf d.2.2.2 d.2.2.2[i] = i) with h | h
              · left; rw [List.all_eq_false]; exact ⟨_, List.getElem_mem hlt, by simp [h]⟩
              · right; rw [decide_eq_false_iff_not]; intro hn; exact h ((nodup_idx _).2 hn i hlt)
            · skip
              refine W.skip (hK9 _ ?_)
              refine W.region ?_
              refine WO.go 3 (ds := []) rfl ?_
              simp only [sx, ty, Bool.false_eq_true, q1, q2, q5, q6, q7, q8, q9, qa, qb, reduceIte]
              with_reducible refine WO.nil ?_
              refine ⟨i + 1, ?_, by first | omega | (simp; omega), rfl, by simp [getE, bnd, keepE, wrap_succ (show i + 1 ≤ 9223372036854775807 by omega)], ⟨_, rfl⟩, by simp [Own.bnd, bndL, bnd, boxO], by simp⟩
              refine ⟨hlt, fun j hj h => ?_⟩
              rcases Nat.lt_succ_iff_lt_or_eq.1 h with h | rfl
              · exact hno j hj h
              · simpa using hc
        · skip
          refine W.exit (hK5 _ ?_)
          refine W.pure (ds := []) rfl fun K12 hK12 => ?_
          simp only [sx, ty, Bool.false_eq_true, q1, q2, q5, q6, q7, q8, q9, qa, qb, reduceIte]; with_reducible refine hK12 _ ?_; clear hK12
          refine W.ret ⟨by simp, _, rfl, fun ρ w1 hb => ?_⟩
          have hge : d.2.2.2.length ≤ i := by simpa using hc
          simp only [den, validD, h0, Bool.true_and, Value.bool.injEq]
          rw [eq_comm, Bool.and_eq_true, List.all_eq_true, decide_eq_true_eq]
          refine ⟨fun x hx => ?_, (nodup_idx _).1 fun j hj => (hno j hj (by omega)).2⟩
          obtain ⟨j, hj, rfl⟩ := List.getElem_of_mem hx
          exact (hno j hj (by omega)).1
end Go.Proofs.YtolmeekbjonbcaaGreat
set_option linter.unusedVariables false
set_option linter.unusedSimpArgs false
set_option maxHeartbeats 1000000
namespace Go.Proofs.YtolmeekbjonbcaaGreat
open Int renaming reduceEq → q1, reduceLT → q2, reduceBEq → q3, reduceBNe → q4
open Nat renaming reduceAdd → q5, reduceSub → q6, reduceMul → q7, reduceLT → q8, reduceLeDiff → q9, reduceEqDiff → qa
open List renaming reduceReplicate → qb
open Go Go.SX Go.RowKit
/-- a key of an element stands before it -/
theorem nodup_not {α : Type} (f : α → Int) (l : List α) {j i : Nat} (hj : j < i) (hi : i < l.length) (h : f (l[j]'(by omega)) = f l[i]) : decide (l.map f).Nodup = false := by
  rw [decide_eq_false_iff_not]
  intro hn
  have := (List.pairwise_iff_getElem.1 (List.nodup_iff_pairwise_ne.1 hn)) j i (by simp; omega) (by simpa using hi) hj
  simp only [List.getElem_map] at this
  exact this h
theorem nodup_take {α : Type} (f : α → Int) (l : List α) {i : Nat} (hi : i < l.length) (h : ((l.take i).map f).Nodup) (hno : ∀ (j : Nat) (hj : j < l.length), j < i → f l[j] ≠ f l[i]) : ((l.take (i + 1)).map f).Nodup := by
  rw [take_map_snoc f l (getIdx l hi)]
  refine (nodup_snoc _ _).2 ⟨h, fun hm => ?_⟩
  obtain ⟨x, hx, he⟩ := List.mem_map.1 hm
  obtain ⟨j, hj, rfl⟩ := List.getElem_of_mem hx
  simp only [List.length_take] at hj
  rw [List.getElem_take] at he
  exact hno j (by omega) (by omega) he
theorem all_take {α : Type} (f : α → Bool) (l : List α) {i : Nat} (hi : i < l.length) (h : (l.take i).all f = true) (hx : f l[i] = true) : (l.take (i + 1)).all f = true := by
  rw [List.take_succ_eq_append_getElem hi, List.all_append, h]
  simpa using hx
theorem all_not {α : Type} (f : α → Bool) (l : List α) {i : Nat} (hi : i < l.length) (hx : f l[i] = false) : l.all f = false := by
  rw [List.all_eq_false]
  exact ⟨l[i], List.getElem_mem hi, by simp [hx]⟩
/-- function 22 -/
theorem rdemands_spec {S : Nat → Prop} {w : World} {v : Value} {ds : List Dem} (hl : rDems.rd S w [v] ds) : Gives Tryz.prog 22 #[v] w fun r _ => r = .bool (validDs ds) := by
  obtain ⟨p, c, rfl, hc1, hc2⟩ := Rp.slice_val hl
  have hl : (Rp.slice rDem).rd (fun _ => True) w _ ds := Rp.any hl
  refine gives_of [.val (.slice p ds.length c)] 38 [.tmp 2] Tryz.func22 rfl rfl rfl (by simp) rfl rfl ?_
  refine W.pure (ds := []) rfl fun K1 hK1 => ?_
  simp only [sx, ty, Bool.false_eq_true, q1, q2, q5, q6, q7, q8, q9, qa, qb, reduceIte]; with_reducible refine hK1 _ ?_; clear hK1
  refine W.seqK fun K2 hK2 => ?_
  refine W.pure (ds := []) rfl fun K3 hK3 => ?_
  simp only [sx, ty, Bool.false_eq_true, q1, q2, q5, q6, q7, q8, q9, qa, qb, reduceIte]; with_reducible refine hK3 _ ?_; clear hK3
  refine W.cond rfl rfl (fun hc => ?_) (fun hc => ?_)
  · skip
    have h0 : decide (ds.length ≤ 200) = false := by simp at hc ⊢; omega
    refine W.pure (ds := []) rfl fun K4 hK4 => ?_
    simp only [sx, ty, Bool.false_eq_true, q1, q2, q5, q6, q7, q8, q9, qa, qb, reduceIte]; with_reducible refine hK4 _ ?_; clear hK4
    refine W.ret ⟨by simp, _, rfl, fun ρ w1 hb => ?_⟩
    simp only [den, validDs, h0, Bool.false_and]
  · skip
    have h0 : decide (ds.length ≤ 200) = true := by simp at hc ⊢; omega
    refine W.skip (hK2 _ ?_)
    refine W.seqK fun K5 hK5 => ?_
    refine W.pure (ds := []) rfl fun K6 hK6 => ?_
    simp only [sx, ty, Bool.false_eq_true, q1, q2, q5, q6, q7, q8, q9, qa, qb, reduceIte]; with_reducible refine hK6 _ ?_; clear hK6
    refine W.block ?_
    refine W.loopK (X := Nat) [0] (fun x => [(3, .val (.int .i64 x))]) (fun x => x ≤ ds.length ∧ (ds.take x).all validD = true ∧ ((ds.take x).map fun d : Dem => d.1).Nodup) (fun x => ds.length - x) 0 ?_ ?_ ?_
    · exact ⟨rfl, by simp [getE, bnd, keepE], ⟨[], by simp⟩, by simp [Own.bnd, bndL, bnd, boxO], by simp⟩
    · skip
      simp
    · rintro i ⟨hi, hall, hnd⟩
      simp only [sx, ty, Bool.false_eq_true, q1, q2, q5, q6, q7, q8, q9, qa, qb, reduceIte, sxk]
      refine W.seqK fun K7 hK7 => ?_
      refine W.pure (ds := []) rfl fun K8 hK8 => ?_
      simp only [sx, ty, Bool.false_eq_true, q1, q2, q5, q6, q7, q8, q9, qa, qb, reduceIte]; with_reducible refine hK8 _ ?_; clear hK8
      refine W.cond rfl rfl (fun hc => ?_) (fun hc => ?_)
      · skip
        have hlt : i < ds.length := by simpa using hc
        refine W.skip (hK7 _ ?_)
        refine W.seqK fun K9 hK9 => ?_
        refine W.block ?_
        refine W.seqK fun K10 hK10 => W.region ?_
        refine WO.go 2 (ds := []) rfl ?_
        simp only [sx, ty, Bool.false_eq_true, q1, q2, q5, q6, q7, q8, q9, qa, qb, reduceIte]
        refine WO.elem (y := ds[i]) hl (by simp [St.put]) (ds := []) rfl rfl rfl (by simp [St.put]) (fun _ => rfl) rfl rfl rfl rfl rfl el22 agg41 sz41 (.inl rfl) (by omega) (getIdx ds hlt) fun p ces hces => ?_
        obtain ⟨p2, c2, rfl, hed, hel⟩ := rDem_open hces
        simp only [sx, ty, Bool.false_eq_true, q1, q2, q5, q6, q7, q8, q9, qa, qb, reduceIte]
        refine WO.call (.bool (validD ds[i])) (ds := []) rfl rfl rfl rfl co40 (fun ρ w1 hb => by have := rdemand_spec (Rp.now hces (hb.first (by simp))); simpa [denL_eq, den, Function.comp_def] using this) ?_
        refine WO.go 1 (ds := []) rfl ?_
        simp only [sx, ty, Bool.false_eq_true, q1, q2, q5, q6, q7, q8, q9, qa, qb, reduceIte]
        with_reducible refine WO.nil ?_
        refine hK10 _ ?_; clear hK10
        refine W.seqK fun K11 hK11 => ?_
        refine W.pure (ds := []) rfl fun K12 hK12 => ?_
        simp only [sx, ty, Bool.false_eq_true, q1, q2, q5, q6, q7, q8, q9, qa, qb, reduceIte]; with_reducible refine hK12 _ ?_; clear hK12
        refine W.cond rfl rfl (fun hc => ?_) (fun hc => ?_)
        · skip
          have hx := all_not validD ds hlt (by rwa [Bool.not_eq_true'] at hc)
          refine W.pure (ds := []) rfl fun K13 hK13 => ?_
          simp only [sx, ty, Bool.false_eq_true, q1, q2, q5, q6, q7, q8, q9, qa, qb, reduceIte]; with_reducible refine hK13 _ ?_; clear hK13
          refine W.ret ⟨by simp, _, rfl, fun ρ w1 hb => ?_⟩
          simp only [den, validDs, hx, Bool.and_false, Bool.false_and]
        · skip
          rw [Bool.not_eq_false'] at hc
          have hxi := hc
          refine W.skip (hK11 _ ?_)
          refine W.pure (ds := []) rfl fun K14 hK14 => ?_
          simp only [sx, ty, Bool.false_eq_true, q1, q2, q5, q6, q7, q8, q9, qa, qb, reduceIte]; with_reducible refine hK14 _ ?_; clear hK14
          refine W.block ?_
          refine W.loopK (X := Nat) [0, 3] (fun x => [(5, .val (.int .i64 x))]) (fun x => x ≤ i ∧ ∀ (j : Nat) (hj : j < ds.length), j < x → ds[j].1 ≠ ds[i].1) (fun x => i - x) 0 ?_ ?_ ?_
          · exact ⟨rfl, by simp [getE, bnd, keepE], ⟨[], by simp⟩, by simp [Own.bnd, bndL, bnd, boxO], by simp⟩
          · skip
            exact ⟨Nat.zero_le _, fun j hj h => by omega⟩
          · rintro k ⟨hk, hno⟩
            simp only [sx, ty, Bool.false_eq_true, q1, q2, q5, q6, q7, q8, q9, qa, qb, reduceIte, sxk]
            refine W.seqK fun K15 hK15 => ?_
            refine W.pure (ds := []) rfl fun K16 hK16 => ?_
            simp only [sx, ty, Bool.false_eq_true, q1, q2, q5, q6, q7, q8, q9, qa, qb, reduceIte]; with_reducible refine hK16 _ ?_; clear hK16
            refine W.cond rfl rfl (fun hc => ?_) (fun hc => ?_)
            · skip
              have hkl : k < i := by simpa using hc
              refine W.skip (hK15 _ ?_)
              refine W.seqK fun K17 hK17 => ?_
              refine W.block ?_
              refine W.seqK fun K18 hK18 => ?_
              refine W.regionQ mixed (by kernel_rfl) ?_
              refine WQ.go 2 (ds := []) rfl ?_
              simp only [sx, ty, Bool.false_eq_true, q1, q2, q5, q6, q7, q8, q9, qa, qb, reduceIte, sxq, Bool.false_eq_true]
              refine WQ.elemF (y := ds[k]) hl (by simp [St.put]) (ds := []) rfl rfl rfl (by simp [St.put]) (fun _ => rfl) rfl (by simp [St.put]) (fun _ _ => rfl) rfl rfl rfl rfl rfl rfl el22 fo41_0 agg3 sz3 (by decide) (.inr rfl) (by omega) (getIdx ds (by omega)) fun p q ces hces => ?_
              obtain ⟨p3, c3, rfl, hed3, hel3⟩ := rDem_open hces
              clear hces
              refine WQ.go 2 (ds := []) rfl ?_
              simp only [sx, ty, Bool.false_eq_true, q1, q2, q5, q6, q7, q8, q9, qa, qb, reduceIte, sxq, Bool.false_eq_true]
              refine WQ.elemF (y := ds[i]) hl (by simp [St.put]) (ds := []) rfl rfl rfl (by simp [St.put]) (fun _ => rfl) rfl (by simp [St.put]) (fun _ _ => rfl) rfl rfl rfl rfl rfl rfl el22 fo41_0 agg3 sz3 (by decide) (.inr rfl) (by omega) (getIdx ds hlt) fun p q ces hces => ?_
              obtain ⟨p4, c4, rfl, hed4, hel4⟩ := rDem_open hces
              clear hces
              refine WQ.go 1 (ds := []) rfl ?_
              simp only [sx, ty, Bool.false_eq_true, q1, q2, q5, q6, q7, q8, q9, qa, qb, reduceIte, sxq, Bool.false_eq_true]
              with_reducible refine WQ.nil ?_
              refine hK18 _ ?_; clear hK18
              refine W.cond rfl rfl (fun hc => ?_) (fun hc => ?_)
              · skip
                have hx := nodup_not (fun d : Dem => d.1) ds hkl hlt (by simpa using hc)
                refine W.pure (ds := []) rfl fun K19 hK19 => ?_
                simp only [sx, ty, Bool.false_eq_true, q1, q2, q5, q6, q7, q8, q9, qa, qb, reduceIte]; with_reducible refine hK19 _ ?_; clear hK19
                refine W.ret ⟨by simp, _, rfl, fun ρ w1 hb => ?_⟩
                simp only [den, validDs, hx, Bool.and_false]
              · skip
                have hx : ds[k].1 ≠ ds[i].1 := by simpa using hc
                refine W.skip (hK17 _ ?_)
                refine W.region ?_
                refine WO.go 3 (ds := []) rfl ?_
                simp only [sx, ty, Bool.false_eq_true, q1, q2, q5, q6, q7, q8, q9, qa, qb, reduceIte]
                with_reducible refine WO.nil ?_
                refine ⟨k + 1, ?_, by first | omega | (simp; omega), rfl, by simp [getE, bnd, keepE, wrap_succ (show k + 1 ≤ 9223372036854775807 by omega)], ⟨_, rfl⟩, by simp [Own.bnd, bndL, bnd, boxO], by simp⟩
                refine ⟨hkl, fun j hj h => ?_⟩
                rcases Nat.lt_succ_iff_lt_or_eq.1 h with h | rfl
                · exact hno j hj h
                · exact hx
            · skip
              have hke : k = i := by have : ¬ k < i := by simpa using hc
                                     omega
              subst hke
              refine W.exit (hK9 _ ?_)
              refine W.region ?_
              refine WO.go 3 (ds := []) rfl ?_
              simp only [sx, ty, Bool.false_eq_true, q1, q2, q5, q6, q7, q8, q9, qa, qb, reduceIte]
              with_reducible refine WO.nil ?_
              refine ⟨k + 1, ?_, by first | omega | (simp; omega), rfl, by simp [getE, bnd, keepE, wrap_succ (show k + 1 ≤ 9223372036854775807 by omega)], ⟨_, rfl⟩, by simp [Own.bnd, bndL, bnd, boxO], by simp⟩
              exact ⟨hlt, all_take validD ds hlt hall hxi, nodup_take _ ds hlt hnd hno⟩
      · skip
        refine W.exit (hK5 _ ?_)
        refine W.pure (ds := []) rfl fun K20 hK20 => ?_
        simp only [sx, ty, Bool.false_eq_true, q1, q2, q5, q6, q7, q8, q9, qa, qb, reduceIte]; with_reducible refine hK20 _ ?_; clear hK20
        refine W.ret ⟨by simp, _, rfl, fun ρ w1 hb => ?_⟩
        have hge : ds.length ≤ i := by simpa using hc
        rw [List.take_of_length_le hge] at hall hnd
        simp only [den, validDs, h0, hall, hnd, decide_true, Bool.true_and]
/-- function 18 -/
theorem rcopies_spec {S : Nat → Prop} {w : World} {v : Value} {cs : List Cop} (hl : rCops.rd S w [v] cs) : Gives Tryz.prog 18 #[v] w fun r _ => r = .bool (validCs cs) := by
  obtain ⟨p, c, rfl, hc1, hc2⟩ := Rp.slice_val hl
  have hl : (Rp.slice rCop).rd (fun _ => True) w _ cs := Rp.any hl
  refine gives_of [.val (.slice p cs.length c)] 64 [.tmp 2] Tryz.func18 rfl rfl rfl (by simp) rfl rfl ?_
  refine W.pure (ds := []) rfl fun K1 hK1 => ?_
  simp only [sx, ty, Bool.false_eq_true, q1, q2, q5, q6, q7, q8, q9, qa, qb, reduceIte]; with_reducible refine hK1 _ ?_; clear hK1
  refine W.seqK fun K2 hK2 => ?_
  refine W.pure (ds := []) rfl fun K3 hK3 => ?_
  simp only [sx, ty, Bool.false_eq_true, q1, q2, q5, q6, q7, q8, q9, qa, qb, reduceIte]; with_reducible refine hK3 _ ?_; clear hK3
  refine W.cond rfl rfl (fun hc => ?_) (fun hc => ?_)
  · skip
    have h0 : decide (cs.length ≤ 200) = false := by simp at hc ⊢; omega
    refine W.pure (ds := []) rfl fun K4 hK4 => ?_
    simp only [sx, ty, Bool.false_eq_true, q1, q2, q5, q6, q7, q8, q9, qa, qb, reduceIte]; with_reducible refine hK4 _ ?_; clear hK4
    refine W.ret ⟨by simp, _, rfl, fun ρ w1 hb => ?_⟩
    simp only [den, validCs, h0, Bool.false_and]
  · skip
    have h0 : decide (cs.length ≤ 200) = true := by simp at hc ⊢; omega
    refine W.skip (hK2 _ ?_)
    refine W.seqK fun K5 hK5 => ?_
    refine W.pure (ds := []) rfl fun K6 hK6 => ?_
    simp only [sx, ty, Bool.false_eq_true, q1, q2, q5, q6, q7, q8, q9, qa, qb, reduceIte]; with_reducible refine hK6 _ ?_; clear hK6
    refine W.block ?_
    refine W.loopK (X := Nat) [0] (fun x => [(3, .val (.int .i64 x))]) (fun x => x ≤ cs.length ∧ (cs.take x).all validC = true ∧ ((cs.take x).map fun d : Cop => d.1).Nodup) (fun x => cs.length - x) 0 ?_ ?_ ?_
    · exact ⟨rfl, by simp [getE, bnd, keepE], ⟨[], by simp⟩, by simp [Own.bnd, bndL, bnd, boxO], by simp⟩
    · skip
      simp
    · rintro i ⟨hi, hall, hnd⟩
      simp only [sx, ty, Bool.false_eq_true, q1, q2, q5, q6, q7, q8, q9, qa, qb, reduceIte, sxk]
      refine W.seqK fun K7 hK7 => ?_
      refine W.pure (ds := []) rfl fun K8 hK8 => ?_
      simp only [sx, ty, Bool.false_eq_true, q1, q2, q5, q6, q7, q8, q9, qa, qb, reduceIte]; with_reducible refine hK8 _ ?_; clear hK8
      refine W.cond rfl rfl (fun hc => ?_) (fun hc => ?_)
      · skip
        have hlt : i < cs.length := by simpa using hc
        refine W.skip (hK7 _ ?_)
        refine W.seqK fun K9 hK9 => ?_
        refine W.block ?_
        refine W.seqK fun K10 hK10 => ?_
        refine W.join 47 (.val (.bool (!(within 1 1000000 cs[i].1 && within 1 1000000 cs[i].2.1 && within 1 1000000 cs[i].2.2.1 && within 0 99 cs[i].2.2.2)))) [0, 3] (W.region ?_) ?_
        · skip
          refine WO.go 2 (ds := [some 14, some 15, some 16, some 17, some 18, some 19, some 20, some 21, some 22, some 23, some 24, some 25, some 26, some 27, some 28, some 29, some 30, some 31, some 32, some 33, some 34, some 35, some 36, some 37, some 38, some 39, some 40, some 41, some 42, some 43, some 44, some 45, some 46, some 47]) rfl ?_
          simp only [sx, ty, Bool.false_eq_true, q1, q2, q5, q6, q7, q8, q9, qa, qb, reduceIte]
          refine WO.elemF (y := cs[i]) hl (by simp [St.put]) (ds := [some 14, some 15, some 16, some 17, some 18, some 19, some 20, some 21, some 22, some 23, some 24, some 25, some 26, some 27, some 28, some 29, some 30, some 31, some 32, some 33, some 34, some 35, some 36, some 37, some 38, some 39, some 40, some 41, some 42, some 43, some 44, some 45, some 46, some 47]) rfl rfl rfl (by simp [St.put]) (fun _ => rfl) rfl (by simp [St.put]) (fun _ _ => rfl) rfl rfl rfl rfl rfl rfl el23 fo45_0 agg3 sz3 (by decide) (.inr rfl) (by omega) (getIdx cs hlt) fun p q ces hces => ?_
          obtain rfl := rCop_open hces
          clear hces
          simp only [sx, ty, Bool.false_eq_true, q1, q2, q5, q6, q7, q8, q9, qa, qb, reduceIte]
          refine WO.call (.bool (within 1 1000000 cs[i].1)) (ds := [some 14, some 15, some 16, some 17, some 18, some 19, some 20, some 21, some 22, some 23, some 24, some 25, some 26, some 27, some 28, some 29, some 30, some 31, some 32, some 33, some 34, some 35, some 36, some 37, some 38, some 39, some 40, some 41, some 42, some 43, some 44, some 45, some 46, some 47]) rfl rfl rfl rfl co34 (fun ρ w1 hb => in_spec w1 _ _ _) ?_
          refine WO.go 2 (ds := [some 14, some 15, some 16, some 17, some 18, some 19, some 20, some 21, some 22, some 23, some 24, some 25, some 26, some 27, some 28, some 29, some 30, some 31, some 32, some 33, some 34, some 35, some 36, some 37, some 38, some 39, some 40, some 41, some 42, some 43, some 44, some 45, some 46, some 47]) rfl ?_
          simp only [sx, ty, Bool.false_eq_true, q1, q2, q5, q6, q7, q8, q9, qa, qb, reduceIte]
          refine WO.cases 21 _ rfl (fun hg21 => ?_) (fun hg21 => ?_)
          · skip
            have hg21 : within 1 1000000 cs[i].1 = false := by simpa using hg21
            refine WO.go 26 (ds := [some 14, some 15, some 16, some 17, some 18, some 19, some 20, some 21, some 22, some 23, some 24, some 25, some 26, some 27, some 28, some 29, some 30, some 31, some 32, some 33, some 34, some 35, some 36, some 37, some 38, some 39, some 40, some 41, some 42, some 43, some 44, some 45, some 46, some 47]) rfl ?_
            simp only [sx, ty, Bool.false_eq_true, q1, q2, q5, q6, q7, q8, q9, qa, qb, reduceIte]
            with_reducible refine WO.nil ?_
            refine ⟨rfl, ?_, ⟨_, rfl⟩, by simp [Own.bnd, bndL, bnd, boxO], by simp⟩
            try rw [hg21]
            try rw [hg30]
            try rw [hg39]
            simp [getE, bnd, keepE]
          · skip
            have hg21 : within 1 1000000 cs[i].1 = true := by simpa using hg21
            refine WO.go 2 (ds := [some 14, some 15, some 16, some 17, some 18, some 19, some 20, some 21, some 22, some 23, some 24, some 25, some 26, some 27, some 28, some 29, some 30, some 31, some 32, some 33, some 34, some 35, some 36, some 37, some 38, some 39, some 40, some 41, some 42, some 43, some 44, some 45, some 46, some 47]) rfl ?_
            simp only [sx, ty, Bool.false_eq_true, q1, q2, q5, q6, q7, q8, q9, qa, qb, reduceIte]
            refine WO.elemF (y := cs[i]) hl (by simp [St.put]) (ds := [some 14, some 15, some 16, some 17, some 18, some 19, some 20, some 21, some 22, some 23, some 24, some 25, some 26, some 27, some 28, some 29, some 30, some 31, some 32, some 33, some 34, some 35, some 36, some 37, some 38, some 39, some 40, some 41, some 42, some 43, some 44, some 45, some 46, some 47]) rfl rfl rfl (by simp [St.put]) (fun _ => rfl) rfl (by simp [St.put]) (fun _ _ => rfl) rfl rfl rfl rfl rfl rfl el23 fo45_1 agg3 sz3 (by decide) (.inr rfl) (by omega) (getIdx cs hlt) fun p q ces hces => ?_
            obtain rfl := rCop_open hces
            clear hces
            simp only [sx, ty, Bool.false_eq_true, q1, q2, q5, q6, q7, q8, q9, qa, qb, reduceIte]
            refine WO.call (.bool (within 1 1000000 cs[i].2.1)) (ds := [some 14, some 15, some 16, some 17, some 18, some 19, some 20, some 21, some 22, some 23, some 24, some 25, some 26, some 27, some 28, some 29, some 30, some 31, some 32, some 33, some 34, some 35, some 36, some 37, some 38, some 39, some 40, some 41, some 42, some 43, some 44, some 45, some 46, some 47]) rfl rfl rfl rfl co34 (fun ρ w1 hb => in_spec w1 _ _ _) ?_
            refine WO.go 3 (ds := [some 14, some 15, some 16, some 17, some 18, some 19, some 20, some 21, some 22, some 23, some 24, some 25, some 26, some 27, some 28, some 29, some 30, some 31, some 32, some 33, some 34, some 35, some 36, some 37, some 38, some 39, some 40, some 41, some 42, some 43, some 44, some 45, some 46, some 47]) rfl ?_
            simp only [sx, ty, Bool.false_eq_true, q1, q2, q5, q6, q7, q8, q9, qa, qb, reduceIte]
            refine WO.cases 30 _ rfl (fun hg30 => ?_) (fun hg30 => ?_)
            · skip
              have hg30 : within 1 1000000 cs[i].2.1 = false := by simpa using hg30
              refine WO.go 17 (ds := [some 14, some 15, some 16, some 17, some 18, some 19, some 20, some 21, some 22, some 23, some 24, some 25, some 26, some 27, some 28, some 29, some 30, some 31, some 32, some 33, some 34, some 35, some 36, some 37, some 38, some 39, some 40, some 41, some 42, some 43, some 44, some 45, some 46, some 47]) rfl ?_
              simp only [sx, ty, Bool.false_eq_true, q1, q2, q5, q6, q7, q8, q9, qa, qb, reduceIte]
              with_reducible refine WO.nil ?_
              refine ⟨rfl, ?_, ⟨_, rfl⟩, by simp [Own.bnd, bndL, bnd, boxO], by simp⟩
              try rw [hg21]
              try rw [hg30]
              try rw [hg39]
              simp [getE, bnd, keepE]
            · skip
              have hg30 : within 1 1000000 cs[i].2.1 = true := by simpa using hg30
              refine WO.go 2 (ds := [some 14, some 15, some 16, some 17, some 18, some 19, some 20, some 21, some 22, some 23, some 24, some 25, some 26, some 27, some 28, some 29, some 30, some 31, some 32, some 33, some 34, some 35, some 36, some 37, some 38, some 39, some 40, some 41, some 42, some 43, some 44, some 45, some 46, some 47]) rfl ?_
              simp only [sx, ty, Bool.false_eq_true, q1, q2, q5, q6, q7, q8, q9, qa, qb, reduceIte]
              refine WO.elemF (y := cs[i]) hl (by simp [St.put]) (ds := [some 14, some 15, some 16, some 17, some 18, some 19, some 20, some 21, some 22, some 23, some 24, some 25, some 26, some 27, some 28, some 29, some 30, some 31, some 32, some 33, some 34, some 35, some 36, some 37, some 38, some 39, some 40, some 41, some 42, some 43, some 44, some 45, some 46, some 47]) rfl rfl rfl (by simp [St.put]) (fun _ => rfl) rfl (by simp [St.put]) (fun _ _ => rfl) rfl rfl rfl rfl rfl rfl el23 fo45_2 agg3 sz3 (by decide) (.inr rfl) (by omega) (getIdx cs hlt) fun p q ces hces => ?_
              obtain rfl := rCop_open hces
              clear hces
              simp only [sx, ty, Bool.false_eq_true, q1, q2, q5, q6, q7, q8, q9, qa, qb, reduceIte]
              refine WO.call (.bool (within 1 1000000 cs[i].2.2.1)) (ds := [some 14, some 15, some 16, some 17, some 18, some 19, some 20, some 21, some 22, some 23, some 24, some 25, some 26, some 27, some 28, some 29, some 30, some 31, some 32, some 33, some 34, some 35, some 36, some 37, some 38, some 39, some 40, some 41, some 42, some 43, some 44, some 45, some 46, some 47]) rfl rfl rfl rfl co34 (fun ρ w1 hb => in_spec w1 _ _ _) ?_
              refine WO.go 3 (ds := [some 14, some 15, some 16, some 17, some 18, some 19, some 20, some 21, some 22, some 23, some 24, some 25, some 26, some 27, some 28, some 29, some 30, some 31, some 32, some 33, some 34, some 35, some 36, some 37, some 38, some 39, some 40, some 41, some 42, some 43, some 44, some 45, some 46, some 47]) rfl ?_
              simp only [sx, ty, Bool.false_eq_true, q1, q2, q5, q6, q7, q8, q9, qa, qb, reduceIte]
              refine WO.cases 39 _ rfl (fun hg39 => ?_) (fun hg39 => ?_)
              · skip
                have hg39 : within 1 1000000 cs[i].2.2.1 = false := by simpa using hg39
                refine WO.go 8 (ds := [some 14, some 15, some 16, some 17, some 18, some 19, some 20, some 21, some 22, some 23, some 24, some 25, some 26, some 27, some 28, some 29, some 30, some 31, some 32, some 33, some 34, some 35, some 36, some 37, some 38, some 39, some 40, some 41, some 42, some 43, some 44, some 45, some 46, some 47]) rfl ?_
                simp only [sx, ty, Bool.false_eq_true, q1, q2, q5, q6, q7, q8, q9, qa, qb, reduceIte]
                with_reducible refine WO.nil ?_
                refine ⟨rfl, ?_, ⟨_, rfl⟩, by simp [Own.bnd, bndL, bnd, boxO], by simp⟩
                try rw [hg21]
                try rw [hg30]
                try rw [hg39]
                simp [getE, bnd, keepE]
              · skip
                have hg39 : within 1 1000000 cs[i].2.2.1 = true := by simpa using hg39
                refine WO.go 2 (ds := [some 14, some 15, some 16, some 17, some 18, some 19, some 20, some 21, some 22, some 23, some 24, some 25, some 26, some 27, some 28, some 29, some 30, some 31, some 32, some 33, some 34, some 35, some 36, some 37, some 38, some 39, some 40, some 41, some 42, some 43, some 44, some 45, some 46, some 47]) rfl ?_
                simp only [sx, ty, Bool.false_eq_true, q1, q2, q5, q6, q7, q8, q9, qa, qb, reduceIte]
                refine WO.elemF (y := cs[i]) hl (by simp [St.put]) (ds := [some 14, some 15, some 16, some 17, some 18, some 19, some 20, some 21, some 22, some 23, some 24, some 25, some 26, some 27, some 28, some 29, some 30, some 31, some 32, some 33, some 34, some 35, some 36, some 37, some 38, some 39, some 40, some 41, some 42, some 43, some 44, some 45, some 46, some 47]) rfl rfl rfl (by simp [St.put]) (fun _ => rfl) rfl (by simp [St.put]) (fun _ _ => rfl) rfl rfl rfl rfl rfl rfl el23 fo45_3 agg3 sz3 (by decide) (.inr rfl) (by omega) (getIdx cs hlt) fun p q ces hces => ?_
                obtain rfl := rCop_open hces
                clear hces
                simp only [sx, ty, Bool.false_eq_true, q1, q2, q5, q6, q7, q8, q9, qa, qb, reduceIte]
                refine WO.call (.bool (within 0 99 cs[i].2.2.2)) (ds := [some 14, some 15, some 16, some 17, some 18, some 19, some 20, some 21, some 22, some 23, some 24, some 25, some 26, some 27, some 28, some 29, some 30, some 31, some 32, some 33, some 34, some 35, some 36, some 37, some 38, some 39, some 40, some 41, some 42, some 43, some 44, some 45, some 46, some 47]) rfl rfl rfl rfl co34 (fun ρ w1 hb => in_spec w1 _ _ _) ?_
                refine WO.go 2 (ds := [some 14, some 15, some 16, some 17, some 18, some 19, some 20, some 21, some 22, some 23, some 24, some 25, some 26, some 27, some 28, some 29, some 30, some 31, some 32, some 33, some 34, some 35, some 36, some 37, some 38, some 39, some 40, some 41, some 42, some 43, some 44, some 45, some 46, some 47]) rfl ?_
                simp only [sx, ty, Bool.false_eq_true, q1, q2, q5, q6, q7, q8, q9, qa, qb, reduceIte]
                with_reducible refine WO.nil ?_
                refine ⟨rfl, ?_, ⟨_, rfl⟩, by simp [Own.bnd, bndL, bnd, boxO], by simp⟩
                try rw [hg21]
                try rw [hg30]
                try rw [hg39]
                simp [getE, bnd, keepE]
        · simp only [sx, ty, Bool.false_eq_true, q1, q2, q5, q6, q7, q8, q9, qa, qb, reduceIte, sxk]
          refine W.cond rfl rfl (fun hc => ?_) (fun hc => ?_)
          · skip
            have hx := all_not validC cs hlt (by rwa [Bool.not_eq_true'] at hc)
            refine W.pure (ds := []) rfl fun K12 hK12 => ?_
            simp only [sx, ty, Bool.false_eq_true, q1, q2, q5, q6, q7, q8, q9, qa, qb, reduceIte]; with_reducible refine hK12 _ ?_; clear hK12
            refine W.ret ⟨by simp, _, rfl, fun ρ w1 hb => ?_⟩
            simp only [den, validCs, hx, Bool.and_false, Bool.false_and]
          · skip
            rw [Bool.not_eq_false'] at hc
            have hxi : validC cs[i] = true := hc
            refine W.skip (hK10 _ ?_)
            refine W.pure (ds := []) rfl fun K13 hK13 => ?_
            simp only [sx, ty, Bool.false_eq_true, q1, q2, q5, q6, q7, q8, q9, qa, qb, reduceIte]; with_reducible refine hK13 _ ?_; clear hK13
            refine W.block ?_
            refine W.loopK (X := Nat) [0, 3] (fun x => [(4, .val (.int .i64 x))]) (fun x => x ≤ i ∧ ∀ (j : Nat) (hj : j < cs.length), j < x → cs[j].1 ≠ cs[i].1) (fun x => i - x) 0 ?_ ?_ ?_
            · exact ⟨rfl, by simp [getE, bnd, keepE], ⟨[], by simp⟩, by simp [Own.bnd, bndL, bnd, boxO], by simp⟩
            · skip
              exact ⟨Nat.zero_le _, fun j hj h => by omega⟩
            · rintro k ⟨hk, hno⟩
              simp only [sx, ty, Bool.false_eq_true, q1, q2, q5, q6, q7, q8, q9, qa, qb, reduceIte, sxk]
              refine W.seqK fun K14 hK14 => ?_
              refine W.pure (ds := []) rfl fun K15 hK15 => ?_
              simp only [sx, ty, Bool.false_eq_true, q1, q2, q5, q6, q7, q8, q9, qa, qb, reduceIte]; with_reducible refine hK15 _ ?_; clear hK15
              refine W.cond rfl rfl (fun hc => ?_) (fun hc => ?_)
              · skip
                have hkl : k < i := by simpa using hc
                refine W.skip (hK14 _ ?_)
                refine W.seqK fun K16 hK16 => ?_
                refine W.block ?_
                refine W.seqK fun K17 hK17 => ?_
                refine W.regionQ mixed (by kernel_rfl) ?_
                refine WQ.go 2 (ds := []) rfl ?_
                simp only [sx, ty, Bool.false_eq_true, q1, q2, q5, q6, q7, q8, q9, qa, qb, reduceIte, sxq, Bool.false_eq_true]
                refine WQ.elemF (y := cs[k]) hl (by simp [St.put]) (ds := []) rfl rfl rfl (by simp [St.put]) (fun _ => rfl) rfl (by simp [St.put]) (fun _ _ => rfl) rfl rfl rfl rfl rfl rfl el23 fo45_0 agg3 sz3 (by decide) (.inr rfl) (by omega) (getIdx cs (by omega)) fun p q ces hces => ?_
                obtain rfl := rCop_open hces
                clear hces
                refine WQ.go 2 (ds := []) rfl ?_
                simp only [sx, ty, Bool.false_eq_true, q1, q2, q5, q6, q7, q8, q9, qa, qb, reduceIte, sxq, Bool.false_eq_true]
                refine WQ.elemF (y := cs[i]) hl (by simp [St.put]) (ds := []) rfl rfl rfl (by simp [St.put]) (fun _ => rfl) rfl (by simp [St.put]) (fun _ _ => rfl) rfl rfl rfl rfl rfl rfl el23 fo45_0 agg3 sz3 (by decide) (.inr rfl) (by omega) (getIdx cs hlt) fun p q ces hces => ?_
                obtain rfl := rCop_open hces
                clear hces
                refine WQ.go 1 (ds := []) rfl ?_
                simp only [sx, ty, Bool.false_eq_true, q1, q2, q5, q6, q7, q8, q9, qa, qb, reduceIte, sxq, Bool.false_eq_true]
                with_reducible refine WQ.nil ?_
                refine hK17 _ ?_; clear hK17
                refine W.cond rfl rfl (fun hc => ?_) (fun hc => ?_)
                · skip
                  have hx := nodup_not (fun d : Cop => d.1) cs hkl hlt (by simpa using hc)
                  refine W.pure (ds := []) rfl fun K18 hK18 => ?_
                  simp only [sx, ty, Bool.false_eq_true, q1, q2, q5, q6, q7, q8, q9, qa, qb, reduceIte]; with_reducible refine hK18 _ ?_; clear hK18
                  refine W.ret ⟨by simp, _, rfl, fun ρ w1 hb => ?_⟩
                  simp only [den, validCs, hx, Bool.and_false]
                · skip
                  have hx : cs[k].1 ≠ cs[i].1 := by simpa using hc
                  refine W.skip (hK16 _ ?_)
                  refine W.region ?_
                  refine WO.go 3 (ds := []) rfl ?_
                  simp only [sx, ty, Bool.false_eq_true, q1, q2, q5, q6, q7, q8, q9, qa, qb, reduceIte]
                  with_reducible refine WO.nil ?_
                  refine ⟨k + 1, ?_, by first | omega | (simp; omega), rfl, by simp [getE, bnd, keepE, wrap_succ (show k + 1 ≤ 9223372036854775807 by omega)], ⟨_, rfl⟩, by simp [Own.bnd, bndL, bnd, boxO], by simp⟩
                  refine ⟨hkl, fun j hj h => ?_⟩
                  rcases Nat.lt_succ_iff_lt_or_eq.1 h with h | rfl
                  · exact hno j hj h
                  · exact hx
              · skip
                have hke : k = i := by have : ¬ k < i := by simpa using hc
                                       omega
                subst hke
                refine W.exit (hK9 _ ?_)
                refine W.region ?_
                refine WO.go 3 (ds := []) rfl ?_
                simp only [sx, ty, Bool.false_eq_true, q1, q2, q5, q6, q7, q8, q9, qa, qb, reduceIte]
                with_reducible refine WO.nil ?_
                refine ⟨k + 1, ?_, by first | omega | (simp; omega), rfl, by simp [getE, bnd, keepE, wrap_succ (show k + 1 ≤ 9223372036854775807 by omega)], ⟨_, rfl⟩, by simp [Own.bnd, bndL, bnd, boxO], by simp⟩
                exact ⟨hlt, all_take validC cs hlt hall hxi, nodup_take _ cs hlt hnd hno⟩
      · skip
        refine W.exit (hK5 _ ?_)
        refine W.pure (ds := []) rfl fun K19 hK19 => ?_
        simp only [sx, ty, Bool.false_eq_true, q1, q2, q5, q6, q7, q8, q9, qa, qb, reduceIte]; with_reducible refine hK19 _ ?_; clear hK19
        refine W.ret ⟨by simp, _, rfl, fun ρ w1 hb => ?_⟩
        have hge : cs.length ≤ i := by simpa using hc
        rw [List.take_of_length_le hge] at hall hnd
        simp only [den, validCs, h0, hall, hnd, decide_true, Bool.true_and]
/-- function 7 -/
theorem rvalid_spec {S S2 : Nat → Prop} {w : World} {v u : Value} {ds : List Dem} {cs : List Cop} (hl : rDems.rd S w [v] ds) (hl2 : rCops.rd S2 w [u] cs) : Gives Tryz.prog 7 #[v, u] w fun r _ => r = .bool (valid ds cs) := by
  obtain ⟨p, c, rfl, hc1, hc2⟩ := Rp.slice_val hl
  obtain ⟨p2, c2, rfl, hc3, hc4⟩ := Rp.slice_val hl2
  have hl : (Rp.slice rDem).rd (fun _ => True) w _ ds := Rp.any hl
  have hl2 : (Rp.slice rCop).rd (fun _ => True) w _ cs := Rp.any hl2
  refine gives_of [.val (.slice p ds.length c), .val (.slice p2 cs.length c2)] 15 [.tmp 4] Tryz.func7 rfl rfl rfl (by simp) rfl rfl ?_
  refine W.pure (ds := []) rfl fun K1 hK1 => ?_
  simp only [sx, ty, Bool.false_eq_true, q1, q2, q5, q6, q7, q8, q9, qa, qb, reduceIte]; with_reducible refine hK1 _ ?_; clear hK1
  refine W.seqK fun K2 hK2 => W.region ?_
  refine WO.go 1 (ds := []) rfl ?_
  simp only [sx, ty, Bool.false_eq_true, q1, q2, q5, q6, q7, q8, q9, qa, qb, reduceIte]
  refine WO.call (.bool (validDs ds)) (ds := []) rfl rfl rfl rfl co22 (fun ρ w1 hb => rdemands_spec (Rp.now hl (hb.first (by simp)))) ?_
  refine WO.go 1 (ds := []) rfl ?_
  simp only [sx, ty, Bool.false_eq_true, q1, q2, q5, q6, q7, q8, q9, qa, qb, reduceIte]
  with_reducible refine WO.nil ?_
  refine hK2 _ ?_; clear hK2
  refine W.seqK fun K3 hK3 => W.region ?_
  refine WO.go 1 (ds := []) rfl ?_
  simp only [sx, ty, Bool.false_eq_true, q1, q2, q5, q6, q7, q8, q9, qa, qb, reduceIte]
  refine WO.call (.bool (validCs cs)) (ds := []) rfl rfl rfl rfl co18 (fun ρ w1 hb => rcopies_spec (Rp.now hl2 (hb.first (by simp)))) ?_
  refine WO.go 1 (ds := []) rfl ?_
  simp only [sx, ty, Bool.false_eq_true, q1, q2, q5, q6, q7, q8, q9, qa, qb, reduceIte]
  with_reducible refine WO.nil ?_
  refine hK3 _ ?_; clear hK3
  refine W.join 4 (.val (.bool (validDs ds && validCs cs))) [] (W.region ?_) ?_
  · skip
    refine WO.go 2 (ds := [some 11, some 12, some 13, some 14, some 4]) rfl ?_
    simp only [sx, ty, Bool.false_eq_true, q1, q2, q5, q6, q7, q8, q9, qa, qb, reduceIte]
    refine WO.cases 12 _ rfl (fun hg12 => ?_) (fun hg12 => ?_)
    · skip
      refine WO.go 3 (ds := [some 11, some 12, some 13, some 14, some 4]) rfl ?_
      simp only [sx, ty, Bool.false_eq_true, q1, q2, q5, q6, q7, q8, q9, qa, qb, reduceIte]
      with_reducible refine WO.nil ?_
      refine ⟨rfl, ?_, ⟨_, rfl⟩, by simp [Own.bnd, bndL, bnd, boxO], by simp⟩
      try rw [hg12]
      simp [getE, bnd, keepE]
    · skip
      refine WO.go 3 (ds := [some 11, some 12, some 13, some 14, some 4]) rfl ?_
      simp only [sx, ty, Bool.false_eq_true, q1, q2, q5, q6, q7, q8, q9, qa, qb, reduceIte]
      with_reducible refine WO.nil ?_
      refine ⟨rfl, ?_, ⟨_, rfl⟩, by simp [Own.bnd, bndL, bnd, boxO], by simp⟩
      try rw [hg12]
      simp [getE, bnd, keepE]
  · simp only [sx, ty, Bool.false_eq_true, q1, q2, q5, q6, q7, q8, q9, qa, qb, reduceIte, sxk]
    refine W.ret ⟨by simp, _, rfl, fun ρ w1 hb => ?_⟩
    rfl
def few (ds : List Dem) (cs : List Cop) : Bool := (ds.take 210).all (fun d => decide (d.2.2.2.length ≤ 20)) && decide (ds.length ≤ 210) && decide (cs.length ≤ 210)
/-- function 21 -/
theorem few_spec {S S2 : Nat → Prop} {w : World} {v u : Value} {ds : List Dem} {cs : List Cop} (hl : rDems.rd S w [v] ds) (hl2 : rCops.rd S2 w [u] cs) : Gives Tryz.prog 21 #[v, u] w fun r _ => r = .bool (few ds cs) := by
  obtain ⟨p, c, rfl, hc1, hc2⟩ := Rp.slice_val hl
  obtain ⟨p2, c2, rfl, hc3, hc4⟩ := Rp.slice_val hl2
  have hl : (Rp.slice rDem).rd (fun _ => True) w _ ds := Rp.any hl
  have hl2 : (Rp.slice rCop).rd (fun _ => True) w _ cs := Rp.any hl2
  refine gives_of [.val (.slice p ds.length c), .val (.slice p2 cs.length c2)] 31 [.tmp 4] Tryz.func21 rfl rfl rfl (by simp) rfl rfl ?_
  refine W.pure (ds := []) rfl fun K1 hK1 => ?_
  simp only [sx, ty, Bool.false_eq_true, q1, q2, q5, q6, q7, q8, q9, qa, qb, reduceIte]; with_reducible refine hK1 _ ?_; clear hK1
  refine W.seqK fun K2 hK2 => ?_
  refine W.pure (ds := []) rfl fun K3 hK3 => ?_
  simp only [sx, ty, Bool.false_eq_true, q1, q2, q5, q6, q7, q8, q9, qa, qb, reduceIte]; with_reducible refine hK3 _ ?_; clear hK3
  refine W.block ?_
  refine W.loopK (X := Nat) [0, 1] (fun x => [(5, .val (.int .i64 x))]) (fun x => x ≤ ds.length ∧ x ≤ 210 ∧ (ds.take x).all (fun d => decide (d.2.2.2.length ≤ 20)) = true) (fun x => ds.length - x) 0 ?_ ?_ ?_
  · exact ⟨rfl, by simp [getE, bnd, keepE], ⟨[], by simp⟩, by simp [Own.bnd, bndL, bnd, boxO], by simp⟩
  · skip
    simp
  · rintro i ⟨hi, hi2, hall⟩
    simp only [sx, ty, Bool.false_eq_true, q1, q2, q5, q6, q7, q8, q9, qa, qb, reduceIte, sxk]
    refine W.seqK fun K4 hK4 => ?_
    refine W.join 13 (.val (.bool (decide ((i : Int) < (ds.length : Int)) && decide ((i : Int) < 210)))) [0, 1, 5] (W.region ?_) ?_
    · skip
      refine WO.go 5 (ds := [some 6, some 7, some 8, some 9, some 10, some 11, some 12, some 13]) rfl ?_
      simp only [sx, ty, Bool.false_eq_true, q1, q2, q5, q6, q7, q8, q9, qa, qb, reduceIte]
      refine WO.cases 10 _ rfl (fun hg10 => ?_) (fun hg10 => ?_)
      · skip
        refine WO.go 3 (ds := [some 6, some 7, some 8, some 9, some 10, some 11, some 12, some 13]) rfl ?_
        simp only [sx, ty, Bool.false_eq_true, q1, q2, q5, q6, q7, q8, q9, qa, qb, reduceIte]
        with_reducible refine WO.nil ?_
        refine ⟨rfl, ?_, ⟨_, rfl⟩, by simp [Own.bnd, bndL, bnd, boxO], by simp⟩
        try rw [hg10]
        simp [getE, bnd, keepE]
      · skip
        refine WO.go 3 (ds := [some 6, some 7, some 8, some 9, some 10, some 11, some 12, some 13]) rfl ?_
        simp only [sx, ty, Bool.false_eq_true, q1, q2, q5, q6, q7, q8, q9, qa, qb, reduceIte]
        with_reducible refine WO.nil ?_
        refine ⟨rfl, ?_, ⟨_, rfl⟩, by simp [Own.bnd, bndL, bnd, boxO], by simp⟩
        try rw [hg10]
        simp [getE, bnd, keepE]
    · simp only [sx, ty, Bool.false_eq_true, q1, q2, q5, q6, q7, q8, q9, qa, qb, reduceIte, sxk]
      refine W.cond rfl rfl (fun hc => ?_) (fun hc => ?_)
      · skip
        simp only [Bool.and_eq_true, decide_eq_true_eq] at hc
        have hlt : i < ds.length := by omega
        have hlt2 : i < 210 := by omega
        refine W.skip (hK4 _ ?_)
        refine W.seqK fun K6 hK6 => ?_
        refine W.block ?_
        refine W.seqK fun K7 hK7 => W.region ?_
        refine WO.go 2 (ds := []) rfl ?_
        simp only [sx, ty, Bool.false_eq_true, q1, q2, q5, q6, q7, q8, q9, qa, qb, reduceIte]
        refine WO.elemF (y := ds[i]) hl (by simp [St.put]) (ds := []) rfl rfl rfl (by simp [St.put]) (fun _ => rfl) rfl (by simp [St.put]) (fun _ _ => rfl) rfl rfl rfl rfl rfl rfl el22 fo41_3 agg27 sz27 (by decide) (.inr rfl) (by omega) (getIdx ds hlt) fun p q ces hces => ?_
        obtain ⟨p2, c2, rfl, hed, hel⟩ := rDem_open hces
        refine WO.go 2 (ds := []) rfl ?_
        simp only [sx, ty, Bool.false_eq_true, q1, q2, q5, q6, q7, q8, q9, qa, qb, reduceIte]
        with_reducible refine WO.nil ?_
        refine hK7 _ ?_; clear hK7
        refine W.cond rfl rfl (fun hc => ?_) (fun hc => ?_)
        · skip
          have hx : (ds.take 210).all (fun d => decide (d.2.2.2.length ≤ 20)) = false := by
            rw [List.all_eq_false]
            exact ⟨ds[i], by rw [List.mem_take_iff_getElem]; exact ⟨i, by omega, rfl⟩, by simp at hc ⊢; omega⟩
          refine W.pure (ds := []) rfl fun K8 hK8 => ?_
          simp only [sx, ty, Bool.false_eq_true, q1, q2, q5, q6, q7, q8, q9, qa, qb, reduceIte]; with_reducible refine hK8 _ ?_; clear hK8
          refine W.ret ⟨by simp, _, rfl, fun ρ w1 hb => ?_⟩
          simp only [den, few, hx, Bool.false_and]
        · skip
          have hx : decide (ds[i].2.2.2.length ≤ 20) = true := by simp at hc ⊢; omega
          refine W.skip (hK6 _ ?_)
          refine W.region ?_
          refine WO.go 3 (ds := []) rfl ?_
          simp only [sx, ty, Bool.false_eq_true, q1, q2, q5, q6, q7, q8, q9, qa, qb, reduceIte]
          with_reducible refine WO.nil ?_
          refine ⟨i + 1, ?_, by first | omega | (simp; omega), rfl, by simp [getE, bnd, keepE, wrap_succ (show i + 1 ≤ 9223372036854775807 by omega)], ⟨_, rfl⟩, by simp [Own.bnd, bndL, bnd, boxO], by simp⟩
          exact ⟨hlt, hlt2, all_take _ ds hlt hall hx⟩
      · skip
        have hend : ds.take 210 = ds.take i := by
          simp only [Bool.and_eq_false_iff, decide_eq_false_iff_not] at hc
          by_cases h : i = 210
          · rw [h]
          · rw [List.take_of_length_le (show ds.length ≤ 210 by omega), List.take_of_length_le (show ds.length ≤ i by omega)]
        rw [← hend] at hall
        refine W.exit (hK2 _ ?_)
        refine W.join 4 (.val (.bool (decide ((ds.length : Int) ≤ 210) && decide ((cs.length : Int) ≤ 210)))) [] (W.region ?_) ?_
        · skip
          refine WO.go 4 (ds := [some 23, some 24, some 25, some 26, some 27, some 28, some 29, some 30, some 4]) rfl ?_
          simp only [sx, ty, Bool.false_eq_true, q1, q2, q5, q6, q7, q8, q9, qa, qb, reduceIte]
          refine WO.cases 26 _ rfl (fun hg26 => ?_) (fun hg26 => ?_)
          · skip
            refine WO.go 5 (ds := [some 23, some 24, some 25, some 26, some 27, some 28, some 29, some 30, some 4]) rfl ?_
            simp only [sx, ty, Bool.false_eq_true, q1, q2, q5, q6, q7, q8, q9, qa, qb, reduceIte]
            with_reducible refine WO.nil ?_
            refine ⟨rfl, ?_, ⟨_, rfl⟩, by simp [Own.bnd, bndL, bnd, boxO], by simp⟩
            try rw [hg26]
            simp [getE, bnd, keepE]
          · skip
            refine WO.go 5 (ds := [some 23, some 24, some 25, some 26, some 27, some 28, some 29, some 30, some 4]) rfl ?_
            simp only [sx, ty, Bool.false_eq_true, q1, q2, q5, q6, q7, q8, q9, qa, qb, reduceIte]
            with_reducible refine WO.nil ?_
            refine ⟨rfl, ?_, ⟨_, rfl⟩, by simp [Own.bnd, bndL, bnd, boxO], by simp⟩
            try rw [hg26]
            simp [getE, bnd, keepE]
        · simp only [sx, ty, Bool.false_eq_true, q1, q2, q5, q6, q7, q8, q9, qa, qb, reduceIte, sxk]
          refine W.ret ⟨by simp, _, rfl, fun ρ w1 hb => ?_⟩
          simp only [den, few, hall, Bool.true_and, Value.bool.injEq]
          congr 1 <;> (apply decide_eq_decide.2; omega)
end Go.Proofs.YtolmeekbjonbcaaGreat
set_option linter.unusedVariables false
set_option linter.unusedSimpArgs false
set_option maxHeartbeats 1000000
namespace Go.Proofs.YtolmeekbjonbcaaGreat
open Int renaming reduceEq → q1, reduceLT → q2, reduceBEq → q3, reduceBNe → q4
open Nat renaming reduceAdd → q5, reduceSub → q6, reduceMul → q7, reduceLT → q8, reduceLeDiff → q9, reduceEqDiff → qa
open List renaming reduceReplicate → qb
open Go Go.SX Go.RowKit
/-- function 11 -/
theorem same_spec {S S2 : Nat → Prop} {w : World} {v u : Value} {a b : List (List Int)} (hl : rRows.rd S w [v] a) (hl2 : rRows.rd S2 w [u] b) : Gives Tryz.prog 11 #[v, u] w fun r _ => r = .bool (decide (a = b)) := by
  obtain ⟨p, c, rfl, hc1, hc2⟩ := Rp.slice_val hl
  obtain ⟨p2, c2, rfl, hc3, hc4⟩ := Rp.slice_val hl2
  have hl : (Rp.slice rInts).rd (fun _ => True) w _ a := Rp.any hl
  have hl2 : (Rp.slice rInts).rd (fun _ => True) w _ b := Rp.any hl2
  refine gives_of [.val (.slice p a.length c), .val (.slice p2 b.length c2)] 53 [.tmp 4] Tryz.func11 rfl rfl rfl (by simp) rfl rfl ?_
  refine W.pure (ds := []) rfl fun K1 hK1 => ?_
  simp only [sx, ty, Bool.false_eq_true, q1, q2, q5, q6, q7, q8, q9, qa, qb, reduceIte]; with_reducible refine hK1 _ ?_; clear hK1
  refine W.seqK fun K2 hK2 => ?_
  refine W.pure (ds := []) rfl fun K3 hK3 => ?_
  simp only [sx, ty, Bool.false_eq_true, q1, q2, q5, q6, q7, q8, q9, qa, qb, reduceIte]; with_reducible refine hK3 _ ?_; clear hK3
  refine W.cond rfl rfl (fun hc => ?_) (fun hc => ?_)
  · skip
    have h0 : a.length ≠ b.length := by simp at hc; omega
    refine W.pure (ds := []) rfl fun K4 hK4 => ?_
    simp only [sx, ty, Bool.false_eq_true, q1, q2, q5, q6, q7, q8, q9, qa, qb, reduceIte]; with_reducible refine hK4 _ ?_; clear hK4
    refine W.ret ⟨by simp, _, rfl, fun ρ w1 hb => ?_⟩
    simp only [den, Value.bool.injEq]
    rw [eq_comm, decide_eq_false_iff_not]
    rintro rfl
    exact h0 rfl
  · skip
    have h0 : a.length = b.length := by simp at hc; omega
    refine W.skip (hK2 _ ?_)
    refine W.seqK fun K5 hK5 => ?_
    refine W.pure (ds := []) rfl fun K6 hK6 => ?_
    simp only [sx, ty, Bool.false_eq_true, q1, q2, q5, q6, q7, q8, q9, qa, qb, reduceIte]; with_reducible refine hK6 _ ?_; clear hK6
    refine W.block ?_
    refine W.loopK (X := Nat) [0, 1] (fun x => [(5, .val (.int .i64 x))]) (fun x => x ≤ a.length ∧ ∀ j, j < x → a[j]? = b[j]?) (fun x => a.length - x) 0 ?_ ?_ ?_
    · exact ⟨rfl, by simp [getE, bnd, keepE], ⟨[], by simp⟩, by simp [Own.bnd, bndL, bnd, boxO], by simp⟩
    · skip
      exact ⟨Nat.zero_le _, fun j h => by omega⟩
    · rintro i ⟨hi, hno⟩
      simp only [sx, ty, Bool.false_eq_true, q1, q2, q5, q6, q7, q8, q9, qa, qb, reduceIte, sxk]
      refine W.seqK fun K7 hK7 => ?_
      refine W.pure (ds := []) rfl fun K8 hK8 => ?_
      simp only [sx, ty, Bool.false_eq_true, q1, q2, q5, q6, q7, q8, q9, qa, qb, reduceIte]; with_reducible refine hK8 _ ?_; clear hK8
      refine W.cond rfl rfl (fun hc => ?_) (fun hc => ?_)
      · skip
        have hlt : i < a.length := by simpa using hc
        have hltb : i < b.length := by omega
        refine W.skip (hK7 _ ?_)
        refine W.seqK fun K9 hK9 => ?_
        refine W.block ?_
        refine W.seqK fun K10 hK10 => ?_
        refine W.seqK fun K11 hK11 => ?_
        refine W.regionQ mixed (by kernel_rfl) ?_
        refine WQ.go 2 (ds := []) rfl ?_
        simp only [sx, ty, Bool.false_eq_true, q1, q2, q5, q6, q7, q8, q9, qa, qb, reduceIte, sxq, Bool.false_eq_true]
        refine WQ.elem (y := a[i]) hl (by simp [St.put]) (ds := []) rfl rfl rfl (by simp [St.put]) (fun _ => rfl) rfl rfl rfl rfl rfl el36 agg27 sz27 (.inr rfl) (by omega) (getIdx a hlt) fun p ces hces => ?_
        obtain ⟨p5, c5, rfl, h5, h5c⟩ := rInts_open hces
        have hA5 : (Rp.slice rInt).rd (fun _ => True) w _ a[i] := hces
        clear hces
        refine WQ.go 3 (ds := []) rfl ?_
        simp only [sx, ty, Bool.false_eq_true, q1, q2, q5, q6, q7, q8, q9, qa, qb, reduceIte, sxq, Bool.false_eq_true]
        refine WQ.elem (y := b[i]) hl2 (by simp [St.put]) (ds := []) rfl rfl rfl (by simp [St.put]) (fun _ => rfl) rfl rfl rfl rfl rfl el36 agg27 sz27 (.inr rfl) (by omega) (getIdx b (by omega)) fun p ces hces => ?_
        obtain ⟨p6, c6, rfl, h6, h6c⟩ := rInts_open hces
        have hB6 : (Rp.slice rInt).rd (fun _ => True) w _ b[i] := hces
        clear hces
        refine WQ.go 2 (ds := []) rfl ?_
        simp only [sx, ty, Bool.false_eq_true, q1, q2, q5, q6, q7, q8, q9, qa, qb, reduceIte, sxq, Bool.false_eq_true]
        with_reducible refine WQ.nil ?_
        refine hK11 _ ?_; clear hK11
        refine W.cond rfl rfl (fun hc => ?_) (fun hc => ?_)
        · skip
          have hx : a[i] ≠ b[i] := by
            intro h
            rw [h] at hc
            simp at hc
          refine W.pure (ds := []) rfl fun K12 hK12 => ?_
          simp only [sx, ty, Bool.false_eq_true, q1, q2, q5, q6, q7, q8, q9, qa, qb, reduceIte]; with_reducible refine hK12 _ ?_; clear hK12
          refine W.ret ⟨by simp, _, rfl, fun ρ w1 hb => ?_⟩
          simp only [den, Value.bool.injEq]
          rw [eq_comm, decide_eq_false_iff_not]
          rintro rfl
          exact hx rfl
        · skip
          have hx : a[i].length = b[i].length := by simp at hc; omega
          refine W.skip (hK10 _ ?_)
          refine W.pure (ds := []) rfl fun K13 hK13 => ?_
          simp only [sx, ty, Bool.false_eq_true, q1, q2, q5, q6, q7, q8, q9, qa, qb, reduceIte]; with_reducible refine hK13 _ ?_; clear hK13
          refine W.block ?_
          refine W.loopK (X := Nat) [0, 1, 5] (fun x => [(6, .val (.int .i64 x))]) (fun x => x ≤ a[i].length ∧ ∀ j, j < x → a[i][j]? = b[i][j]?) (fun x => a[i].length - x) 0 ?_ ?_ ?_
          · exact ⟨rfl, by simp [getE, bnd, keepE], ⟨[], by simp⟩, by simp [Own.bnd, bndL, bnd, boxO], by simp⟩
          · skip
            exact ⟨Nat.zero_le _, fun j h => by omega⟩
          · rintro k ⟨hk, hno2⟩
            simp only [sx, ty, Bool.false_eq_true, q1, q2, q5, q6, q7, q8, q9, qa, qb, reduceIte, sxk]
            refine W.seqK fun K14 hK14 => ?_
            refine W.seqK fun K15 hK15 => W.region ?_
            refine WO.go 3 (ds := []) rfl ?_
            simp only [sx, ty, Bool.false_eq_true, q1, q2, q5, q6, q7, q8, q9, qa, qb, reduceIte]
            refine WO.elem (y := a[i]) hl (by simp [St.put]) (ds := []) rfl rfl rfl (by simp [St.put]) (fun _ => rfl) rfl rfl rfl rfl rfl el36 agg27 sz27 (.inr rfl) (by omega) (getIdx a hlt) fun p ces hces => ?_
            obtain ⟨p5, c5, rfl, h5, h5c⟩ := rInts_open hces
            have hA5 : (Rp.slice rInt).rd (fun _ => True) w _ a[i] := hces
            clear hces
            refine WO.go 2 (ds := []) rfl ?_
            simp only [sx, ty, Bool.false_eq_true, q1, q2, q5, q6, q7, q8, q9, qa, qb, reduceIte]
            with_reducible refine WO.nil ?_
            refine hK15 _ ?_; clear hK15
            refine W.cond rfl rfl (fun hc => ?_) (fun hc => ?_)
            · skip
              have hkl : k < a[i].length := by simpa using hc
              clear hA5
              refine W.skip (hK14 _ ?_)
              refine W.seqK fun K16 hK16 => ?_
              refine W.block ?_
              refine W.seqK fun K17 hK17 => ?_
              refine W.regionQ mixed (by kernel_rfl) ?_
              refine WQ.go 2 (ds := []) rfl ?_
              simp only [sx, ty, Bool.false_eq_true, q1, q2, q5, q6, q7, q8, q9, qa, qb, reduceIte, sxq, Bool.false_eq_true]
              refine WQ.elem (y := a[i]) hl (by simp [St.put]) (ds := []) rfl rfl rfl (by simp [St.put]) (fun _ => rfl) rfl rfl rfl rfl rfl el36 agg27 sz27 (.inr rfl) (by omega) (getIdx a hlt) fun p ces hces => ?_
              obtain ⟨p5, c5, rfl, h5, h5c⟩ := rInts_open hces
              have hA5 : (Rp.slice rInt).rd (fun _ => True) w _ a[i] := hces
              clear hces
              refine WQ.go 1 (ds := []) rfl ?_
              simp only [sx, ty, Bool.false_eq_true, q1, q2, q5, q6, q7, q8, q9, qa, qb, reduceIte, sxq, Bool.false_eq_true]
              refine WQ.elem (y := a[i][k]) hA5 (by simp [St.put]) (ds := []) rfl rfl rfl (by simp [St.put]) (fun _ => rfl) rfl rfl rfl rfl rfl el27 agg3 sz3 (.inr rfl) (by omega) (getIdx a[i] hkl) fun p ces hces => ?_
              obtain rfl := rInt_open hces
              clear hces
              refine WQ.go 2 (ds := []) rfl ?_
              simp only [sx, ty, Bool.false_eq_true, q1, q2, q5, q6, q7, q8, q9, qa, qb, reduceIte, sxq, Bool.false_eq_true]
              refine WQ.elem (y := b[i]) hl2 (by simp [St.put]) (ds := []) rfl rfl rfl (by simp [St.put]) (fun _ => rfl) rfl rfl rfl rfl rfl el36 agg27 sz27 (.inr rfl) (by omega) (getIdx b (by omega)) fun p ces hces => ?_
              obtain ⟨p6, c6, rfl, h6, h6c⟩ := rInts_open hces
              have hB6 : (Rp.slice rInt).rd (fun _ => True) w _ b[i] := hces
              clear hces
              refine WQ.go 1 (ds := []) rfl ?_
              simp only [sx, ty, Bool.false_eq_true, q1, q2, q5, q6, q7, q8, q9, qa, qb, reduceIte, sxq, Bool.false_eq_true]
              refine WQ.elem (y := b[i][k]) hB6 (by simp [St.put]) (ds := []) rfl rfl rfl (by simp [St.put]) (fun _ => rfl) rfl rfl rfl rfl rfl el27 agg3 sz3 (.inr rfl) (by omega) (getIdx b[i] (by omega)) fun p ces hces => ?_
              obtain rfl := rInt_open hces
              clear hces
              refine WQ.go 1 (ds := []) rfl ?_
              simp only [sx, ty, Bool.false_eq_true, q1, q2, q5, q6, q7, q8, q9, qa, qb, reduceIte, sxq, Bool.false_eq_true]
              with_reducible refine WQ.nil ?_
              refine hK17 _ ?_; clear hK17
              refine W.cond rfl rfl (fun hc => ?_) (fun hc => ?_)
              · skip
                have hy : a[i][k] ≠ b[i][k] := by simpa using hc
                refine W.pure (ds := []) rfl fun K18 hK18 => ?_
                simp only [sx, ty, Bool.false_eq_true, q1, q2, q5, q6, q7, q8, q9, qa, qb, reduceIte]; with_reducible refine hK18 _ ?_; clear hK18
                refine W.ret ⟨by simp, _, rfl, fun ρ w1 hb => ?_⟩
                simp only [den, Value.bool.injEq]
                rw [eq_comm, decide_eq_false_iff_not]
                rintro rfl
                exact hy rfl
              · skip
                have hy : a[i][k] = b[i][k] := by simpa using hc
                refine W.skip (hK16 _ ?_)
                refine W.region ?_
                refine WO.go 3 (ds := []) rfl ?_
                simp only [sx, ty, Bool.false_eq_true, q1, q2, q5, q6, q7, q8, q9, qa, qb, reduceIte]
                with_reducible refine WO.nil ?_
                refine ⟨k + 1, ?_, by first | omega | (simp; omega), rfl, by simp [getE, bnd, keepE, wrap_succ (show k + 1 ≤ 9223372036854775807 by omega)], ⟨_, rfl⟩, by simp [Own.bnd, bndL, bnd, boxO], by simp⟩
                refine ⟨hkl, fun j h => ?_⟩
                rcases Nat.lt_succ_iff_lt_or_eq.1 h with h | rfl
                · exact hno2 j h
                · rw [getIdx a[i] hkl, getIdx b[i] (by omega), hy]
            · skip
              have hke : k = a[i].length := by simp at hc; omega
              refine W.exit (hK9 _ ?_)
              refine W.region ?_
              refine WO.go 3 (ds := []) rfl ?_
              simp only [sx, ty, Bool.false_eq_true, q1, q2, q5, q6, q7, q8, q9, qa, qb, reduceIte]
              with_reducible refine WO.nil ?_
              refine ⟨i + 1, ?_, by first | omega | (simp; omega), rfl, by simp [getE, bnd, keepE, wrap_succ (show i + 1 ≤ 9223372036854775807 by omega)], ⟨_, rfl⟩, by simp [Own.bnd, bndL, bnd, boxO], by simp⟩
              refine ⟨hlt, fun j h => ?_⟩
              rcases Nat.lt_succ_iff_lt_or_eq.1 h with h | rfl
              · exact hno j h
              · rw [getIdx a hlt, getIdx b hltb]
                congr 1
                apply List.ext_getElem?
                intro q
                rcases Nat.lt_or_ge q k with hq | hq
                · exact hno2 q hq
                · rw [List.getElem?_eq_none (by omega), List.getElem?_eq_none (by omega)]
      · skip
        refine W.exit (hK5 _ ?_)
        refine W.pure (ds := []) rfl fun K19 hK19 => ?_
        simp only [sx, ty, Bool.false_eq_true, q1, q2, q5, q6, q7, q8, q9, qa, qb, reduceIte]; with_reducible refine hK19 _ ?_; clear hK19
        refine W.ret ⟨by simp, _, rfl, fun ρ w1 hb => ?_⟩
        have hge : a.length ≤ i := by simpa using hc
        simp only [den, Value.bool.injEq]
        rw [eq_comm, decide_eq_true_eq]
        apply List.ext_getElem?
        intro q
        rcases Nat.lt_or_ge q i with hq | hq
        · exact hno q hq
        · rw [List.getElem?_eq_none (by omega), List.getElem?_eq_none (by omega)]
end Go.Proofs.YtolmeekbjonbcaaGreat
set_option linter.unusedVariables false
set_option linter.unusedSimpArgs false
set_option maxHeartbeats 1000000
namespace Go.Proofs.YtolmeekbjonbcaaGreat
open Int renaming reduceEq → q1, reduceLT → q2, reduceBEq → q3, reduceBNe → q4
open Nat renaming reduceAdd → q5, reduceSub → q6, reduceMul → q7, reduceLT → q8, reduceLeDiff → q9, reduceEqDiff → qa
open List renaming reduceReplicate → qb
open Go Go.SX Go.RowKit
def OI (l : List Int) (x : Option Addr × Nat) : SX.Own := .slice 3 1 (.slice x.1 l.length x.2) l.length (l.map (.int .i64))
def OIN (n : Nat) (l : List Int) (x : Option Addr × Nat) : SX.Own := .slice 3 1 (.slice x.1 n x.2) n (l.map (.int .i64))
def OBs (n : Nat) (l : List Bool) (x : Option Addr × Nat) : SX.Own := .slice 4 1 (.slice x.1 n x.2) n (l.map .bool)
theorem own_elem_at {ρ : Nat → Nat} {σ : St} {w : World} {k b n c i : Nat} {T : TypeId} {xs : List Value} {y : Value} (hb : Base ρ σ w) (hk : nth σ.own k = some (.slice T 1 (.slice (some ⟨b, 0, none⟩) n c) n xs)) (h : xs[i]? = some y) : At w ((⟨b, 0, none⟩ : Addr).add (i * 1)) [y] := by
  have := row_at (off := i * 1) (m := 1) hb hk (take_one _ i _ h)
  rw [Addr.add_mid]; simpa using this
theorem map_get {α β : Type} (f : α → β) {l : List α} {i : Nat} {x : α} (h : l[i]? = some x) : (l.map f)[i]? = some (f x) := by rw [List.getElem?_map, h]; rfl
theorem len_lt {α : Type} {l : List α} {i n : Nat} (h : l.length = n) (hi : i < n) : ∃ x, l[i]? = some x := ⟨_, List.getElem?_eq_getElem (by omega)⟩
/-- the blocks of a search: the box of met, met's cells, owner's cells, seen's cells -/
def ownF (n bm : Nat) (x po ps : Option Addr × Nat) (s : Fst) : List SX.Own := [boxO 27 bm [.slice x.1 s.met.length x.2], OI s.met x, OIN n s.owner po, OBs n s.seen ps]
theorem argsCap2 (u v : Value) (caps : Array Value) : (u :: v :: caps.toList).toArray = #[u, v] ++ caps := by
  cases caps; simp
/-- the rest of the columns -/
theorem range_drop {n k : Nat} (h : k < n) : (List.range n).drop k = k :: (List.range n).drop (k + 1) := by
  rw [List.drop_eq_getElem_cons (by simpa using h)]; simp
theorem lookF_no {rec : Int → Fst → Bool × Fst} {can : Int → Nat → Bool} {row : Int} {k : Nat} {s : Fst} {v : Bool} (hv : s.seen[k]? = some v) (h : (v || !can row k) = true) : lookF rec can row k s = (false, s) := by
  unfold lookF; rw [getD_some hv, if_pos h]
theorem lookF_free {rec : Int → Fst → Bool × Fst} {can : Int → Nat → Bool} {row : Int} {k : Nat} {s : Fst} {v : Bool} {o : Int} (hv : s.seen[k]? = some v) (h : ¬ (v || !can row k) = true) (ho : s.owner[k]? = some o) (h0 : o < 0) : lookF rec can row k s = (true, ⟨s.owner.set k row, s.seen.set k true, s.met⟩) := by
  unfold lookF; rw [getD_some hv, if_neg h, getD_some ho, if_pos h0]
theorem lookF_rec {rec : Int → Fst → Bool × Fst} {can : Int → Nat → Bool} {row : Int} {k : Nat} {s : Fst} {v : Bool} {o : Int} (hv : s.seen[k]? = some v) (h : ¬ (v || !can row k) = true) (ho : s.owner[k]? = some o) (h0 : ¬ o < 0) :
    lookF rec can row k s = match rec o ⟨s.owner, s.seen.set k true, s.met⟩ with
      | (true, t) => (true, ⟨t.owner.set k row, t.seen, t.met⟩)
      | (false, t) => (false, t) := by
  unfold lookF; rw [getD_some hv, if_neg h, getD_some ho, if_neg h0]; rfl
theorem stepsF_no {step : Nat → Fst → Bool × Fst} {k : Nat} {ks : List Nat} {s t : Fst} (h : step k s = (false, t)) : stepsF step (k :: ks) s = stepsF step ks t := by rw [stepsF, h]
theorem stepsF_yes {step : Nat → Fst → Bool × Fst} {k : Nat} {ks : List Nat} {s t : Fst} (h : step k s = (true, t)) : stepsF step (k :: ks) s = (true, t) := by rw [stepsF, h]
structure LoopF (can : Int → Nat → Bool) (f R n : Nat) (row : Int) (fin : Bool × Fst) (k : Nat) (t : Fst) : Prop where
  le : k ≤ n
  ok : FOk R n t
  mea : mea t ≤ 1001
  un : unseen t ≤ f
  eq : fin = stepsF (lookF (findF can f) can row) ((List.range n).drop k) t
/-- function 70 -/
theorem find_spec {can : Int → Nat → Bool} {R n : Nat} {K : FuncId} {caps : Array Value} (hKc : callOk Tryz.prog K = true) {w0 : World} {Sc : Nat → Prop} (hSb : ∀ b, Sc b → b < w0.heap.size)
    (hcan : ∀ w1, Keep Sc w0 w1 → ∀ (row : Int) (k : Nat), 0 ≤ row → row < R → k < n → Gives Tryz.prog K (#[.int .i64 row, .int .i64 k] ++ caps) w1 fun r _ => r = .bool (can row k))
    {a2 a3 a4 a5 : Addr} {bm co cs : Nat} {qo qs : Option Addr} (h2 : At w0 a2 [.slice qo n co]) (h3 : At w0 a3 [.slice qs n cs]) (h4 : At w0 a4 [.func (.func K) #[] caps]) (h5 : At w0 a5 [.func (.func 70) #[] #[.pointer (some ⟨bm, 0, none⟩), .pointer (some a2), .pointer (some a3), .pointer (some a4), .pointer (some a5)]])
    (h2s : Sc a2.block) (h3s : Sc a3.block) (h4s : Sc a4.block) (h5s : Sc a5.block) (hn2 : n ≤ 200) : ∀ (f : Nat) (row : Int) (s : Fst) (pm : Option Addr × Nat) (w : World), Keep Sc w0 w → 0 ≤ row → row < R → FOk R n s → unseen s < f → mea s ≤ 1000 →
    (∀ b, Sc b → ¬ ofOwn (ownF n bm pm (qo, co) (qs, cs) s) b) → Lie (ownF n bm pm (qo, co) (qs, cs) s) w → GivesB Tryz.prog 70 #[.int .i64 row, .pointer (some ⟨bm, 0, none⟩), .pointer (some a2), .pointer (some a3), .pointer (some a4), .pointer (some a5)] w (ofOwn (ownF n bm pm (qo, co) (qs, cs) s)) fun r w' =>
      ∃ x, r = .bool (findF can f row s).1 ∧ TurnL (ownF n bm pm (qo, co) (qs, cs) s) (ownF n bm x (qo, co) (qs, cs) (findF can f row s).2) w w' := by
  intro f
  induction f with
  | zero => intro row s pm w _ _ _ _ h; omega
  | succ f ih =>
  intro row s pm w kw hr0 hrR hok hun hmea hno hlie
  have h2w := h2.frame (kw.block _ h2s (hSb _ h2s))
  have h3w := h3.frame (kw.block _ h3s (hSb _ h3s))
  have h4w := h4.frame (kw.block _ h4s (hSb _ h4s))
  have h5w := h5.frame (kw.block _ h5s (hSb _ h5s))
  have h2z := Nat.lt_of_lt_of_le (hSb _ h2s) kw.size
  have h3z := Nat.lt_of_lt_of_le (hSb _ h3s) kw.size
  have h4z := Nat.lt_of_lt_of_le (hSb _ h4s) kw.size
  have h5z := Nat.lt_of_lt_of_le (hSb _ h5s) kw.size
  have hml : s.met.length ≤ 1000 := by simp only [mea] at hmea; omega
  obtain ⟨fin, hfin⟩ : ∃ fin, findF can (f + 1) row s = fin := ⟨_, rfl⟩
  have hfin0 : fin = stepsF (lookF (findF can f) can row) (List.range n) ⟨s.owner, s.seen, s.met ++ [row]⟩ := by rw [← hfin, findF, hok.ol]
  rw [hfin]
  refine givesL_of (ownF n bm pm (qo, co) (qs, cs) s) [.val (.int .i64 row), .val (.pointer (some ⟨bm, 0, none⟩)), .val (.pointer (some a2)), .val (.pointer (some a3)), .val (.pointer (some a4)), .val (.pointer (some a5))] 50 [.tmp 7] Tryz.func70 rfl rfl rfl (by simp) rfl rfl rfl hlie ?_
  refine W.ownIs [boxO 27 bm [.slice pm.1 s.met.length pm.2], OI s.met pm, OIN n s.owner (qo, co), OBs n s.seen (qs, cs)] rfl ?_
  refine W.pure (ds := []) rfl fun K1 hK1 => ?_
  simp only [sx, ty, q1, q2, q5, q6, q7, q8, q9, qa, qb, reduceIte, sy, q3, q4]; with_reducible refine hK1 _ ?_; clear hK1
  refine W.seqK fun K2 hK2 => W.region ?_
  refine WO.loadBox (k := 0) (i := 0) (sz := 1) rfl (ds := []) rfl rfl rfl rfl rfl (by simp [Addr.add_mid]) (by simp) agg27 sz27 (.inr rfl) ?_
  simp only [List.drop_succ_cons, List.drop_zero, List.take_succ_cons, List.take_zero, ofCells, Bool.false_eq_true, if_false, List.headD_cons]
  refine WO.go 2 (ds := []) rfl ?_
  simp only [sx, ty, q1, q2, q5, q6, q7, q8, q9, qa, qb, reduceIte, sy, q3, q4]
  refine WO.append (k := 1) (m := 1) [.int .i64 row] (ds := []) rfl rfl rfl rfl rfl rfl rfl ek27 (news_own (k2 := 4) rfl fun _ => rfl) rfl (by simp [Value.oneCell']) (by rw [maxLen_eq]; omega) (by omega) fun p6 c6 => ?_
  simp only [sx, ty, q1, q2, q5, q6, q7, q8, q9, qa, qb, reduceIte, sy, q3, q4]
  refine WO.storeBox (k := 0) (i := 0) rfl (ds := []) rfl rfl rfl rfl rfl (by simp [Addr.add_mid]) (by simp) rfl rfl sz27 ?_
  simp only [sx, ty, q1, q2, q5, q6, q7, q8, q9, qa, qb, reduceIte, sy, q3, q4]
  with_reducible refine WO.nil ?_
  refine hK2 _ ?_; clear hK2
  refine W.seqK fun K3 hK3 => ?_
  refine W.seqK fun K4 hK4 => W.region ?_
  refine WO.q (ds := []) rfl rfl rfl (QR.load [.slice qo n co] false rfl rfl agg27 sz27 (.inr rfl) (fun ρ w1 hb => h2w.now (S := fun b => ¬ ofOwn (ownF n bm pm (qo, co) (qs, cs) s) b) hb (by simp [St.put]) (hno _ h2s) h2z)) ?_
  simp only [List.drop_succ_cons, List.drop_zero, List.take_succ_cons, List.take_zero, ofCells, Bool.false_eq_true, if_false, List.headD_cons]
  refine WO.go 2 (ds := []) rfl ?_
  simp only [sx, ty, q1, q2, q5, q6, q7, q8, q9, qa, qb, reduceIte, sy, q3, q4]
  with_reducible refine WO.nil ?_
  refine hK4 _ ?_; clear hK4
  refine W.block ?_
  refine W.loopO (X := Nat × Fst × Option Addr × Nat) [0, 2, 3, 4, 5, 14] (fun x => [(15, .val (.int .i64 x.1))]) (fun x => [boxO 27 bm [.slice x.2.2.1 x.2.1.met.length x.2.2.2], OI x.2.1.met x.2.2, OIN n x.2.1.owner (qo, co), OBs n x.2.1.seen (qs, cs)]) (fun x => [((fun b => ¬ ofOwn (ownF n bm pm (qo, co) (qs, cs) s) b), w)]) (fun x => LoopF can f R n row fin x.1 x.2.1) (fun x => n - x.1) (0, ⟨s.owner, s.seen, s.met ++ [row]⟩, p6, c6) ?_ ?_ ?_
  · exact ⟨rfl, by simp [getE, bnd, keepE], ⟨[.cells 3 [.val (.int .i64 row)]], by simp [OI, boxO]⟩, by simp [Own.bnd, bndL, bnd, boxO, OI, OIN, OBs], by simp⟩
  · skip
    exact ⟨Nat.zero_le _, hok.same _ hok.sl _, by simp only [mea, unseen, List.length_append, List.length_singleton] at hmea ⊢; omega, by simp only [unseen] at hun ⊢; omega, hfin0⟩
  · rintro ⟨k, t, p3⟩ hL
    simp only at hL
    have hkn := hL.le
    have htol := hL.ok.ol
    have htsl := hL.ok.sl
    simp only [sx, ty, q1, q2, q5, q6, q7, q8, q9, qa, qb, reduceIte, sxk, sy, q3, q4]
    refine W.pure (ds := []) rfl fun K5 hK5 => ?_
    simp only [sx, ty, q1, q2, q5, q6, q7, q8, q9, qa, qb, reduceIte, sy, q3, q4]; with_reducible refine hK5 _ ?_; clear hK5
    refine W.seqK fun K6 hK6 => ?_
    refine W.cond rfl rfl (fun hc => ?_) (fun hc => ?_)
    · skip
      have hlt : k < n := by simpa using hc
      obtain ⟨v, hv⟩ := len_lt htsl hlt
      obtain ⟨o, ho⟩ := len_lt htol hlt
      refine W.skip (hK6 _ ?_)
      refine W.seqK fun K7 hK7 => ?_
      refine W.block ?_
      refine W.pure (ds := []) rfl fun K8 hK8 => ?_
      simp only [sx, ty, q1, q2, q5, q6, q7, q8, q9, qa, qb, reduceIte, sy, q3, q4]; with_reducible refine hK8 _ ?_; clear hK8
      refine W.seqK fun K9 hK9 => ?_
      refine W.ownAddr (k := 2) rfl (by omega) fun b2 hb2 => ?_
      simp only at hb2
      subst hb2
      refine W.ownAddr (k := 3) rfl (by omega) fun b3 hb3 => ?_
      simp only at hb3
      subst hb3
      refine W.join 28 (.val (.bool (v || !can row k))) [0, 2, 3, 4, 5, 8, 14, 15] (W.region ?_) ?_
      · skip
        refine WO.q (ds := [some 18, some 19, some 20, some 21, some 22, some 23, some 24, some 25, some 26, some 27, some 28]) rfl rfl rfl (QR.load [.slice (some ⟨b3, 0, none⟩) n cs] false rfl rfl agg71 sz71 (.inr rfl) (fun ρ w1 hb => h3w.now (S := fun b => ¬ ofOwn (ownF n bm pm (some ⟨b2, 0, none⟩, co) (some ⟨b3, 0, none⟩, cs) s) b) hb (by simp [St.put]) (hno _ h3s) h3z)) ?_
        simp only [List.drop_succ_cons, List.drop_zero, List.take_succ_cons, List.take_zero, ofCells, Bool.false_eq_true, if_false, List.headD_cons]
        refine WO.go 1 (ds := [some 18, some 19, some 20, some 21, some 22, some 23, some 24, some 25, some 26, some 27, some 28]) rfl ?_
        simp only [sx, ty, q1, q2, q5, q6, q7, q8, q9, qa, qb, reduceIte, sy, q3, q4]
        refine WO.q (ds := [some 18, some 19, some 20, some 21, some 22, some 23, some 24, some 25, some 26, some 27, some 28]) rfl rfl rfl (QR.idx rfl rfl rfl el71 (by omega) (by omega)) ?_
        refine WO.q (ds := [some 18, some 19, some 20, some 21, some 22, some 23, some 24, some 25, some 26, some 27, some 28]) rfl rfl rfl (QR.load [Value.bool v] false rfl rfl agg4 sz4 (.inr rfl) (fun ρ w1 hb => own_elem_at (k := 3) (i := k) hb rfl (map_get (Value.bool) hv))) ?_
        simp only [List.drop_succ_cons, List.drop_zero, List.take_succ_cons, List.take_zero, ofCells, Bool.false_eq_true, if_false, List.headD_cons]
        refine WO.go 1 (ds := [some 18, some 19, some 20, some 21, some 22, some 23, some 24, some 25, some 26, some 27, some 28]) rfl ?_
        simp only [sx, ty, q1, q2, q5, q6, q7, q8, q9, qa, qb, reduceIte, sy, q3, q4]
        refine WO.cases 22 _ rfl (fun hg22 => ?_) (fun hg22 => ?_)
        · skip
          refine WO.go 6 (ds := [some 18, some 19, some 20, some 21, some 22, some 23, some 24, some 25, some 26, some 27, some 28]) rfl ?_
          simp only [sx, ty, q1, q2, q5, q6, q7, q8, q9, qa, qb, reduceIte, sy, q3, q4]
          with_reducible refine WO.nil ?_
          refine ⟨rfl, ?_, ⟨_, rfl⟩, by simp [Own.bnd, bndL, bnd, boxO, OI, OIN, OBs], by simp⟩
          try rw [hg22]
          simp [getE, bnd, keepE]
        · skip
          refine WO.q (ds := [some 18, some 19, some 20, some 21, some 22, some 23, some 24, some 25, some 26, some 27, some 28]) rfl rfl rfl (QR.load [.func (.func K) #[] caps] false rfl rfl agg88 sz88 (.inr rfl) (fun ρ w1 hb => h4w.now (S := fun b => ¬ ofOwn (ownF n bm pm (some ⟨b2, 0, none⟩, co) (some ⟨b3, 0, none⟩, cs) s) b) hb (by simp [St.put]) (hno _ h4s) h4z)) ?_
          simp only [List.drop_succ_cons, List.drop_zero, List.take_succ_cons, List.take_zero, ofCells, Bool.false_eq_true, if_false, List.headD_cons]
          refine WO.go 2 (ds := [some 18, some 19, some 20, some 21, some 22, some 23, some 24, some 25, some 26, some 27, some 28]) rfl ?_
          simp only [sx, ty, q1, q2, q5, q6, q7, q8, q9, qa, qb, reduceIte, sy, q3, q4]
          refine WO.call (.bool (can row k)) (ds := [some 18, some 19, some 20, some 21, some 22, some 23, some 24, some 25, some 26, some 27, some 28]) rfl rfl rfl rfl hKc (fun ρ w1 hb => by have := hcan w1 (kw.trans ((hb.at (by simp [St.put])).mono fun b hS _ => hno b hS)) row k hr0 hrR hlt; rw [← argsCap2] at this; simpa [denL_eq, den, Function.comp_def] using this) ?_
          refine WO.go 2 (ds := [some 18, some 19, some 20, some 21, some 22, some 23, some 24, some 25, some 26, some 27, some 28]) rfl ?_
          simp only [sx, ty, q1, q2, q5, q6, q7, q8, q9, qa, qb, reduceIte, sy, q3, q4]
          with_reducible refine WO.nil ?_
          refine ⟨rfl, ?_, ⟨_, rfl⟩, by simp [Own.bnd, bndL, bnd, boxO, OI, OIN, OBs], by simp⟩
          try rw [hg22]
          simp [getE, bnd, keepE]
      · simp only [sx, ty, q1, q2, q5, q6, q7, q8, q9, qa, qb, reduceIte, sxk, sy, q3, q4]
        refine W.cond rfl rfl (fun hc => ?_) (fun hc => ?_)
        · skip
          have hsk : (v || !can row k) = true := by simpa using hc
          refine W.exit (hK7 _ ?_)
          refine W.region ?_
          refine WO.go 2 (ds := []) rfl ?_
          simp only [sx, ty, q1, q2, q5, q6, q7, q8, q9, qa, qb, reduceIte, sy, q3, q4]
          with_reducible refine WO.nil ?_
          refine ⟨(k + 1, t, p3), ⟨hlt, hL.ok, hL.mea, hL.un, by rw [hL.eq, range_drop hlt, stepsF_no (lookF_no hv hsk)]⟩, by simp only; omega, rfl, by simp [getE, bnd, keepE, wrap_succ (show k + 1 ≤ 9223372036854775807 by omega)], ⟨[], by simp⟩, by simp [Own.bnd, bndL, bnd, OI, OIN, OBs, boxO], by simp⟩
        · skip
          have hsk : ¬ (v || !can row k) = true := by simpa using hc
          have hv0 : v = false := by cases v <;> simp at hsk ⊢
          have hcs := count_set (hv0 ▸ hv)
          have hun1 : unseen ⟨t.owner, t.seen.set k true, t.met⟩ < f := by have := hL.un; simp only [unseen] at this ⊢; omega
          have hmea1 : mea ⟨t.owner, t.seen.set k true, t.met⟩ ≤ 1000 := by have := hL.mea; simp only [mea, unseen] at this ⊢; omega
          obtain ⟨bb, u, hu⟩ : ∃ bb u, findF can f o ⟨t.owner, t.seen.set k true, t.met⟩ = (bb, u) := ⟨_, _, rfl⟩
          obtain ⟨ut1, ut2, ut3⟩ := findF_to (can := can) f o ⟨t.owner, t.seen.set k true, t.met⟩ (hL.ok.row k o ho) (hL.ok.same _ (by simp [htsl]) _)
          rw [hu] at ut1 ut2 ut3
          simp only at ut1 ut2 ut3
          refine W.skip (hK9 _ ?_)
          refine W.seqK fun K11 hK11 => W.region ?_
          refine WO.q (ds := []) rfl rfl rfl (QR.load [.slice (some ⟨b3, 0, none⟩) n cs] false rfl rfl agg71 sz71 (.inr rfl) (fun ρ w1 hb => h3w.now (S := fun b => ¬ ofOwn (ownF n bm pm (some ⟨b2, 0, none⟩, co) (some ⟨b3, 0, none⟩, cs) s) b) hb (by simp [St.put]) (hno _ h3s) h3z)) ?_
          simp only [List.drop_succ_cons, List.drop_zero, List.take_succ_cons, List.take_zero, ofCells, Bool.false_eq_true, if_false, List.headD_cons]
          refine WO.go 1 (ds := []) rfl ?_
          simp only [sx, ty, q1, q2, q5, q6, q7, q8, q9, qa, qb, reduceIte, sy, q3, q4]
          refine WO.q (ds := []) rfl rfl rfl (QR.idx rfl rfl rfl el71 (by omega) (by omega)) ?_
          simp only [sx, ty, q1, q2, q5, q6, q7, q8, q9, qa, qb, reduceIte, sy, q3, q4]
          refine WO.storeOwn (k := 3) (i := k) (ds := []) rfl rfl rfl rfl rfl rfl rfl (by omega) rfl rfl sz4 ?_
          rw [show ((t.seen.map Value.bool).set k (.bool true)) = (t.seen.set k true).map .bool by rw [List.map_set]]
          simp only [sx, ty, q1, q2, q5, q6, q7, q8, q9, qa, qb, reduceIte, sy, q3, q4]
          with_reducible refine WO.nil ?_
          refine hK11 _ ?_; clear hK11
          refine W.seqK fun K12 hK12 => ?_
          refine W.regionT' 11 [] [0, 1, 2, 3, 4, 5, 6, 7, 8, 9, 10] mixed (by kernel_rfl) ?_
          simp only [sx, ty, q1, q2, q5, q6, q7, q8, q9, qa, qb, reduceIte, sxt, List.toList_toArray, sy, q3, q4]
          refine WQ.q (ds := [some 32, some 33, some 34, some 35, some 36, some 37, some 38, some 39, some 40, some 41, some 42, some 43, some 44]) rfl rfl rfl (QR.load [.slice (some ⟨b2, 0, none⟩) n co] false rfl rfl agg27 sz27 (.inr rfl) (fun ρ w1 hb => h2w.now (S := fun b => ¬ ofOwn (ownF n bm pm (some ⟨b2, 0, none⟩, co) (some ⟨b3, 0, none⟩, cs) s) b) hb (by simp [St.put]) (hno _ h2s) h2z)) ?_
          simp only [List.drop_succ_cons, List.drop_zero, List.take_succ_cons, List.take_zero, ofCells, Bool.false_eq_true, if_false, List.headD_cons]
          refine WQ.go 1 (ds := [some 32, some 33, some 34, some 35, some 36, some 37, some 38, some 39, some 40, some 41, some 42, some 43, some 44]) rfl ?_
          simp only [sx, ty, q1, q2, q5, q6, q7, q8, q9, qa, qb, reduceIte, sxq, sy, q3, q4]
          refine WQ.q (ds := [some 32, some 33, some 34, some 35, some 36, some 37, some 38, some 39, some 40, some 41, some 42, some 43, some 44]) rfl rfl rfl (QR.idx rfl rfl rfl el27 (by omega) (by omega)) ?_
          refine WQ.q (ds := [some 32, some 33, some 34, some 35, some 36, some 37, some 38, some 39, some 40, some 41, some 42, some 43, some 44]) rfl rfl rfl (QR.load [Value.int .i64 o] false rfl rfl agg3 sz3 (.inr rfl) (fun ρ w1 hb => own_elem_at (k := 2) (i := k) hb rfl (map_get (Value.int .i64) ho))) ?_
          simp only [List.drop_succ_cons, List.drop_zero, List.take_succ_cons, List.take_zero, ofCells, Bool.false_eq_true, if_false, List.headD_cons]
          refine WQ.go 2 (ds := [some 32, some 33, some 34, some 35, some 36, some 37, some 38, some 39, some 40, some 41, some 42, some 43, some 44]) rfl ?_
          simp only [sx, ty, q1, q2, q5, q6, q7, q8, q9, qa, qb, reduceIte, sxq, sy, q3, q4]
          refine WQ.cases 37 _ rfl (fun hg37 => ?_) (fun hg37 => ?_)
          · skip
            have h0 : o < 0 := by simpa using hg37
            refine WQ.go 5 (ds := [some 32, some 33, some 34, some 35, some 36, some 37, some 38, some 39, some 40, some 41, some 42, some 43, some 44]) rfl ?_
            simp only [sx, ty, q1, q2, q5, q6, q7, q8, q9, qa, qb, reduceIte, sxq, sy, q3, q4]
            with_reducible refine WQ.nil ?_
            refine WO.go 2 (ds := [some 32, some 33, some 34, some 35, some 36, some 37, some 38, some 39, some 40, some 41, some 42, some 43, some 44]) rfl ?_
            simp only [sx, ty, q1, q2, q5, q6, q7, q8, q9, qa, qb, reduceIte, sy, q3, q4]
            with_reducible refine WO.nil ?_
            refine hK12 _ ?_; clear hK12
            refine W.cond rfl rfl (fun hc => ?_) (fun hc => ?_)
            rotate_left
            · skip
              simp at hc
            · skip
              refine W.seqK fun K13 hK13 => W.region ?_
              refine WO.q (ds := []) rfl rfl rfl (QR.load [.slice (some ⟨b2, 0, none⟩) n co] false rfl rfl agg27 sz27 (.inr rfl) (fun ρ w1 hb => h2w.now (S := fun b => ¬ ofOwn (ownF n bm pm (some ⟨b2, 0, none⟩, co) (some ⟨b3, 0, none⟩, cs) s) b) hb (by simp [St.put]) (hno _ h2s) h2z)) ?_
              simp only [List.drop_succ_cons, List.drop_zero, List.take_succ_cons, List.take_zero, ofCells, Bool.false_eq_true, if_false, List.headD_cons]
              refine WO.go 2 (ds := []) rfl ?_
              simp only [sx, ty, q1, q2, q5, q6, q7, q8, q9, qa, qb, reduceIte, sy, q3, q4]
              refine WO.q (ds := []) rfl rfl rfl (QR.idx rfl rfl rfl el27 (by omega) (by omega)) ?_
              simp only [sx, ty, q1, q2, q5, q6, q7, q8, q9, qa, qb, reduceIte, sy, q3, q4]
              refine WO.storeOwn (k := 2) (i := k) (ds := []) rfl rfl rfl rfl rfl rfl rfl (by omega) rfl rfl sz3 ?_
              rw [show ((t.owner.map (Value.int .i64)).set k (.int .i64 row)) = (t.owner.set k row).map (.int .i64) by rw [List.map_set]]
              simp only [sx, ty, q1, q2, q5, q6, q7, q8, q9, qa, qb, reduceIte, sy, q3, q4]
              with_reducible refine WO.nil ?_
              refine hK13 _ ?_; clear hK13
              refine W.pure (ds := []) rfl fun K14 hK14 => ?_
              simp only [sx, ty, q1, q2, q5, q6, q7, q8, q9, qa, qb, reduceIte, sy, q3, q4]; with_reducible refine hK14 _ ?_; clear hK14
              refine W.ret ?_
              refine ⟨by simp, ?_⟩
              simp only [sx, ty, q1, q2, q5, q6, q7, q8, q9, qa, qb, reduceIte, sxr, sy, q3, q4]
              intro ρ w1 hb
              have hf : fin = (true, ⟨t.owner.set k row, t.seen.set k true, t.met⟩) := by rw [hL.eq, range_drop hlt, stepsF_yes (lookF_free hv hsk ho h0)]
              rw [hf]; exact ⟨p3, rfl, turnL_of hb (by simp) rfl rfl⟩
          · skip
            have h0 : ¬ o < 0 := by simpa using hg37
            refine WQ.q (ds := [some 32, some 33, some 34, some 35, some 36, some 37, some 38, some 39, some 40, some 41, some 42, some 43, some 44]) rfl rfl rfl (QR.load [.func (.func 70) #[] #[.pointer (some ⟨bm, 0, none⟩), .pointer (some a2), .pointer (some a3), .pointer (some a4), .pointer (some a5)]] false rfl rfl agg97 sz97 (.inr rfl) (fun ρ w1 hb => h5w.now (S := fun b => ¬ ofOwn (ownF n bm pm (some ⟨b2, 0, none⟩, co) (some ⟨b3, 0, none⟩, cs) s) b) hb (by simp [St.put]) (hno _ h5s) h5z)) ?_
            simp only [List.drop_succ_cons, List.drop_zero, List.take_succ_cons, List.take_zero, ofCells, Bool.false_eq_true, if_false, List.headD_cons]
            simp only [sx, ty, q1, q2, q5, q6, q7, q8, q9, qa, qb, reduceIte, sy, q3, q4]
            refine WQ.q (ds := [some 32, some 33, some 34, some 35, some 36, some 37, some 38, some 39, some 40, some 41, some 42, some 43, some 44]) rfl rfl rfl (QR.load [.slice (some ⟨b2, 0, none⟩) n co] false rfl rfl agg27 sz27 (.inr rfl) (fun ρ w1 hb => h2w.now (S := fun b => ¬ ofOwn (ownF n bm pm (some ⟨b2, 0, none⟩, co) (some ⟨b3, 0, none⟩, cs) s) b) hb (by simp [St.put]) (hno _ h2s) h2z)) ?_
            simp only [List.drop_succ_cons, List.drop_zero, List.take_succ_cons, List.take_zero, ofCells, Bool.false_eq_true, if_false, List.headD_cons]
            refine WQ.go 1 (ds := [some 32, some 33, some 34, some 35, some 36, some 37, some 38, some 39, some 40, some 41, some 42, some 43, some 44]) rfl ?_
            simp only [sx, ty, q1, q2, q5, q6, q7, q8, q9, qa, qb, reduceIte, sxq, sy, q3, q4]
            refine WQ.q (ds := [some 32, some 33, some 34, some 35, some 36, some 37, some 38, some 39, some 40, some 41, some 42, some 43, some 44]) rfl rfl rfl (QR.idx rfl rfl rfl el27 (by omega) (by omega)) ?_
            refine WQ.q (ds := [some 32, some 33, some 34, some 35, some 36, some 37, some 38, some 39, some 40, some 41, some 42, some 43, some 44]) rfl rfl rfl (QR.load [Value.int .i64 o] false rfl rfl agg3 sz3 (.inr rfl) (fun ρ w1 hb => own_elem_at (k := 2) (i := k) hb rfl (map_get (Value.int .i64) ho))) ?_
            simp only [List.drop_succ_cons, List.drop_zero, List.take_succ_cons, List.take_zero, ofCells, Bool.false_eq_true, if_false, List.headD_cons]
            simp only [sx, ty, q1, q2, q5, q6, q7, q8, q9, qa, qb, reduceIte, sy, q3, q4]
            with_reducible refine WQ.nil ?_
            refine WO.callL (own := ownF n bm p3 (some ⟨b2, 0, none⟩, co) (some ⟨b3, 0, none⟩, cs) ⟨t.owner, t.seen.set k true, t.met⟩) [0, 1, 2, 3] (fun _ : Option Addr × Nat => .bool bb) (fun x => ownF n bm x (some ⟨b2, 0, none⟩, co) (some ⟨b3, 0, none⟩, cs) u) (fun _ _ _ => True) (ds := [some 32, some 33, some 34, some 35, some 36, some 37, some 38, some 39, some 40, some 41, some 42, some 43, some 44]) rfl rfl rfl rfl co70 ⟨rfl, rfl, rfl, rfl, trivial⟩ (by decide) rfl (fun _ => rfl) (fun _ => rfl) (fun ρ w1 hb hlie => Calls.mono (ih o ⟨t.owner, t.seen.set k true, t.met⟩ p3 w1 (kw.trans ((hb.at (by simp [St.put])).mono fun b hS _ => hno b hS)) (by omega) (hL.ok.row k o ho) (hL.ok.same _ (by simp [htsl]) _) hun1 hmea1 (no_own hb (by simp [St.put]) rfl rfl hno (fun b hS => Nat.lt_of_lt_of_le (hSb b hS) kw.size)) hlie) fun e w2 ⟨v, he, hk, x, h1, h2⟩ => ⟨v, he, hk, x, by rw [h1, hu], trivial, by rw [hu] at h2; exact h2⟩) fun x lo s8 _ => ?_
            obtain ⟨p4, c4⟩ := x
            refine WO.ownIs [boxO 27 bm [.slice p4 u.met.length c4], OI u.met (p4, c4), OIN n u.owner (some ⟨b2, 0, none⟩, co), OBs n u.seen (some ⟨b3, 0, none⟩, cs)] rfl ?_
            refine WO.go 1 (ds := [some 32, some 33, some 34, some 35, some 36, some 37, some 38, some 39, some 40, some 41, some 42, some 43, some 44]) rfl ?_
            simp only [sx, ty, q1, q2, q5, q6, q7, q8, q9, qa, qb, reduceIte, sy, q3, q4]
            with_reducible refine WO.nil ?_
            refine hK12 _ ?_; clear hK12
            refine W.cond rfl rfl (fun hc => ?_) (fun hc => ?_)
            · skip
              have hb1 : bb = true := by simpa using hc
              subst hb1
              refine W.seqK fun K15 hK15 => W.region ?_
              refine WO.q (ds := []) rfl rfl rfl (QR.load [.slice (some ⟨b2, 0, none⟩) n co] false rfl rfl agg27 sz27 (.inr rfl) (fun ρ w1 hb => h2w.now (S := fun b => ¬ ofOwn (ownF n bm pm (some ⟨b2, 0, none⟩, co) (some ⟨b3, 0, none⟩, cs) s) b) hb (by simp [St.put]) (hno _ h2s) h2z)) ?_
              simp only [List.drop_succ_cons, List.drop_zero, List.take_succ_cons, List.take_zero, ofCells, Bool.false_eq_true, if_false, List.headD_cons]
              refine WO.go 2 (ds := []) rfl ?_
              simp only [sx, ty, q1, q2, q5, q6, q7, q8, q9, qa, qb, reduceIte, sy, q3, q4]
              refine WO.q (ds := []) rfl rfl rfl (QR.idx rfl rfl rfl el27 (by omega) (by omega)) ?_
              simp only [sx, ty, q1, q2, q5, q6, q7, q8, q9, qa, qb, reduceIte, sy, q3, q4]
              refine WO.storeOwn (k := 2) (i := k) (ds := []) rfl rfl rfl rfl rfl rfl rfl (by omega) rfl rfl sz3 ?_
              rw [show ((u.owner.map (Value.int .i64)).set k (.int .i64 row)) = (u.owner.set k row).map (.int .i64) by rw [List.map_set]]
              simp only [sx, ty, q1, q2, q5, q6, q7, q8, q9, qa, qb, reduceIte, sy, q3, q4]
              with_reducible refine WO.nil ?_
              refine hK15 _ ?_; clear hK15
              refine W.pure (ds := []) rfl fun K16 hK16 => ?_
              simp only [sx, ty, q1, q2, q5, q6, q7, q8, q9, qa, qb, reduceIte, sy, q3, q4]; with_reducible refine hK16 _ ?_; clear hK16
              refine W.ret ?_
              refine ⟨by simp, ?_⟩
              simp only [sx, ty, q1, q2, q5, q6, q7, q8, q9, qa, qb, reduceIte, sxr, sy, q3, q4]
              intro ρ w1 hb
              have hf : fin = (true, ⟨u.owner.set k row, u.seen, u.met⟩) := by rw [hL.eq, range_drop hlt, stepsF_yes (by rw [lookF_rec hv hsk ho h0, hu])]
              rw [hf]; exact ⟨(p4, c4), rfl, turnL_of hb (by simp) rfl rfl⟩
            · skip
              have hb1 : bb = false := by simpa using hc
              subst hb1
              refine W.skip (hK7 _ ?_)
              refine W.region ?_
              refine WO.go 2 (ds := []) rfl ?_
              simp only [sx, ty, q1, q2, q5, q6, q7, q8, q9, qa, qb, reduceIte, sy, q3, q4]
              with_reducible refine WO.nil ?_
              refine ⟨(k + 1, u, (p4, c4)), ⟨hlt, ut1, by have := hL.mea; simp only [mea, unseen] at this ut2 ⊢; omega, by have := hL.un; simp only [unseen] at this ut3 ⊢; omega, by rw [hL.eq, range_drop hlt, stepsF_no (by rw [lookF_rec hv hsk ho h0, hu])]⟩, by simp only; omega, rfl, by simp [getE, bnd, keepE, wrap_succ (show k + 1 ≤ 9223372036854775807 by omega)], ⟨[], by simp⟩, by simp [Own.bnd, bndL, bnd, OI, OIN, OBs, boxO], by simp⟩
    · skip
      obtain rfl : k = n := Nat.le_antisymm hkn (by simpa using hc)
      have hend := hL.eq
      rw [List.drop_eq_nil_of_le (by simp), stepsF] at hend
      refine W.exit (hK3 _ ?_)
      refine W.pure (ds := []) rfl fun K17 hK17 => ?_
      simp only [sx, ty, q1, q2, q5, q6, q7, q8, q9, qa, qb, reduceIte, sy, q3, q4]; with_reducible refine hK17 _ ?_; clear hK17
      refine W.ret ?_
      refine ⟨by simp, ?_⟩
      simp only [sx, ty, q1, q2, q5, q6, q7, q8, q9, qa, qb, reduceIte, sxr, sy, q3, q4]
      intro ρ w1 hb
      rw [hend]; exact ⟨p3, rfl, turnL_of hb (by simp) rfl rfl⟩
end Go.Proofs.YtolmeekbjonbcaaGreat
