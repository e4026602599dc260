/-
  A range over a function: the caller's rule, the iterator's rules, and the end of a function that holds such loops.
-/
import Derived.Test.YtnbfdncmlbegmaaSxArr
import Derived.RangeFuncNested
set_option linter.unusedVariables false
namespace Go.SX
open Go Go.RowKit

section
variable {P : Program} {ops : Array Oper} {Q : Exit → St → Prop} {σ : St} {l : List Oper} {o : Oper} {rest : List Oper} {ds : List (Option Nat)}

/-! ### The iterator's side -/
/-- A region whose operations may call yield. -/
def WI (P : Program) (ops : Array Oper) (Q : Exit → St → Prop) (l : List Oper) (σ : St) : Prop := ∀ ρ a w, Sat ρ σ a w → wpListIn (Fr none) 0 P ops (lift Q) l a w
theorem WI.region {id : Nat} (h : WI P ops Q ops.toList σ) : W P (.region id ops false) Q σ := fun ρ a w hs => wpIn_region_list (h ρ a w hs)

def onNormal (K : Act → World → Prop) : Exit → Act → World → Prop
  | .normal, a, w => K a w
  | _, _, _ => False
theorem wpList_in {Q' : Exit → Act → World → Prop} {l2 : List Oper} : ∀ (l : List Oper), l.all (fun o => opPlain o.op) = true → ∀ (a : Act) (w : World), wpList P ops (onNormal fun a w => wpListIn (Fr none) 0 P ops Q' l2 a w) l a w → wpListIn (Fr none) 0 P ops Q' (l ++ l2) a w
  | [], _, a, w, h => h
  | o :: l, hp, a, w, h => by
    simp only [List.all_cons, Bool.and_eq_true] at hp
    have hno : ¬ LetsOut (onNormal fun a w => wpListIn (Fr none) 0 P ops Q' l2 a w) := fun ⟨_, _, h⟩ => h
    simp only [wpList, List.cons_append, wpListIn] at h ⊢
    split at h
    · rename_i hw
      rw [if_pos hw]
      rcases h with h | ⟨_, h⟩
      · refine ⟨fun _ _ => trivial, ?_⟩
        rw [semAt_plain hp.1]
        unfold Oper.wp at h
        generalize (execOp a.eval o).run P w = res at h ⊢
        unfold Oper.upon at h
        unfold Oper.uponIn
        split at h
        · exact wpList_in l hp.2 _ _ h
        · exact wpList_in l hp.2 _ _ h
        · exact wpList_in l hp.2 _ _ h
        · refine ⟨fun h => by simp [Fr, Fence.wide] at h, ?_⟩
          show CallsIn Fence.wide _ P _ _ _ _
          refine callsIn_wide.2 (Calls.mono h fun e w' h' => ?_)
          cases e with
          | returned v => exact wpList_in l hp.2 _ _ h'
          | panicked c => exact h'.elim
          | outgrown => exact absurd h' hno
        · refine ⟨fun h => by simp [Fr, Fence.wide] at h, ?_⟩
          show RowsIn Fence.wide _ P _ _ _ _
          exact fun c cs _ => let ⟨v, w4, h4, h5⟩ := h c cs; ⟨v, w4, wpList_in l hp.2 _ _ h4, stepsIn_wide.2 h5⟩
        · exact h.elim
        · exact h.elim
      · exact absurd h hno
    · rename_i hw
      rw [if_neg hw]
      exact ⟨fun _ _ => trivial, wpList_in l hp.2 _ _ h⟩
theorem wpList_mono {Q1 Q2 : Exit → Act → World → Prop} (hq : ∀ e a w, Q1 e a w → Q2 e a w) : ∀ (l : List Oper) (a : Act) (w : World), wpList P ops Q1 l a w → wpList P ops Q2 l a w
  | [], a, w, h => hq _ _ _ h
  | o :: l, a, w, h => by
    have hlo : LetsOut Q1 → LetsOut Q2 := fun ⟨a, w, h⟩ => ⟨a, w, hq _ _ _ h⟩
    simp only [wpList] at h ⊢
    split at h
    · rename_i hw
      rw [if_pos hw]
      rcases h with h | ⟨h1, h⟩
      · left
        unfold Oper.wp at h ⊢
        generalize (execOp a.eval o).run P w = res at h ⊢
        unfold Oper.upon at h ⊢
        split at h
        · exact wpList_mono hq l _ _ h
        · exact wpList_mono hq l _ _ h
        · exact wpList_mono hq l _ _ h
        · refine Calls.mono h fun e w' h' => ?_
          cases e with
          | returned v => exact wpList_mono hq l _ _ h'
          | panicked c => exact hq _ _ _ h'
          | outgrown => exact hlo h'
        · exact fun c cs => let ⟨v, w4, h4, h5⟩ := h c cs; ⟨v, w4, wpList_mono hq l _ _ h4, h5⟩
        · exact hq _ _ _ h
        · exact h.elim
      · exact .inr ⟨h1, hlo h⟩
    · rename_i hw
      rw [if_neg hw]
      exact wpList_mono hq l _ _ h

/-- The first n operations, that call no yield. -/
theorem WI.pre (n : Nat) (h : WO P ops (fun e τ => e = .normal ∧ WI P ops Q (l.drop n) τ) (l.take n) σ) (hp : (l.take n).all (fun o => opPlain o.op) = true := by rfl) : WI P ops Q l σ := fun ρ a w hs => by
  rw [← List.take_append_drop n l]
  refine wpList_in (l.take n) hp a w (wpList_mono ?_ _ _ _ (h ρ a w hs))
  rintro e a w ⟨ρ, τ, hs, rfl, hk⟩
  exact hk ρ a w hs
theorem WI.nil (h : Q .normal σ) : WI P ops Q [] σ := fun ρ a w hs => ⟨ρ, σ, hs, h⟩
theorem WI.cases (i : Nat) (b : Bool) (hi : getE σ.env i = some (.val (.bool b))) (h1 : b = true → WI P ops Q l (σ.put (some i) (.val (.bool true)))) (h2 : b = false → WI P ops Q l (σ.put (some i) (.val (.bool false)))) : WI P ops Q l σ := by
  have key : ∀ c, b = c → WI P ops Q l (σ.put (some i) (.val (.bool c))) → WI P ops Q l σ := fun c hc h ρ a w hs => by
    subst hc
    exact h ρ a w (hs.same i _ (hs.env i _ hi).1 (hs.eval hi))
  cases b with
  | true => exact key true rfl (h1 rfl)
  | false => exact key false rfl (h2 rfl)

/-- What is known of memory, in a world that differs at blocks B alone, none of which it speaks of. -/
theorem Base.apartB {ρ : Nat → Nat} {w w' : World} (hb : Base ρ σ w) {B : Nat → Prop} (hk : Keep (fun b => ¬ B b) w w') (ho : ∀ (k : Nat) (o : Own) b, σ.own[k]? = some o → o.num ρ k = some b → ¬ B b)
    (hsn : ∀ p, p ∈ σ.snaps → ∀ b, p.1 b → b < p.2.heap.size → ¬ B b) : Base ρ σ w' where
  own k o hko ρ' hρ := by
    have h := hb.own k o hko ρ' hρ
    refine Own.holds_same h fun b hn => hk.block b ?_ (Own.lt h hn)
    rw [Own.num_agree hρ (List.getElem?_eq_some_iff.1 hko).1] at hn
    exact ho k o b hko hn
  apart := hb.apart
  keep p hp := ⟨⟨hk.os.trans (hb.keep p hp).1.os, hk.tape.trans (hb.keep p hp).1.tape, hk.output.trans (hb.keep p hp).1.output, Nat.le_trans (hb.keep p hp).1.size hk.size, fun b hS hlt => by
    rw [hk.block b (hsn p hp b hS hlt) (Nat.lt_of_lt_of_le hlt (hb.keep p hp).1.size)]; exact (hb.keep p hp).1.block b hS hlt⟩, (hb.keep p hp).2⟩

/-- A call of yield: the loop's body goes round once, and hands back true. -/
theorem WI.yield {x : Operand} {y : Operand} {tys : Array TypeId} {ll : Nat} {v : Value} {B : Nat → Prop} {J' : World → Prop} (sn' : List ((Nat → Prop) × World)) (T : Nat → Prop) (hds : dsOk ds ops.toList = true) (hg : gd ds σ o.guard = some true) (hd : dOk σ o.dst = true)
    (hop : o.op = .call { callee := .value x, args := #[y], argTypes := tys }) (hx : ev σ x = some (.val (.func (.yield ll) #[] #[]))) (hy : ev σ y = some (.val v))
    (hY : ∀ ρ w, Base ρ σ w → YieldAt (Fr none) 0 P ll #[v] w fun e w' => e = .returned (.bool true) ∧ J' w' ∧ Keep (fun b => ¬ B b) w w')
    (hsub : ∀ p, p ∈ sn' → p ∈ σ.snaps ∧ ∀ b, p.1 b → b < p.2.heap.size → ¬ B b)
    (ho : ∀ ρ (k : Nat) (o : Own) b, σ.own[k]? = some o → o.num ρ k = some b → ¬ B b ∧ T b)
    (k : ∀ s, J' s → WI P ops Q rest ((⟨σ.n, σ.env, σ.own, ((fun b => ¬ T b), s) :: sn', σ.dfs⟩ : St).put o.dst (.val (.bool true)))) : WI P ops Q (o :: rest) σ := fun ρ a w hs => by
  simp only [wpListIn, gd_sound hs hds hg, if_true]
  refine ⟨fun _ _ => trivial, ?_⟩
  have h1 := hs.ev hx ρ (Agree.refl _ _)
  have h2 := hs.ev hy ρ (Agree.refl _ _)
  simp only [den] at h1 h2
  rw [semAt_plain (by rw [hop]; rfl)]
  obtain ⟨fn, tmps, assign, body, hrun, hR⟩ := hY ρ w hs.base
  have hex : (execOp a.eval o).run P w = .ok (.round ll fn tmps assign body) w := by
    rw [← hrun]
    unfold execOp
    rw [hop]
    simp [resolve, h1, h2, Deferred.ofValue, invoke]
  rw [hex]
  refine ⟨fun h => by simp [Fr, Fence.wide] at h, ?_⟩
  obtain ⟨hF, hR⟩ := hR
  refine ⟨hF, fun c cs hr => ?_⟩
  obtain ⟨e, w', ⟨he, hJ, hk⟩, hsteps⟩ := hR c cs hr
  refine ⟨e, w', ?_, hsteps⟩
  subst he
  have hb : Base ρ (⟨σ.n, σ.env, σ.own, sn', σ.dfs⟩ : St) w' := by
    refine Base.apartB (σ := ⟨σ.n, σ.env, σ.own, sn', σ.dfs⟩) (B := B) ⟨hs.base.own, hs.base.apart, fun p hp => hs.base.keep p (hsub p hp).1⟩ hk (fun k o b h1 h2 => (ho ρ k o b h1 h2).1) fun p hp => (hsub p hp).2
  have hs' : Sat ρ (⟨σ.n, σ.env, σ.own, ((fun b => ¬ T b), w') :: sn', σ.dfs⟩ : St) a w' := ⟨hs.size, hs.defers, hs.env, hb.own, hb.apart, fun p hp => by
    rcases List.mem_cons.1 hp with rfl | hp
    · exact ⟨Keep.refl _ _, fun k o b h1 h2 h3 => absurd (ho ρ k o b h1 h2).2 h3⟩
    · exact hb.keep p hp⟩
  exact k w' hJ ρ _ w' (hs'.put _ _ _ (dOk_lt (σ := ⟨σ.n, σ.env, σ.own, ((fun b => ¬ T b), w') :: sn', σ.dfs⟩) hd) fun _ _ => rfl)

/-- **What an iterator does**: for every loop that abides what the iterator writes (T), and writes blocks B alone in a round, it comes m times, with 'val'. -/
def Iter (P : Program) (f : FuncId) (caps : Array Value) (m : Nat) (val : Nat → Value) (T B : Nat → Prop) (w0 : World) : Prop :=
  ∀ (ll : Nat) (J : Nat → World → Prop), (∀ k w w', J k w → Keep (fun b => ¬ T b) w w' → J k w') →
    (∀ k w, k < m → J k w → YieldAt (Fr none) 0 P ll #[val k] w fun e w' => e = .returned (.bool true) ∧ J (k + 1) w' ∧ Keep (fun b => ¬ B b) w w') →
    J 0 w0 → CallsIn (Fr none) 0 P f (#[.func (.yield ll) #[] #[]] ++ caps) w0 fun e w' => (∃ v, e = .returned v) ∧ J m w'

/-- An iterator out of a walk of its body: bs: the boxes that it writes. -/
theorem iter_of {f : FuncId} {fn : Func} {c : Code} {args : Array Value} {w : World} {R : World → Prop} (bs : List (Nat × TypeId × List Value)) (svs : List SV) (n : Nat) (B : Nat → Prop)
    (hf : P.funcs[f]? = some fn) (hb : fn.body = some c) (hn : fn.ntmps = n) (hr : fn.results = #[]) (hl : svs.length ≤ n) (ha : args = (denL (fun _ => 0) svs).toArray) (hbn : bndL 0 svs = true)
    (hbx : ∀ x, x ∈ bs → x.2.2.length ≤ maxLen ∧ w.heap[x.1]? = some (.cells x.2.2.toArray x.2.1 (0, 0))) (hnd : (bs.map (·.1)).Nodup)
    (h : W P c (fun e σ => (e = .normal ∨ e = .ret) ∧ σ.dfs = [] ∧ ∀ ρ w', Base ρ σ w' → R w') ⟨n, initE 0 svs, bs.map fun x => boxO x.2.1 x.1 x.2.2, [((fun b => ¬ b ∈ bs.map (·.1)), w), ((fun b => ¬ B b ∧ ¬ b ∈ bs.map (·.1)), w)], []⟩) : CallsIn (Fr none) 0 P f args w fun e w' => (∃ v, e = .returned v) ∧ R w' := by
  refine callsIn_of_wp hf hb trivial ?_
  subst ha
  have hget : ∀ (k : Nat) (o : Own), (bs.map fun x => boxO x.2.1 x.1 x.2.2)[k]? = some o → ∃ x, bs[k]? = some x ∧ o = boxO x.2.1 x.1 x.2.2 := fun k o hk => by
    rw [List.getElem?_map] at hk
    cases hx : bs[k]? with
    | none => rw [hx] at hk; cases hk
    | some x => rw [hx] at hk; exact ⟨x, rfl, (Option.some.inj hk).symm⟩
  refine wpIn_mono (h (fun _ => 0) _ w ?_) ?_
  · refine ⟨by simp [hn]; omega, rfl, fun i s hi => ?_, ⟨fun k o hk ρ' _ => ?_, fun i j oi oj b h1 h2 h3 h4 => ?_, fun p hp => ?_⟩⟩
    · obtain ⟨k, rfl, hk⟩ := initE_get svs 0 i s hi
      have hkl : k < svs.length := (List.getElem?_eq_some_iff.1 hk).1
      simp only [Nat.zero_add]
      refine ⟨by show k < n; omega, fun ρ' hρ => ?_⟩
      have : denL ρ' svs = denL (fun _ => 0) svs := denL_agree (m := 0) (fun i hi => by omega) svs hbn
      have hk2 : (denL (fun _ => 0) svs)[k]? = some (den ρ' s) := by rw [← this, denL_eq]; simp [hk]
      rw [Array.getElem?_append_left (by simp; exact hkl)]
      simpa using hk2
    · obtain ⟨x, hx, rfl⟩ := hget k o hk
      have := hbx x (List.mem_of_getElem? hx)
      exact boxO_holds this.1 this.2
    · obtain ⟨x, hx, rfl⟩ := hget i oi h1
      obtain ⟨y, hy, rfl⟩ := hget j oj h2
      simp only [boxO_num, Option.some.injEq] at h3 h4
      subst h3
      have hi : (bs.map (·.1))[i]? = some x.1 := by rw [List.getElem?_map, hx]; rfl
      have hj : (bs.map (·.1))[j]? = some x.1 := by rw [List.getElem?_map, hy]; exact congrArg some h4
      exact (List.getElem?_inj (List.getElem?_eq_some_iff.1 hi).1 hnd).1 (hi.trans hj.symm)
    · have key : ∀ k (o : Own) b, (bs.map fun x => boxO x.2.1 x.1 x.2.2)[k]? = some o → o.num (fun _ => 0) k = some b → b ∈ bs.map (·.1) := fun k o b hk hnum => by
        obtain ⟨x, hx, rfl⟩ := hget k o hk
        simp only [boxO_num, Option.some.injEq] at hnum
        subst hnum
        exact List.mem_map.2 ⟨x, List.mem_of_getElem? hx, rfl⟩
      simp only [List.mem_cons, List.not_mem_nil, or_false] at hp
      rcases hp with rfl | rfl
      · exact ⟨Keep.refl _ _, fun k o b hk hnum hS => absurd (key k o b hk hnum) hS⟩
      · exact ⟨Keep.refl _ _, fun k o b hk hnum hS => absurd (key k o b hk hnum) hS.2⟩
  · rintro e a' w' ⟨ρ, σ, hs, he, hdf, hR⟩
    have hres : (results fn a'.tmps).run P w' = .ok (.tuple #[]) w' := by
      rw [results_eq, hr]; simp
    rcases he with rfl | rfl
    · exact ⟨by rw [hs.defers, hdf]; rfl, _, hres, ⟨_, rfl⟩, hR ρ w' hs.base⟩
    · exact ⟨by rw [hs.defers, hdf]; rfl, _, hres, ⟨_, rfl⟩, hR ρ w' hs.base⟩

/-! ### The loop's side -/
def freeO : Own → Bool
  | .cells _ _ => false
  | _ => true
theorem freeO_holds {o : Own} (h : freeO o = true) {ρ ρ' : Nat → Nat} {k k' : Nat} {w : World} (hh : o.holds ρ k w) : o.holds ρ' k' w := by
  cases o with
  | cells => cases h
  | slice => exact hh
  | map => exact hh
  | dead => trivial
theorem freeO_num {o : Own} (h : freeO o = true) (ρ ρ' : Nat → Nat) (k k' : Nat) : o.num ρ k = o.num ρ' k' := by
  cases o with
  | cells => cases h
  | _ => rfl
theorem Base.free {ρ ρ' : Nat → Nat} {w : World} (hb : Base ρ σ w) (hf : ∀ o, o ∈ σ.own → freeO o = true) : Base ρ' σ w where
  own k o hk ρ2 _ := freeO_holds (hf o (List.mem_of_getElem? hk)) (hb.own k o hk ρ (Agree.refl _ _))
  apart i j oi oj b hi hj h1 h2 := hb.apart i j oi oj b hi hj (by rw [freeO_num (hf oi (List.mem_of_getElem? hi)) ρ ρ' i i]; exact h1) (by rw [freeO_num (hf oj (List.mem_of_getElem? hj)) ρ ρ' j j]; exact h2)
  keep p hp := ⟨(hb.keep p hp).1, fun k o b hk hn => (hb.keep p hp).2 k o b hk (by rw [freeO_num (hf o (List.mem_of_getElem? hk)) ρ ρ' k k]; exact hn)⟩

/-- Marks of loops that are over: their blocks hold no deferred calls. -/
def Marks (ds : List Nat) (s w0 : World) : Prop := ds.Nodup ∧ ∀ d, d ∈ ds → w0.heap.size ≤ d ∧ d < s.heap.size ∧ s.heap[d]? = some (.deferred (some []))

theorem putObj_keep {w : World} {r : Nat} {x : Obj} (S : Nat → Prop) (hS : ¬ S r) : Keep S w (w.putObj r x) :=
  ⟨rfl, rfl, rfl, by simp, fun b hb _ => World.putObj_heap_other fun he => hS (he ▸ hb)⟩
theorem Base.putObj {ρ : Nat → Nat} {w : World} (hb : Base ρ σ w) {r : Nat} {x : Obj} (ho : ∀ (k : Nat) (o : Own) b, σ.own[k]? = some o → o.num ρ k = some b → b ≠ r) (hsn : ∀ p, p ∈ σ.snaps → p.2.heap.size ≤ r ∨ ¬ p.1 r) : Base ρ σ (w.putObj r x) :=
  hb.apartB (B := fun b => b = r) (putObj_keep _ (by simp)) (fun k o b h1 h2 h3 => ho k o b h1 h2 h3) fun p hp b h1 h2 h3 => by
    subst h3
    rcases hsn p hp with h | h
    · omega
    · exact h h1

def onN (X : St → Prop) : Exit → St → Prop
  | .normal, σ => X σ
  | _, _ => False
theorem onN_and {X : St → Prop} {e : Exit} {τ : St} (h : onN X e τ) : e = .normal ∧ X τ := by
  cases e with
  | normal => exact ⟨rfl, h⟩
  | _ => exact h.elim
/-- **The caller's rule.** -/
theorem W.rangeFunc {g : Operand} {t : Nat} {assign body : Code} {f : FuncId} {caps : Array Value} (m : Nat) (val : Nat → Value) (kp : List Nat) (ow : Nat → List Own) (it : List Own) (ea : Nat → List (Nat × SV)) (T : Nat → Prop) {w0 s0 : World} (ds : List Nat)
    (hg : ev σ g = some (.val (.func (.func f) #[] caps))) (hfn : callOk P f = true) (hkb : ∀ p, p ∈ keepE σ.env kp → bnd 0 p.2 = true) (h0 : σ.own = ow 0 ++ it) (hfr : ∀ k o, o ∈ ow k ++ it → freeO o = true)
    (hlen : ∀ k, (ow k).length = (ow 0).length) (hnum : ∀ k (j : Nat) (o o' : Own), (ow k)[j]? = some o → (ow 0)[j]? = some o' → o.num (fun _ => 0) 0 = o'.num (fun _ => 0) 0) (ht : t < σ.n)
    (hT : ∀ b, T b → ∃ (j : Nat) (o : Own), it[j]? = some o ∧ o.num (fun _ => 0) 0 = some b) (hea : ∀ k p, p ∈ ea k → bnd 0 p.2 = true)
    (hit : ∀ ρ w, Base ρ σ w → ∀ w1, Keep (fun _ => True) w w1 → (∀ b, (∃ (j : Nat) (o : Own), σ.own[j]? = some o ∧ o.num (fun _ => 0) 0 = some b) → b < w.heap.size) → (∀ (i j : Nat) (oi oj : Own) b, σ.own[i]? = some oi → σ.own[j]? = some oj → oi.num (fun _ => 0) 0 = some b → oj.num (fun _ => 0) 0 = some b → i = j) →
      Iter P f caps m val T (fun b => (∃ (j : Nat) (o : Own), (ow 0)[j]? = some o ∧ o.num (fun _ => 0) 0 = some b) ∨ w.heap.size ≤ b) w1)
    (hA : ∀ ll k S s, k < m → WR (some ll) P assign (onN fun τ => Le τ ⟨σ.n, ea k, ow k, (S, s) :: σ.snaps, []⟩) ⟨σ.n, (t, .val (val k)) :: keepE σ.env kp, ow k, (S, s) :: σ.snaps, []⟩)
    (hB : ∀ ll k S s, k < m → WR (some ll) P body (onN fun τ => Le τ ⟨σ.n, [], ow (k + 1), (S, s) :: σ.snaps, []⟩) ⟨σ.n, ea k, ow k, (S, s) :: σ.snaps, []⟩)
    (hw0 : ((fun _ => True), w0) ∈ σ.snaps) (hs0 : ((fun b => b ∈ ds), s0) ∈ σ.snaps) (hM : Marks ds s0 w0)
    (k : ∀ D s', Marks (D :: ds) s' w0 → Q .normal ⟨σ.n, keepE σ.env kp, ow m, ((fun b => b ∈ D :: ds), s') :: σ.snaps, .mk D :: σ.dfs⟩) : W P (.rangeFunc g #[t] assign body) Q σ := fun ρ a w hs => by
  refine wpIn_rangeFunc fun fn _ => ?_
  have hgv := hs.ev hg ρ (Agree.refl _ _)
  simp only [den] at hgv
  obtain ⟨rec, hrec⟩ : ∃ rec : Loop, rec = { state := .ready, pending := none, fn, tmps := a.tmps, params := #[t], assign, body, defers := w.heap.size } := ⟨_, rfl⟩
  obtain ⟨w1, hw1⟩ : ∃ w1, w1 = (w.alloc (.deferred (some []))).alloc (.loop rec) := ⟨_, rfl⟩
  obtain ⟨ll, hll⟩ : ∃ ll, ll = w.heap.size + 1 := ⟨_, rfl⟩
  have hsz1 : w1.heap.size = w.heap.size + 2 := by rw [hw1]; simp
  have hD1 : w1.heap[w.heap.size]? = some (.deferred (some [])) := by
    rw [hw1]; show ((w.heap.push (.deferred (some []))).push (.loop rec))[w.heap.size]? = _; simp [Array.getElem?_push]
  have hl1 : w1.heap[ll]? = some (.loop rec) := by
    have h9 := World.alloc_heap_new (w.alloc (.deferred (some []))) (.loop rec)
    rw [World.size_alloc] at h9
    rw [hw1, hll]; exact h9
  have hk1 : Keep (fun _ => True) w w1 := ⟨by rw [hw1]; rfl, by rw [hw1]; rfl, by rw [hw1]; rfl, by omega, fun b _ hlt => by
    rw [hw1]; show ((w.heap.push (.deferred (some []))).push (.loop rec))[b]? = _; simp [Array.getElem?_push, Nat.ne_of_lt hlt, Nat.ne_of_lt (Nat.lt_succ_of_lt hlt)]⟩
  -- the numbers
  have hfr0 : ∀ o, o ∈ σ.own → freeO o = true := fun o ho => hfr 0 o (by rw [← h0]; exact ho)
  have hnlt : ∀ (j : Nat) (o : Own) b, σ.own[j]? = some o → o.num (fun _ => 0) 0 = some b → b < w.heap.size := fun j o b hj hn => by
    refine Own.lt (hs.base.own j o hj ρ (Agree.refl _ _)) ?_
    rw [freeO_num (hfr0 o (List.mem_of_getElem? hj)) ρ (fun _ => 0) j 0]; exact hn
  have hap : ∀ (i j : Nat) (oi oj : Own) b, σ.own[i]? = some oi → σ.own[j]? = some oj → oi.num (fun _ => 0) 0 = some b → oj.num (fun _ => 0) 0 = some b → i = j := fun i j oi oj b hi hj h1 h2 =>
    hs.base.apart i j oi oj b hi hj (by rw [freeO_num (hfr0 oi (List.mem_of_getElem? hi)) ρ (fun _ => 0) i 0]; exact h1) (by rw [freeO_num (hfr0 oj (List.mem_of_getElem? hj)) ρ (fun _ => 0) j 0]; exact h2)
  have how : ∀ k (j : Nat) (o : Own), (ow k)[j]? = some o → ∃ o', (ow 0)[j]? = some o' ∧ σ.own[j]? = some o' ∧ ∀ ρ' j', o.num ρ' j' = o'.num (fun _ => 0) 0 := fun k j o hj => by
    have hjl : j < (ow 0).length := by rw [← hlen k]; exact (List.getElem?_eq_some_iff.1 hj).1
    refine ⟨(ow 0)[j], List.getElem?_eq_getElem hjl, by rw [h0, List.getElem?_append_left hjl]; exact List.getElem?_eq_getElem hjl, fun ρ' j' => ?_⟩
    rw [freeO_num (hfr k o (by simp [List.mem_of_getElem? hj])) ρ' (fun _ => 0) j' 0]
    exact hnum k j o _ hj (List.getElem?_eq_getElem hjl)
  have hTit : ∀ b, T b → ∃ (j : Nat) (o : Own), (ow 0).length ≤ j ∧ σ.own[j]? = some o ∧ o.num (fun _ => 0) 0 = some b := fun b hb => by
    obtain ⟨j, o, h1, h2⟩ := hT b hb
    exact ⟨(ow 0).length + j, o, by omega, by rw [h0, List.getElem?_append_right (by omega)]; simpa using h1, h2⟩
  have hTlt : ∀ b, T b → b < w.heap.size := fun b hb => by obtain ⟨j, o, _, h1, h2⟩ := hTit b hb; exact hnlt j o b h1 h2
  have hTow : ∀ k (j : Nat) (o : Own) b ρ' j', (ow k)[j]? = some o → o.num ρ' j' = some b → ¬ T b := fun k j o b ρ' j' hj hn hTb => by
    obtain ⟨o', h1, h2, h3⟩ := how k j o hj
    obtain ⟨j2, o2, h4, h5, h6⟩ := hTit b hTb
    have := hap j j2 o' o2 b h2 h5 (by rw [← h3 ρ' j']; exact hn) h6
    have := (List.getElem?_eq_some_iff.1 h1).1
    omega
  have hsnlt : ∀ p, p ∈ σ.snaps → p.2.heap.size ≤ w.heap.size := fun p hp => (hs.base.keep p hp).1.size
  have hsnown : ∀ p, p ∈ σ.snaps → ∀ (j : Nat) (o : Own) b, σ.own[j]? = some o → o.num (fun _ => 0) 0 = some b → p.1 b → p.2.heap.size ≤ b := fun p hp j o b hj hn hS =>
    (hs.base.keep p hp).2 j o b hj (by rw [freeO_num (hfr0 o (List.mem_of_getElem? hj)) ρ (fun _ => 0) j 0]; exact hn) hS
  -- between two rounds
  obtain ⟨J, hJ⟩ : ∃ J : Nat → World → Prop, J = fun k W => Base ρ ⟨σ.n, [], ow k, σ.snaps, []⟩ W ∧ W.heap[w.heap.size]? = some (.deferred (some [])) ∧ W.heap[ll]? = some (.loop rec) := ⟨_, rfl⟩
  have hJst : ∀ k W W', J k W → Keep (fun b => ¬ T b) W W' → J k W' := fun k W W' hj hkp => by
    rw [hJ] at hj ⊢
    obtain ⟨g1, g2, g3⟩ := hj
    refine ⟨g1.apartB hkp (fun j o b hjo hn hTb => hTow k j o b ρ j hjo hn hTb) fun p hp b hS hlt hTb => ?_, ?_, ?_⟩
    · obtain ⟨j, o, _, h1, h2⟩ := hTit b hTb
      have := hsnown p hp j o b h1 h2 hS; omega
    · rw [hkp.block _ (fun hTb => absurd (hTlt _ hTb) (Nat.lt_irrefl _)) (Array.getElem?_eq_some_iff.1 g2).1]; exact g2
    · rw [hkp.block _ (fun hTb => by have := hTlt _ hTb; omega) (Array.getElem?_eq_some_iff.1 g3).1]; exact g3
  have hJ0 : J 0 w1 := by
    rw [hJ]
    refine ⟨?_, hD1, hl1⟩
    have hb1 := hs.base.apartB (B := fun _ => False) (w' := w1) ⟨hk1.os, hk1.tape, hk1.output, hk1.size, fun b _ hlt => hk1.block b trivial hlt⟩ (fun _ _ _ _ _ h => h) fun _ _ _ _ _ h => h
    have hpre : ∀ (j : Nat) (o : Own), (ow 0)[j]? = some o → σ.own[j]? = some o := fun j o hj => by rw [h0, List.getElem?_append_left (List.getElem?_eq_some_iff.1 hj).1]; exact hj
    exact ⟨fun j o hj ρ' _ => freeO_holds (hfr 0 o (by simp [List.mem_of_getElem? hj])) (hb1.own j o (hpre j o hj) ρ (Agree.refl _ _)), fun i j oi oj b h1 h2 => hb1.apart i j oi oj b (hpre _ _ h1) (hpre _ _ h2), fun p hp => ⟨(hb1.keep p hp).1, fun j o b hj => (hb1.keep p hp).2 j o b (hpre j o hj)⟩⟩
  have hround : ∀ k W, k < m → J k W → YieldAt (Fr none) 0 P ll #[val k] W fun e W' => e = .returned (.bool true) ∧ J (k + 1) W' ∧ Keep (fun b => ¬ ((∃ (j : Nat) (o : Own), (ow 0)[j]? = some o ∧ o.num (fun _ => 0) 0 = some b) ∨ w.heap.size ≤ b)) W W' := fun k W hkm hj => by
    rw [hJ] at hj ⊢
    obtain ⟨g1, g2, g3⟩ := hj
    have hwl : w.heap.size ≤ W.heap.size := by have := (Array.getElem?_eq_some_iff.1 g3).1; omega
    refine ⟨_, _, _, _, run_yield g3 (by rw [hrec]; rfl), roundIn_of_wpIn (n := 0) trivial ?_⟩
    have hB' : ∀ k (j : Nat) (o : Own) b ρ' j', (ow k)[j]? = some o → o.num ρ' j' = some b → b < w.heap.size ∧ ((∃ (j : Nat) (o : Own), (ow 0)[j]? = some o ∧ o.num (fun _ => 0) 0 = some b) ∨ w.heap.size ≤ b) := fun k j o b ρ' j' hjo hn => by
      obtain ⟨o', h1, h2, h3⟩ := how k j o hjo
      rw [h3 ρ' j'] at hn
      exact ⟨hnlt j o' b h2 hn, .inl ⟨j, o', h1, hn⟩⟩
    obtain ⟨S, hS⟩ : ∃ S : Nat → Prop, S = fun b => b = w.heap.size ∨ b = ll ∨ ¬ ((∃ (j : Nat) (o : Own), (ow 0)[j]? = some o ∧ o.num (fun _ => 0) 0 = some b) ∨ w.heap.size ≤ b) := ⟨_, rfl⟩
    have hSno : ∀ k (j : Nat) (o : Own) b ρ' j', (ow k)[j]? = some o → o.num ρ' j' = some b → ¬ S b := fun k j o b ρ' j' hjo hn hSb => by
      have := hB' k j o b ρ' j' hjo hn
      rw [hS] at hSb
      rcases hSb with h | h | h
      · omega
      · omega
      · exact h this.2
    have hsat1 : Sat ρ ⟨σ.n, (t, .val (val k)) :: keepE σ.env kp, ow k, (S, W) :: σ.snaps, []⟩ { tmps := a.tmps.setIfInBounds t (val k), defers := [] } W := by
      refine ⟨by simpa using hs.size, rfl, fun i s hi => ?_, ⟨g1.own, g1.apart, fun p hp => ?_⟩⟩
      · simp only [getE] at hi
        split at hi
        · rename_i he; subst he
          obtain rfl := Option.some.inj hi
          refine ⟨ht, fun ρ' _ => ?_⟩
          rw [Array.getElem?_setIfInBounds_self_of_lt (by rw [hs.size]; exact ht)]; rfl
        · rename_i he
          have h5 := keepE_mem (getE_mem hi)
          have h6 := hs.env i s h5
          refine ⟨h6.1, fun ρ' _ => ?_⟩
          rw [Array.getElem?_setIfInBounds_ne he, den_agree (m := 0) (ρ := ρ) (fun i hi => by omega) s (hkb _ (getE_mem hi))]
          exact h6.2 ρ (Agree.refl _ _)
      · rcases List.mem_cons.1 hp with rfl | hp
        · exact ⟨Keep.refl _ _, fun j o b hjo hn hSb => absurd hSb (hSno k j o b ρ j hjo hn)⟩
        · exact g1.keep p hp
    have htm : (Array.foldl (fun tmps (x : Tmp × Value) => tmps.setIfInBounds x.1 x.2) rec.tmps (rec.params.zip #[val k])) = a.tmps.setIfInBounds t (val k) := by rw [hrec]; simp
    rw [show (rec.params.zip #[val k]).foldl (fun tmps (t, a) => tmps.setIfInBounds t a) rec.tmps = a.tmps.setIfInBounds t (val k) from htm]
    have hasg : rec.assign = assign := by rw [hrec]
    have hbdy : rec.body = body := by rw [hrec]
    have hst : rec.state = .ready := by rw [hrec]
    rw [hasg, hbdy]
    refine wpIn_mono (hA ll k S W hkm ρ _ W hsat1) ?_
    rintro e a1 W1 ⟨ρ1, τ, hs1, hq1⟩
    obtain ⟨rfl, hle1⟩ := onN_and hq1
    have hs1 := hs1.le hle1
    have hkW1 : Keep S W W1 := (hs1.base.keep (S, W) (by simp)).1
    have hl2 : W1.heap[ll]? = some (.loop rec) := by rw [hkW1.block ll (by rw [hS]; simp) (Array.getElem?_eq_some_iff.1 g3).1]; exact g3
    refine ⟨_, run_beginRound hl2 hst, ?_⟩
    have hb2 : Base ρ1 ⟨σ.n, [], ow k, σ.snaps, []⟩ (W1.putObj ll (.loop { rec with state := .busy })) := by
      refine Base.putObj (σ := ⟨σ.n, [], ow k, σ.snaps, []⟩) ⟨hs1.base.own, hs1.base.apart, fun p hp => hs1.base.keep p (by simp [hp])⟩ (fun j o b hjo hn he => ?_) fun p hp => .inl ?_
      · have := (hB' k j o b ρ1 j hjo hn).1; omega
      · have := hsnlt p hp; omega
    have hsat2 : Sat ρ1 ⟨σ.n, ea k, ow k, (S, W1.putObj ll (.loop { rec with state := .busy })) :: σ.snaps, []⟩ a1 (W1.putObj ll (.loop { rec with state := .busy })) :=
      ⟨hs1.size, hs1.defers, hs1.env, hb2.own, hb2.apart, fun p hp => by
        rcases List.mem_cons.1 hp with rfl | hp
        · exact ⟨Keep.refl _ _, fun j o b hjo hn hSb => absurd hSb (hSno k j o b ρ1 j hjo hn)⟩
        · exact hb2.keep p hp⟩
    refine wpIn_mono (hB ll k S _ hkm ρ1 a1 _ hsat2) ?_
    rintro e a3 W3 ⟨ρ3, τ3, hs3, hq3⟩
    obtain ⟨rfl, hle3⟩ := onN_and hq3
    have hs3 := hs3.le hle3
    have hkW3 : Keep S (W1.putObj ll (.loop { rec with state := .busy })) W3 := (hs3.base.keep (S, _) List.mem_cons_self).1
    have hl1lt : ll < W1.heap.size := (Array.getElem?_eq_some_iff.1 hl2).1
    have hl3 : W3.heap[ll]? = some (.loop { rec with state := .busy }) := by
      rw [hkW3.block ll (by rw [hS]; simp) (by simpa using hl1lt)]; exact World.putObj_heap_same hl1lt
    have hD3 : W3.heap[w.heap.size]? = some (.deferred (some [])) := by
      rw [hkW3.block w.heap.size (by rw [hS]; simp) (by simp; omega), World.putObj_heap_other (by omega), hkW1.block _ (by rw [hS]; simp) (Array.getElem?_eq_some_iff.1 g2).1]; exact g2
    refine ⟨_, _, run_endRound none hl3, ?_⟩
    have hrr : ({ ({ rec with state := .busy } : Loop) with state := if (none : Option Code).isNone then .ready else .done, pending := none } : Loop) = rec := by rw [hrec]; rfl
    rw [hrr]
    have hl3lt : ll < W3.heap.size := (Array.getElem?_eq_some_iff.1 hl3).1
    refine ⟨rfl, ⟨?_, ?_, World.putObj_heap_same hl3lt⟩, ?_⟩
    · have hb3 : Base ρ3 ⟨σ.n, [], ow (k + 1), σ.snaps, []⟩ W3 := ⟨hs3.base.own, hs3.base.apart, fun p hp => hs3.base.keep p (by simp [hp])⟩
      refine Base.free (ρ := ρ3) (Base.putObj hb3 (fun j o b hjo hn he => ?_) fun p hp => .inl ?_) (fun o ho => hfr (k + 1) o (by simp [ho]))
      · have := (hB' (k + 1) j o b ρ3 j hjo hn).1; omega
      · have := hsnlt p hp; omega
    · rw [World.putObj_heap_other (by omega)]; exact hD3
    · have hno : ¬ (fun b => ¬ ((∃ (j : Nat) (o : Own), (ow 0)[j]? = some o ∧ o.num (fun _ => 0) 0 = some b) ∨ w.heap.size ≤ b)) ll := fun h => h (.inr (by omega))
      have hsub : ∀ b, ¬ ((∃ (j : Nat) (o : Own), (ow 0)[j]? = some o ∧ o.num (fun _ => 0) 0 = some b) ∨ w.heap.size ≤ b) → S b := fun b hb => by rw [hS]; exact .inr (.inr hb)
      exact (((hkW1.mono fun b hb _ => hsub b hb).trans (putObj_keep _ hno)).trans (hkW3.mono fun b hb _ => hsub b hb)).trans (putObj_keep _ hno)
  have hcall := hit ρ w hs.base w1 hk1 (fun b ⟨j, o, h1, h2⟩ => hnlt j o b h1 h2) hap ll J hJst hround hJ0
  refine ⟨ll, [{ target := .collected w.heap.size, args := #[] }], w1, { target := .fn (.func f) caps, args := #[.func (.yield ll) #[] #[]] }, w1, f, #[.func (.yield ll) #[] #[]] ++ caps, w1, ?_, ?_, fun _ _ => trivial, ?_, fun h => by simp [Fr, Fence.wide] at h, ?_⟩
  · rw [hw1, hll, hrec]
    exact run_enterLoop_outer fn a.tmps #[t] assign body
  · show (Deferred.ofValue (a.eval g) (#[Operand.const (.func (.yield ll) #[] #[])].map a.eval)).run P w1 = _
    rw [hgv]; simp [Deferred.ofValue, Act.eval]
  · show (invoke (.fn (.func f) caps) #[.func (.yield ll) #[] #[]]).run P w1 = _
    simp only [invoke]
    exact run_callFunc hfn
  · refine hcall.mono ?_
    rintro e W' ⟨⟨v, rfl⟩, hj⟩
    rw [hJ] at hj
    obtain ⟨g1, g2, g3⟩ := hj
    have hst : rec.state ≠ .busy := by rw [hrec]; simp
    have hpd : rec.pending = none := by rw [hrec]
    refine ⟨none, _, by rw [← hpd]; exact run_endLoop g3 hst, ?_⟩
    have hllt : ll < W'.heap.size := (Array.getElem?_eq_some_iff.1 g3).1
    have hnlt' : ∀ (j : Nat) (o : Own) b, (ow m)[j]? = some o → o.num ρ j = some b → b < w.heap.size ∧ ∃ o', σ.own[j]? = some o' ∧ o'.num (fun _ => 0) 0 = some b := fun j o b hjo hn => by
      obtain ⟨o', h1, h2, h3⟩ := how m j o hjo
      rw [h3 ρ j] at hn
      exact ⟨hnlt j o' b h2 hn, o', h2, hn⟩
    have hb5 : Base ρ ⟨σ.n, [], ow m, σ.snaps, []⟩ (W'.putObj ll (.loop { rec with state := .exhausted })) := Base.putObj g1 (fun j o b hjo hn he => by have := (hnlt' j o b hjo hn).1; omega) fun p hp => .inl (by have := hsnlt p hp; omega)
    have hks0 := (hb5.keep _ hs0).1
    have hMk : Marks (w.heap.size :: ds) (W'.putObj ll (.loop { rec with state := .exhausted })) w0 := by
      refine ⟨List.nodup_cons.2 ⟨fun hm => ?_, hM.1⟩, fun d hd => ?_⟩
      · have := (hM.2 _ hm).2.1
        have := hsnlt _ hs0
        simp only at this; omega
      · rcases List.mem_cons.1 hd with rfl | hd
        · refine ⟨(hs.base.keep _ hw0).1.size, by simp; omega, ?_⟩
          rw [World.putObj_heap_other (by omega)]; exact g2
        · obtain ⟨q1, q2, q3⟩ := hM.2 d hd
          exact ⟨q1, Nat.lt_of_lt_of_le q2 hks0.size, by rw [hks0.block d hd q2]; exact q3⟩
    refine ⟨ρ, ⟨σ.n, keepE σ.env kp, ow m, ((fun b => b ∈ w.heap.size :: ds), W'.putObj ll (.loop { rec with state := .exhausted })) :: σ.snaps, .mk w.heap.size :: σ.dfs⟩, ⟨hs.size, ?_, fun i s hi => ?_, ?_⟩, k w.heap.size _ hMk⟩
    · show [{ target := .collected w.heap.size, args := #[] }] ++ a.defers = _
      rw [hs.defers]; rfl
    · have h5 := keepE_mem (getE_mem hi)
      have h6 := hs.env i s h5
      refine ⟨h6.1, fun ρ' _ => ?_⟩
      rw [den_agree (m := 0) (ρ := ρ) (fun i hi => by omega) s (hkb _ (getE_mem hi))]
      exact h6.2 ρ (Agree.refl _ _)
    · refine ⟨hb5.own, hb5.apart, fun p hp => ?_⟩
      rcases List.mem_cons.1 hp with rfl | hp
      · refine ⟨Keep.refl _ _, fun j o b hjo hn hSb => ?_⟩
        obtain ⟨q1, o', q2, q3⟩ := hnlt' j o b hjo hn
        rcases List.mem_cons.1 hSb with rfl | hSb
        · omega
        · have := hsnown _ hs0 j o' b q2 q3 hSb
          have := (hM.2 b hSb).2.1
          simp only at *; omega
      · exact hb5.keep p hp

/-! ### The end of a function that holds such loops -/
def FinM (P : Program) (w0 : World) (rs : List ResultVar) (Q : Value → World → Prop) (σ : St) : Prop :=
  ((fun _ => True), w0) ∈ σ.snaps ∧ (∃ ds s0, σ.dfs = ds.map .mk ∧ ((fun b => b ∈ ds), s0) ∈ σ.snaps ∧ Marks ds s0 w0) ∧ ∃ s, resSV P σ rs = some s ∧ ∀ ρ w', Base ρ ⟨σ.n, σ.env, σ.own, [((fun _ => True), w0)], []⟩ w' → Q (den ρ s) w'
def EndsM (P : Program) (w0 : World) (rs : List ResultVar) (Q : Value → World → Prop) : Exit → St → Prop
  | .ret, σ => FinM P w0 rs Q σ
  | .normal, σ => FinM P w0 rs Q σ
  | _, _ => False
theorem FinM.of {w0 : World} {rs : List ResultVar} {Q : Value → World → Prop} (hm : ((fun _ => True), w0) ∈ σ.snaps ∧ ∃ ds s0, σ.dfs = ds.map .mk ∧ ((fun b => b ∈ ds), s0) ∈ σ.snaps ∧ Marks ds s0 w0) (h : RunR (resSV P σ rs) fun s => ∀ ρ w', Base ρ ⟨σ.n, σ.env, σ.own, [((fun _ => True), w0)], []⟩ w' → Q (den ρ s) w') : FinM P w0 rs Q σ := by
  cases hr : resSV P σ rs with
  | none => rw [hr] at h; exact h.elim
  | some s => rw [hr] at h; exact ⟨hm.1, hm.2, s, hr, h⟩

theorem leaves_marks {fn : Func} {tmps : Array Value} {R : Ending → World → Prop} {v : Value} : ∀ (ds : List Nat) (w : World), ds.Nodup → (∀ d, d ∈ ds → w.heap[d]? = some (.deferred (some []))) →
    (∀ w', Keep (fun b => b ∉ ds) w w' → (results fn tmps).run P w' = .ok v w' ∧ R (.returned v) w') → LeavesInM (Fr none) 0 P fn tmps R ((ds.map Dm.mk).map mark) .returning w
  | [], w, _, _, h => by
    obtain ⟨h1, h2⟩ := h w (Keep.refl _ _)
    exact ⟨v, h1, h2⟩
  | d :: ds, w, hnd, hd, h => by
    have h0 := hd d (by simp)
    have hlt := (Array.getElem?_eq_some_iff.1 h0).1
    refine ⟨by simp, .inl ⟨d, _, rfl, run_takeDeferred h0, leaves_marks ds _ (List.nodup_cons.1 hnd).2 (fun e he => ?_) fun w' hk => h w' ?_⟩⟩
    · rw [World.putObj_heap_other (fun hh : e = d => (List.nodup_cons.1 hnd).1 (by rw [← hh]; exact he))]
      exact hd e (by simp [he])
    · exact (putObj_keep (fun b => b ∉ d :: ds) (by simp)).trans (hk.mono fun b hb _ hb2 => hb (by simp [hb2]))
/-- A function's call out of a proof about its body, that holds loops over functions. -/
theorem gives_of_marks {f : FuncId} {fn : Func} {c : Code} {args : Array Value} {w : World} {Q : Value → World → Prop} (svs : List SV) (n : Nat) (rs : List ResultVar)
    (hf : P.funcs[f]? = some fn) (hb : fn.body = some c) (hn : fn.ntmps = n) (hr : fn.results = rs.toArray) (hl : svs.length ≤ n) (ha : args = (denL (fun _ => 0) svs).toArray) (hbn : bndL 0 svs = true)
    (h : W P c (EndsM P w rs Q) ⟨n, initE 0 svs, [], [((fun b => b ∈ ([] : List Nat)), w), ((fun _ => True), w)], []⟩) : Gives P f args w Q := by
  refine (callsIn_wide (n := 0)).1 ?_
  refine callsIn_of_wp_marks (F := Fr none) hf hb trivial ?_
  subst ha
  refine wpIn_mono (h (fun _ => 0) _ w ?_) ?_
  · refine ⟨by simp [hn]; omega, rfl, fun i s hi => ?_, ⟨fun k o hk => by simp at hk, fun i j oi oj b h1 => by simp at h1, fun p hp => ?_⟩⟩
    · obtain ⟨k, rfl, hk⟩ := initE_get svs 0 i s hi
      have hkl : k < svs.length := (List.getElem?_eq_some_iff.1 hk).1
      simp only [Nat.zero_add]
      refine ⟨by show k < n; omega, fun ρ' hρ => ?_⟩
      have : denL ρ' svs = denL (fun _ => 0) svs := denL_agree (m := 0) (fun i hi => by omega) svs hbn
      have hk2 : (denL (fun _ => 0) svs)[k]? = some (den ρ' s) := by rw [← this, denL_eq]; simp [hk]
      rw [Array.getElem?_append_left (by simp; exact hkl)]
      simpa using hk2
    · simp only [List.mem_cons, List.not_mem_nil, or_false] at hp
      rcases hp with rfl | rfl <;> exact ⟨Keep.refl _ _, fun k o b hk => by simp at hk⟩
  · rintro e a' w' ⟨ρ, σ, hs, hq⟩
    have fin : FinM P w rs Q σ → LeavesInM (Fr none) 0 P fn a'.tmps (fun e w' => ∃ v', e = .returned v' ∧ Below w.heap.size w w' ∧ Q v' w') a'.defers .returning w' := by
      rintro ⟨hm, ⟨dl, s0, hdl, hs0, hM⟩, s, hs1, hs2⟩
      rw [hs.defers, hdl]
      have hks := (hs.base.keep _ hs0).1
      have hownd : ∀ (k : Nat) (o : Own) b, σ.own[k]? = some o → o.num ρ k = some b → ¬ b ∈ dl := fun k o b h1 h2 h3 => by
        have := (hs.base.keep _ hs0).2 k o b h1 h2 h3
        have := (hM.2 b h3).2.1
        simp only at *; omega
      refine leaves_marks (v := den ρ s) dl w' hM.1 (fun d hd => ?_) fun w2 hk => ?_
      · obtain ⟨_, q2, q3⟩ := hM.2 d hd
        rw [hks.block d hd q2]; exact q3
      · have hb2 : Base ρ ⟨σ.n, σ.env, σ.own, [((fun _ => True), w)], []⟩ w2 := by
          refine Base.apartB (σ := ⟨σ.n, σ.env, σ.own, [((fun _ => True), w)], []⟩) (B := fun b => b ∈ dl) (w := w') ⟨hs.base.own, hs.base.apart, fun p hp => ?_⟩ hk hownd fun p hp b _ hlt hbd => ?_
          · simp only [List.mem_singleton] at hp; subst hp; exact hs.base.keep _ hm
          · simp only [List.mem_singleton] at hp; subst hp
            have := (hM.2 b hbd).1
            simp only at *; omega
        have hs' : Sat ρ ⟨σ.n, σ.env, σ.own, [((fun _ => True), w)], []⟩ { tmps := a'.tmps, defers := [] } w2 := ⟨hs.size, rfl, hs.env, hb2⟩
        have hs1' : resSV P ⟨σ.n, σ.env, σ.own, [((fun _ => True), w)], []⟩ rs = some s := by
          have key : ∀ r, resOne P ⟨σ.n, σ.env, σ.own, [((fun _ => True), w)], []⟩ r = resOne P σ r := fun r => by
            cases r with
            | tmp t => rfl
            | cell a t => rfl
          have key2 : ∀ l, resAll P ⟨σ.n, σ.env, σ.own, [((fun _ => True), w)], []⟩ l = resAll P σ l := fun l => by
            induction l with
            | nil => rfl
            | cons r l ih => simp only [resAll, key, ih]
          unfold resSV at hs1 ⊢
          rw [key2]; exact hs1
        refine ⟨?_, den ρ s, rfl, (hb2.keep ((fun _ => True), w) (by simp)).1.toBelow, hs2 ρ w2 hb2⟩
        unfold resSV at hs1'
        cases hra : resAll P ⟨σ.n, σ.env, σ.own, [((fun _ => True), w)], []⟩ rs with
        | none => rw [hra] at hs1'; cases hs1'
        | some ss =>
          have hrun := run_results hs' rs ss hra
          rw [results_eq, hr]
          simp only [Sem.run_bind, List.mapM_toArray, Sem.run_map, hrun, Result.andThen_ok, Sem.run_pure]
          rw [hra] at hs1'
          match ss, hs1' with
          | [], h1 => simp only [Option.some.injEq] at h1; subst h1; simp [denL, den]
          | [x], h1 => simp only [Option.some.injEq] at h1; subst h1; simp [denL]
          | x :: y :: l, h1 => simp only [Option.some.injEq] at h1; subst h1; simp [denL, den]
    cases e with
    | normal => exact fin hq
    | ret => exact fin hq
    | _ => exact hq.elim

/-! ### All blocks of the call's own get numbers, and lose them -/
def pinOw (β : Nat → Nat) : Nat → List Own → List Own
  | _, [] => []
  | k, .cells T cs :: l => boxO T (β k) (denL β cs) :: pinOw β (k + 1) l
  | k, .slice T sz v n xs :: l => .slice T sz v n xs :: pinOw β (k + 1) l
  | k, .map r es c :: l => .map r es c :: pinOw β (k + 1) l
  | k, .dead :: l => .dead :: pinOw β (k + 1) l
theorem pinOw_box (β : Nat → Nat) (k T b : Nat) (cs : List Value) (l : List Own) : pinOw β k (boxO T b cs :: l) = boxO T b cs :: pinOw β (k + 1) l := rfl
def pinEn (β : Nat → Nat) : List (Nat × SV) → List (Nat × SV)
  | [] => []
  | (i, s) :: l => (i, .val (den β s)) :: pinEn β l
def smallO : Own → Bool
  | .cells _ cs => decide (cs.length ≤ 9223372036854775807)
  | _ => true
theorem pinEn_get {β : Nat → Nat} : ∀ (l : List (Nat × SV)) (i : Nat) (s : SV), getE (pinEn β l) i = some s → ∃ s', getE l i = some s' ∧ s = .val (den β s')
  | [], i, s, h => by cases h
  | (j, x) :: l, i, s, h => by
    simp only [pinEn, getE] at h ⊢
    split at h
    · rename_i he; rw [if_pos he]; exact ⟨x, rfl, (Option.some.inj h).symm⟩
    · rename_i he; rw [if_neg he]; exact pinEn_get l i s h
theorem pinOw_get {β : Nat → Nat} : ∀ (l : List Own) (j k : Nat) (o : Own), (pinOw β j l)[k]? = some o → ∃ o', l[k]? = some o' ∧ ((freeO o' = true ∧ o = o') ∨ ∃ T cs, o' = .cells T cs ∧ o = boxO T (β (j + k)) (denL β cs))
  | [], j, k, o, h => by simp [pinOw] at h
  | x :: l, j, 0, o, h => by
    cases x with
    | cells T cs => simp only [pinOw, List.getElem?_cons_zero, Option.some.injEq] at h; exact ⟨_, rfl, .inr ⟨T, cs, rfl, h.symm⟩⟩
    | _ => simp only [pinOw, List.getElem?_cons_zero, Option.some.injEq] at h; exact ⟨_, rfl, .inl ⟨rfl, h.symm⟩⟩
  | x :: l, j, k + 1, o, h => by
    have h' : (pinOw β (j + 1) l)[k]? = some o := by cases x <;> simpa [pinOw] using h
    obtain ⟨o', h1, h2⟩ := pinOw_get l (j + 1) k o h'
    refine ⟨o', by simpa using h1, ?_⟩
    rcases h2 with h2 | ⟨T, cs, h3, h4⟩
    · exact .inl h2
    · exact .inr ⟨T, cs, h3, by rw [h4]; congr 1; rw [show j + 1 + k = j + (k + 1) by omega]⟩
theorem pinOw_length (β : Nat → Nat) : ∀ (l : List Own) (j : Nat), (pinOw β j l).length = l.length
  | [], j => rfl
  | x :: l, j => by cases x <;> simp [pinOw, pinOw_length β l]
theorem W.pinA {rO : Option Nat} {c : Code} (hl : σ.own.all smallO = true) (h : ∀ β, WR rO P c Q ⟨σ.n, pinEn β σ.env, pinOw β 0 σ.own, σ.snaps, σ.dfs⟩) : WR rO P c Q σ := fun ρ a w hs => by
  refine h ρ ρ a w ?_
  have key : ∀ (k : Nat) (o : Own), (pinOw ρ 0 σ.own)[k]? = some o → ∃ o', σ.own[k]? = some o' ∧ o.num ρ k = o'.num ρ k ∧ ∀ ρ', o.holds ρ' k w := fun k o hk => by
    obtain ⟨o', h1, h2⟩ := pinOw_get σ.own 0 k o hk
    have hh := hs.base.own k o' h1 ρ (Agree.refl _ _)
    rcases h2 with ⟨h2, rfl⟩ | ⟨T, cs, rfl, rfl⟩
    · exact ⟨o, h1, rfl, fun ρ' => freeO_holds h2 hh⟩
    · refine ⟨_, h1, by rw [Nat.zero_add]; rfl, fun ρ' => boxO_holds ?_ (by rw [Nat.zero_add]; exact hh)⟩
      have := List.all_eq_true.1 hl _ (List.mem_of_getElem? h1)
      simp only [smallO, decide_eq_true_eq] at this
      rw [denL_length]; simpa [maxLen] using this
  refine ⟨hs.size, hs.defers, fun i s hi => ?_, ⟨fun k o hk ρ' _ => ?_, fun i j oi oj b hi hj hni hnj => ?_, fun p hp => ⟨(hs.base.keep p hp).1, fun k o b hk hn hS => ?_⟩⟩⟩
  · obtain ⟨s', h1, rfl⟩ := pinEn_get _ _ _ hi
    exact ⟨(hs.env i s' h1).1, fun ρ' _ => (hs.env i s' h1).2 ρ (Agree.refl _ _)⟩
  · obtain ⟨_, _, _, h3⟩ := key k o hk; exact h3 ρ'
  · obtain ⟨o1, g1, g2, _⟩ := key i oi hi
    obtain ⟨o2, g3, g4, _⟩ := key j oj hj
    exact hs.base.apart i j o1 o2 b g1 g3 (by rw [← g2]; exact hni) (by rw [← g4]; exact hnj)
  · obtain ⟨o1, g1, g2, _⟩ := key k o hk
    exact (hs.base.keep p hp).2 k o1 b g1 (by rw [← g2]; exact hn) hS
def unpinOK (β : Nat → Nat) (m : Nat) : Nat → List Own → List Own → Prop
  | _, [], _ => True
  | _, _ :: _, [] => False
  | k, o :: l, o' :: l' => ((o = o' ∧ freeO o = true) ∨ ∃ T cs, o = .cells T cs ∧ o' = boxO T (β k) (denL β cs) ∧ bndL m cs = true) ∧ unpinOK β m (k + 1) l l'
theorem unpinOK_get {β : Nat → Nat} {m : Nat} : ∀ (l l' : List Own) (j k : Nat) (o : Own), unpinOK β m j l l' → l[k]? = some o → ∃ o', l'[k]? = some o' ∧ ((o = o' ∧ freeO o = true) ∨ ∃ T cs, o = .cells T cs ∧ o' = boxO T (β (j + k)) (denL β cs) ∧ bndL m cs = true)
  | [], _, _, _, _, _, h => by simp at h
  | _ :: _, [], _, _, _, h, _ => h.elim
  | x :: l, x' :: l', j, 0, o, h, hk => by
    simp only [List.getElem?_cons_zero, Option.some.injEq] at hk
    subst hk
    exact ⟨x', rfl, h.1⟩
  | x :: l, x' :: l', j, k + 1, o, h, hk => by
    obtain ⟨o', h1, h2⟩ := unpinOK_get l l' (j + 1) k o h.2 (by simpa using hk)
    refine ⟨o', by simpa using h1, ?_⟩
    rw [show j + 1 + k = j + (k + 1) by omega] at h2
    exact h2
theorem W.unpin {rO : Option Nat} {c : Code} (β : Nat → Nat) (τ : St) (hn : (τ.n, τ.dfs) = (σ.n, σ.dfs)) (he : ∀ p, p ∈ τ.env → getE σ.env p.1 = some (.val (den β p.2)) ∧ bnd τ.own.length p.2 = true) (ho : unpinOK β τ.own.length 0 τ.own σ.own)
    (hs0 : ∀ p, p ∈ τ.snaps → p ∈ σ.snaps) (h : WR rO P c Q τ) : WR rO P c Q σ := fun ρ a w hs => by
  have key : ∀ (k : Nat) (o : Own), τ.own[k]? = some o → ∃ o', σ.own[k]? = some o' ∧ o.num β k = o'.num ρ k ∧ ∀ ρ', Agree τ.own.length β ρ' → o.holds ρ' k w := fun k o hk => by
    obtain ⟨o', h1, h2⟩ := unpinOK_get _ _ 0 k o ho hk
    have hh := hs.base.own k o' h1 ρ (Agree.refl _ _)
    rcases h2 with ⟨rfl, h2⟩ | ⟨T, cs, rfl, rfl, h3⟩
    · exact ⟨o, h1, freeO_num h2 β ρ k k, fun ρ' _ => freeO_holds h2 hh⟩
    · refine ⟨_, h1, by rw [Nat.zero_add]; rfl, fun ρ' hρ => ?_⟩
      have hhp := boxO_heap hh
      rw [Nat.zero_add] at hhp
      show w.heap[ρ' k]? = _
      rw [hρ k (List.getElem?_eq_some_iff.1 hk).1, denL_agree hρ cs h3]
      exact hhp
  refine h β a w ⟨hs.size.trans (congrArg Prod.fst hn).symm, by rw [show τ.dfs = σ.dfs from congrArg Prod.snd hn]; exact hs.defers, fun i s hi => ?_, ⟨fun k o hk ρ' hρ => ?_, fun i j oi oj b hi hj hni hnj => ?_, fun p hp => ⟨(hs.base.keep p (hs0 p hp)).1, fun k o b hk hn2 hS => ?_⟩⟩⟩
  · obtain ⟨h1, h2⟩ := he _ (getE_mem hi)
    have h3 := hs.env i _ h1
    refine ⟨by rw [show τ.n = σ.n from congrArg Prod.fst hn]; exact h3.1, fun ρ' hρ => ?_⟩
    rw [den_agree hρ s h2]
    exact h3.2 ρ (Agree.refl _ _)
  · obtain ⟨_, _, _, h3⟩ := key k o hk; exact h3 ρ' hρ
  · obtain ⟨o1, g1, g2, _⟩ := key i oi hi
    obtain ⟨o2, g3, g4, _⟩ := key j oj hj
    exact hs.base.apart i j o1 o2 b g1 g3 (by rw [← g2]; exact hni) (by rw [← g4]; exact hnj)
  · obtain ⟨o1, g1, g2, _⟩ := key k o hk
    exact (hs.base.keep p (hs0 p hp)).2 k o1 b g1 (by rw [← g2]; exact hn2) hS

/-- A loop in which loops over functions leave their marks. -/
theorem W.loopM {rO : Option Nat} {c : Code} {X : Type} (kp : List Nat) (mods : X → List (Nat × SV)) (ow : X → List Own) (sn : X → List ((Nat → Prop) × World)) (dd : X → List Dm) (I : X → Prop) (μ : X → Nat) (x0 : X) (h0 : Le σ ⟨σ.n, mods x0 ++ keepE σ.env kp, ow x0, sn x0, dd x0⟩) (hI : I x0)
    (body : ∀ x, I x → WR rO P c (andThen (fun σ' => ∃ x', I x' ∧ μ x' < μ x ∧ Le σ' ⟨σ.n, mods x' ++ keepE σ.env kp, ow x', sn x', dd x'⟩) Q) ⟨σ.n, mods x ++ keepE σ.env kp, ow x, sn x, dd x⟩) : WR rO P (.loop c) Q σ :=
  W.loop (fun x => ⟨σ.n, mods x ++ keepE σ.env kp, ow x, sn x, dd x⟩) I μ x0 h0 hI body

/-- A call that hands over blocks of its own. -/
theorem WO.callN {f : FuncId} {ss : List SV} {X : Type} (val : X → Value) (os : X → List Own) (p : X → Prop) (hds : dsOk ds ops.toList = true) (hg : gd ds σ o.guard = some true) (hd : dOk σ o.dst = true)
    (hc : callS σ o.op = some (f, ss)) (hf : callOk P f = true) (hfr : ∀ x o, o ∈ os x → freeO o = true)
    (h : ∀ ρ w, Base ρ σ w → Gives P f (denL ρ ss).toArray w fun v w' => ∃ x, v = val x ∧ p x ∧ (∀ (j : Nat) (o : Own), (os x)[j]? = some o → o.holds (fun _ => 0) 0 w' ∧ ∀ b, o.num (fun _ => 0) 0 = some b → w.heap.size ≤ b) ∧
      ∀ (i j : Nat) (oi oj : Own) b, (os x)[i]? = some oi → (os x)[j]? = some oj → oi.num (fun _ => 0) 0 = some b → oj.num (fun _ => 0) 0 = some b → i = j)
    (k : ∀ x, p x → WO P ops Q rest ((⟨σ.n, σ.env, σ.own ++ os x, σ.snaps, σ.dfs⟩ : St).put o.dst (.val (val x)))) : WO P ops Q (o :: rest) σ := fun ρ a w hs => by
  simp only [wpList, gd_sound hs hds hg, if_true]
  refine .inl ?_
  unfold Oper.wp
  rw [callS_run hs hf hc, Oper.upon_enter]
  refine Calls.mono (h ρ w hs.base) fun e w' ⟨v, he, hb, x, hv, hp, hos, hap⟩ => ?_
  subst he
  subst hv
  have hb' := hs.base.below hb
  have hcase : ∀ (k : Nat) (o' : Own), (σ.own ++ os x)[k]? = some o' → (k < σ.own.length ∧ σ.own[k]? = some o') ∨ (σ.own.length ≤ k ∧ (os x)[k - σ.own.length]? = some o') := fun k o' hk => by
    rcases Nat.lt_or_ge k σ.own.length with h | h
    · rw [List.getElem?_append_left h] at hk; exact .inl ⟨h, hk⟩
    · rw [List.getElem?_append_right h] at hk; exact .inr ⟨h, hk⟩
  have hlt : ∀ k o' b, σ.own[k]? = some o' → Own.num ρ k o' = some b → b < w.heap.size := fun k o' b hk hn => Own.lt (hs.base.own k o' hk ρ (Agree.refl _ _)) hn
  have hnew : ∀ (j k : Nat) (o' : Own) b, (os x)[j]? = some o' → o'.num ρ k = some b → w.heap.size ≤ b ∧ o'.num (fun _ => 0) 0 = some b := fun j k o' b hj hn => by
    have := hos j o' hj
    rw [freeO_num (hfr x o' (List.mem_of_getElem? hj)) ρ (fun _ => 0) k 0] at hn
    exact ⟨this.2 b hn, hn⟩
  refine k x hp ρ _ w' (Sat.put (σ := ⟨σ.n, σ.env, σ.own ++ os x, σ.snaps, σ.dfs⟩) ⟨hs.size, hs.defers, fun i s hi => ⟨(hs.env i s hi).1, fun ρ' hρ => (hs.env i s hi).2 ρ' (hρ.mono (by simp))⟩, ⟨fun k o' hk ρ' hρ => ?_, fun i j oi oj b hi hj hni hnj => ?_, fun q hq => ⟨(hb'.keep q hq).1, fun k o' b hk hn hS => ?_⟩⟩⟩ _ _ _ (dOk_lt (σ := ⟨σ.n, σ.env, σ.own ++ os x, σ.snaps, σ.dfs⟩) hd) fun _ _ => rfl)
  · rcases hcase k o' hk with ⟨_, h1⟩ | ⟨_, h1⟩
    · exact hb'.own k o' h1 ρ' (hρ.mono (by simp))
    · exact freeO_holds (hfr x o' (List.mem_of_getElem? h1)) (hos _ o' h1).1
  · rcases hcase i oi hi with ⟨g1, g2⟩ | ⟨g1, g2⟩ <;> rcases hcase j oj hj with ⟨g3, g4⟩ | ⟨g3, g4⟩
    · exact hb'.apart i j oi oj b g2 g4 hni hnj
    · have := hlt i oi b g2 hni; have := (hnew _ j oj b g4 hnj).1; omega
    · have := hlt j oj b g4 hnj; have := (hnew _ i oi b g2 hni).1; omega
    · have := hap _ _ oi oj b g2 g4 (hnew _ i oi b g2 hni).2 (hnew _ j oj b g4 hnj).2
      omega
  · rcases hcase k o' hk with ⟨_, h1⟩ | ⟨_, h1⟩
    · exact (hb'.keep q hq).2 k o' b h1 hn hS
    · have := (hnew _ k o' b h1 hn).1
      have := (hs.base.keep q hq).1.size
      omega
end
end Go.SX
