/-
  The symbolic executor's rules for a region: runs of plain operations, calls, reads of memory that came in, slices of the call's own.
-/
import Derived.Test.YtnbfdncmlbegmaaSxGives
set_option linter.unusedVariables false
set_option linter.unusedSimpArgs false
namespace Go.SX
open Go Go.RowKit

def WO (P : Program) (ops : Array Oper) (Q : Exit → St → Prop) (l : List Oper) (σ : St) : Prop := ∀ ρ a w, Sat ρ σ a w → wpList P ops (lift Q) l a w

def dsOk : List (Option Nat) → List Oper → Bool
  | [], _ => true
  | _ :: _, [] => false
  | d :: ds, o :: l => (match d, o.dst with | some i, some j => i == j | none, none => true | _, _ => false) && dsOk ds l

theorem dsOk_get : ∀ {ds : List (Option Nat)} {l : List Oper} {j t : Nat}, dsOk ds l = true → nth ds j = some (some t) → ∃ o, l[j]? = some o ∧ o.dst = some t
  | [], _, _, _, _, h => by simp [nth] at h
  | _ :: _, [], _, _, h, _ => by cases h
  | d :: ds, o :: l, j, t, h, hj => by
    simp only [dsOk, Bool.and_eq_true] at h
    cases j with
    | zero =>
      simp only [nth, if_true, Option.some.injEq] at hj
      subst hj
      refine ⟨o, rfl, ?_⟩
      have h1 := h.1
      cases hd : o.dst with
      | none => rw [hd] at h1; simp at h1
      | some i => rw [hd] at h1; simp at h1; rw [h1]
    | succ j =>
      simp only [nth, Nat.add_one_ne_zero, if_false, Nat.add_sub_cancel] at hj
      obtain ⟨o', h2, h3⟩ := dsOk_get h.2 hj
      exact ⟨o', by simpa using h2, h3⟩

section
variable {P : Program} {ops : Array Oper} {Q : Exit → St → Prop} {σ : St} {l rest : List Oper} {o : Oper} {ds : List (Option Nat)}

theorem gd_sound {ρ : Nat → Nat} {a : Act} {w : World} (hs : Sat ρ σ a w) (hds : dsOk ds ops.toList = true) {b : Bool} (h : gd ds σ o.guard = some b) : Region.wanted o (yielded ops a.tmps) = b := by
  unfold Region.wanted
  cases hg : o.guard with
  | none => rw [hg] at h; simpa [gd] using h
  | some p =>
    obtain ⟨j, want⟩ := p
    rw [hg] at h
    simp only [gd] at h
    split at h
    · rename_i t ht
      obtain ⟨oj, h1, h2⟩ := dsOk_get hds ht
      have hj : ops[j]? = some oj := by simpa using h1
      split at h
      · rename_i c hc
        have := hs.eval hc
        simp only [Option.some.injEq] at h; subst h
        simp [yielded, hj, h2, this, den]
      · rename_i vs hc
        have := hs.eval hc
        simp only [Option.some.injEq] at h; subst h
        simp [yielded, hj, h2, this, den]
      · cases h
    · cases h

def opPlain : Op → Bool
  | .defer _ => false
  | _ => true
theorem semAt_plain {o : Oper} (h : opPlain o.op = true) (r : Option Nat) (e : Operand → Value) : o.semAt r e = execOp e o := Oper.semAt_eq r e o fun c hc => by rw [hc] at h; cases h
/-- What operations do they do in a round too. -/
theorem wpOps_in {r : Option Nat} {P : Program} {ops : Array Oper} {Q : Exit → Act → World → Prop} (hq : ¬ LetsOut Q) (hpl : ops.toList.all (fun o => opPlain o.op) = true) : ∀ (order : List Nat) (a : Act) (w : World), wpOps P ops Q order a w → wpOpsIn (Fr r) 0 P ops Q order a w
  | [], a, w, h => h
  | i :: rest, a, w, h => by
    unfold wpOps at h
    unfold wpOpsIn
    cases ho : ops[i]? with
    | none => rw [ho] at h; exact wpOps_in hq hpl rest a w h
    | some o =>
      rw [ho] at h
      simp only at h ⊢
      have hp : opPlain o.op = true := by
        have := List.all_eq_true.1 hpl o (by rw [← Array.getElem?_toList] at ho; exact List.mem_of_getElem? ho)
        exact this
      split
      · rename_i hw
        rw [if_pos hw] at h
        rcases h with h | ⟨_, h⟩
        · refine ⟨fun _ _ => trivial, ?_⟩
          rw [semAt_plain hp]
          unfold Oper.wp at h
          generalize (execOp a.eval o).run P w = res at h ⊢
          unfold Oper.upon at h
          unfold Oper.uponIn
          split at h
          · exact wpOps_in hq hpl rest _ _ h
          · exact wpOps_in hq hpl rest _ _ h
          · exact wpOps_in hq hpl rest _ _ h
          · refine ⟨fun h => by simp [Fr, Fence.wide] at h, ?_⟩
            show CallsIn Fence.wide _ P _ _ _ _
            refine callsIn_wide.2 (Calls.mono h fun e w' h' => ?_)
            cases e with
            | returned v => exact wpOps_in hq hpl rest _ _ h'
            | panicked c => exact h'
            | outgrown => exact h'
          · refine ⟨fun h => by simp [Fr, Fence.wide] at h, ?_⟩
            show RowsIn Fence.wide _ P _ _ _ _
            exact fun c cs _ => let ⟨v, w4, h4, h5⟩ := h c cs; ⟨v, w4, wpOps_in hq hpl rest _ _ h4, stepsIn_wide.2 h5⟩
          · exact h
          · exact h.elim
        · exact absurd h hq
      · rename_i hw
        rw [if_neg hw] at h
        exact ⟨fun _ _ => trivial, wpOps_in hq hpl rest _ _ h⟩
theorem letsOut_lift {Q : Exit → St → Prop} (h : ∀ σ, ¬ Q .outgrown σ) : ¬ LetsOut (lift Q) := fun ⟨_, _, _, σ, _, hq⟩ => h σ hq
theorem W.region {rO : Option Nat} {id : Nat} (h : WO P ops Q ops.toList σ) (hp : rO = none ∨ (ops.toList.all (fun o => opPlain o.op) = true ∧ ∀ σ, ¬ Q .outgrown σ) := by first | exact .inl rfl | exact .inr ⟨rfl, fun _ h => h⟩) : WR rO P (.region id ops false) Q σ := fun ρ a w hs => by
  rcases hp with rfl | ⟨h1, h2⟩
  · exact of_wp (wp_region_list (h ρ a w hs))
  · refine wpIn_region (wpOps_in (letsOut_lift h2) h1 _ _ _ ?_)
    rw [List.range_eq_range', ← Array.length_toList, wpOps_eq_wpList ops.toList 0 (by simp)]; exact h ρ a w hs
theorem WO.nil (h : Q .normal σ) : WO P ops Q [] σ := fun ρ a w hs => ⟨ρ, σ, hs, h⟩
theorem WO.le {σ' : St} (h : Le σ σ') (hw : WO P ops Q l σ') : WO P ops Q l σ := fun ρ a w hs => hw ρ a w (hs.le h)

/-- One operation that yields a value, or nothing. -/
theorem WO.one (hds : dsOk ds ops.toList = true) (hg : gd ds σ o.guard = some true)
    (h : ∀ ρ a w, Sat ρ σ a w → ∃ ρ' σ' v w', ((execOp a.eval o).run P w = .ok (.value v) w' ∨ ((execOp a.eval o).run P w = .ok .skip w' ∧ v = undef)) ∧ Sat ρ' σ' (a.put o.dst v) w' ∧ WO P ops Q rest σ') : WO P ops Q (o :: rest) σ := fun ρ a w hs => by
  obtain ⟨ρ', σ', v, w', hrun, hs', hk⟩ := h ρ a w hs
  simp only [wpList, gd_sound hs hds hg, if_true]
  refine .inl ?_
  unfold Oper.wp
  rcases hrun with hrun | ⟨hrun, rfl⟩
  · rw [hrun, Oper.upon_value]; exact hk ρ' _ w' hs'
  · rw [hrun, Oper.upon_skip]; exact hk ρ' _ w' hs'

theorem WO.skip (hds : dsOk ds ops.toList = true) (hg : gd ds σ o.guard = some false) {σ' : St} (h1 : skip1 σ o.dst = some σ') (hk : WO P ops Q rest σ') : WO P ops Q (o :: rest) σ := fun ρ a w hs => by
  simp only [wpList, gd_sound hs hds hg]
  unfold skip1 at h1
  split at h1
  · rename_i hd
    simp only [Option.some.injEq] at h1; subst h1
    exact hk ρ _ w (hs.put _ _ _ (dOk_lt hd) fun _ _ => rfl)
  · cases h1

/-- n operations at once. -/
theorem WO.go (n : Nat) (hds : dsOk ds ops.toList = true) (h : RunThen (run P ds l n σ) (WO P ops Q)) : WO P ops Q l σ := by
  induction l generalizing n σ with
  | nil =>
    simp only [run] at h
    split at h
    · exact h
    · simp [RunThen] at h
  | cons o l ih =>
    simp only [run] at h
    split at h
    · exact h
    · split at h
      · rename_i hg
        cases hst : step P σ o.dst o.op with
        | none => simp [hst, RunThen] at h
        | some σ' =>
          simp only [hst, Option.bind_some] at h
          refine WO.one hds hg fun ρ a w hs => ?_
          obtain ⟨ρ', v, w', h1, h2⟩ := step_sound hs hst
          exact ⟨ρ', σ', v, w', h1, h2, ih _ h⟩
      · rename_i hg
        cases hst : skip1 σ o.dst with
        | none => simp [hst, RunThen] at h
        | some σ' => simp only [hst, Option.bind_some] at h; exact WO.skip hds hg hst (ih _ h)
      · simp [RunThen] at h

theorem run_nil {P : Program} {ds : List (Option Nat)} : ∀ (l : List Oper) (n : Nat) {l' : List Oper} {σ σ' : St}, n = l.length → run P ds l n σ = some (l', σ') → l' = []
  | [], n, l', σ, σ', hn, h => by
    subst hn
    simp only [run, List.length_nil, if_true, Option.some.injEq, Prod.mk.injEq] at h
    exact h.1.symm
  | o :: l, n, l', σ, σ', hn, h => by
    subst hn
    simp only [run, List.length_cons, Nat.add_one_ne_zero, if_false, Nat.add_sub_cancel] at h
    split at h
    · cases hst : step P σ o.dst o.op with
      | none => simp [hst] at h
      | some σ1 => simp only [hst, Option.bind_some] at h; exact run_nil l _ rfl h
    · cases hst : skip1 σ o.dst with
      | none => simp [hst] at h
      | some σ1 => simp only [hst, Option.bind_some] at h; exact run_nil l _ rfl h
    · cases h

/-- A region of plain operations, and what follows behind a variable. -/
theorem W.pure {rO : Option Nat} {id : Nat} {y : Code} (hds : dsOk ds ops.toList = true) (h : ∀ K : St → Prop, (∀ t, WR rO P y Q t → K t) → RunThen (run P ds ops.toList ops.toList.length σ) (fun _ σ' => K σ')) (hp : rO = none ∨ (ops.toList.all (fun o => opPlain o.op) = true ∧ ∀ σ, ¬ Q .outgrown σ) := by first | exact .inl rfl | exact .inr ⟨rfl, fun _ h => h⟩) : WR rO P (.seq (.region id ops false) y) Q σ :=
  W.seqM (fun t => WR rO P y Q t) (W.region (WO.go ops.toList.length hds (by
    have := h (fun t => WR rO P y Q t) fun _ h => h
    cases hr : run P ds ops.toList ops.toList.length σ with
    | none => rw [hr] at this; exact this.elim
    | some p =>
      obtain ⟨l, σ'⟩ := p
      rw [hr] at this
      have hl : l = [] := run_nil _ _ rfl hr
      subst hl
      exact WO.nil this)) (hp.imp (fun h => h) fun h => ⟨h.1, h.2⟩)) fun _ h => h
/-- Two ways, by what a slot holds. -/
theorem WO.cases (i : Nat) (b : Bool) (hi : getE σ.env i = some (.val (.bool b))) (h1 : b = true → WO P ops Q l (σ.put (some i) (.val (.bool true)))) (h2 : b = false → WO P ops Q l (σ.put (some i) (.val (.bool false)))) : WO P ops Q l σ := by
  have key : ∀ c, b = c → WO P ops Q l (σ.put (some i) (.val (.bool c))) → WO P ops Q l σ := fun c hc h ρ a w hs => by
    subst hc
    refine h ρ a w ?_
    have hs' := hs.put (some i) (.val (.bool b)) (.bool b) (fun j hj => by cases hj; exact (hs.env i _ hi).1) (fun _ _ => rfl)
    have he := hs.eval hi
    have : a.put (some i) (.bool b) = a := by
      simp only [Act.put]
      have hlt : i < a.tmps.size := by rw [hs.size]; exact (hs.env i _ hi).1
      have : a.tmps.setIfInBounds i (.bool b) = a.tmps := by
        apply Array.ext_getElem?
        intro j
        by_cases hj : i = j
        · subst hj; simp [hlt, he, den]
          rw [Array.getElem?_eq_getElem hlt] at he
          simpa [den] using (Option.some.inj he).symm
        · rw [Array.getElem?_setIfInBounds_ne hj]
      rw [this]
    rwa [this] at hs'
  cases b with
  | true => exact key true rfl (h1 rfl)
  | false => exact key false rfl (h2 rfl)

/-! ### Calls -/
def calleeS : SV → List SV → Option (FuncId × List SV)
  | .val (.func (.func f) fi ca), args => some (f, fi.toList.map .val ++ (args ++ ca.toList.map .val))
  | .fn (.func f) fi ca, args => some (f, fi ++ (args ++ ca))
  | _, _ => none
def callS (σ : St) : Op → Option (FuncId × List SV)
  | .call c => match c.callee with
    | .value x => match ev σ x, evL σ c.args.toList with
      | some s, some ss => calleeS s ss
      | _, _ => none
    | _ => none
  | _ => none

theorem run_callFunc {f : FuncId} {args : Array Value} {w : World} (hf : callOk P f = true) : (callFunc f args).run P w = .ok (.enter f args) w := by
  unfold callOk at hf
  unfold callFunc
  split at hf
  · rename_i fn hfn
    simp only [Bool.and_eq_true, Bool.not_eq_true'] at hf
    rw [Sem.run_bind, run_program, Result.andThen_ok, hfn]
    simp [hf.1, hf.2]
  · cases hf

theorem callS_run {ρ : Nat → Nat} {a : Act} {w : World} (hs : Sat ρ σ a w) {f : FuncId} {ss : List SV} (hf : callOk P f = true) (h : callS σ o.op = some (f, ss)) :
    (execOp a.eval o).run P w = .ok (.enter f (denL ρ ss).toArray) w := by
  obtain ⟨dst, op, ty, pos, after, guard⟩ := o
  cases op <;> simp only [callS, reduceCtorEq] at h
  case call c =>
    obtain ⟨callee, args, tys⟩ := c
    simp only at h
    split at h
    · rename_i x
      split at h
      · rename_i s ss' hx hss
        have h1 := hs.ev hx ρ (Agree.refl _ _)
        have h2 := hs.evL hss ρ (Agree.refl _ _)
        have h2' : (args.map a.eval) = (denL ρ ss').toArray := by apply Array.toList_inj.1; simpa using h2
        simp only [execOp, resolve, h1, h2']
        unfold calleeS at h
        split at h
        · simp only [Option.some.injEq, Prod.mk.injEq] at h
          obtain ⟨rfl, rfl⟩ := h
          simp [den, Deferred.ofValue, invoke, run_callFunc hf, denL_append, denL_val]
        · simp only [Option.some.injEq, Prod.mk.injEq] at h
          obtain ⟨rfl, rfl⟩ := h
          simp [den, Deferred.ofValue, invoke, run_callFunc hf, denL_append]
        · cases h
      · cases h
    · cases h

def St.snap (σ : St) (S : Nat → Prop) (s : World) : St := { σ with snaps := (S, s) :: σ.snaps }

theorem Sat.snap {ρ : Nat → Nat} {a : Act} {w : World} (hs : Sat ρ σ a w) (S : Nat → Prop) (hS : ∀ k (o : Own) b, σ.own[k]? = some o → o.num ρ k = some b → ¬ S b) : Sat ρ (σ.snap S w) a w :=
  ⟨hs.size, hs.defers, hs.env, hs.base.own, hs.base.apart, fun p hp => by
    rcases List.mem_cons.1 hp with rfl | hp
    · exact ⟨Keep.refl _ _, fun k o b hk hn h => absurd h (hS k o b hk hn)⟩
    · exact hs.base.keep p hp⟩

/-- A call, what comes back lying in memory. -/
theorem WO.callM {f : FuncId} {ss : List SV} {X : Type} (val : X → Value) (Post : Nat → X → World → Prop) (hds : dsOk ds ops.toList = true) (hg : gd ds σ o.guard = some true) (hd : dOk σ o.dst = true)
    (hc : callS σ o.op = some (f, ss)) (hf : callOk P f = true)
    (h : ∀ ρ w, Base ρ σ w → Gives P f (denL ρ ss).toArray w fun v w' => ∃ x, v = val x ∧ Post w.heap.size x w')
    (k : ∀ x lo s, Post lo x s → WO P ops Q rest ((σ.put o.dst (.val (val x))).snap (fun b => lo ≤ b) s)) : WO P ops Q (o :: rest) σ := fun ρ a w hs => by
  simp only [wpList, gd_sound hs hds hg, if_true]
  refine .inl ?_
  unfold Oper.wp
  rw [callS_run hs hf hc, Oper.upon_enter]
  refine Calls.mono (h ρ w hs.base) fun e w' ⟨v, he, hb, x, hv, hp⟩ => ?_
  subst he
  subst hv
  refine k x _ w' hp ρ _ w' (((hs.below hb).put _ _ _ (dOk_lt hd) fun _ _ => rfl).snap _ fun j oj b hj hn hle => ?_)
  have hj' : σ.own[j]? = some oj := by cases hdst : o.dst <;> simpa [hdst, St.put] using hj
  exact absurd (Own.lt (hs.base.own j oj hj' ρ (Agree.refl _ _)) hn) (by simpa using hle)

/-- A call, what comes back being no memory. -/
theorem WO.callX {f : FuncId} {ss : List SV} {X : Type} (val : X → Value) (p : X → Prop) (hds : dsOk ds ops.toList = true) (hg : gd ds σ o.guard = some true) (hd : dOk σ o.dst = true)
    (hc : callS σ o.op = some (f, ss)) (hf : callOk P f = true)
    (h : ∀ ρ w, Base ρ σ w → Gives P f (denL ρ ss).toArray w fun v _ => ∃ x, v = val x ∧ p x)
    (k : ∀ x, p x → WO P ops Q rest (σ.put o.dst (.val (val x)))) : WO P ops Q (o :: rest) σ := fun ρ a w hs => by
  simp only [wpList, gd_sound hs hds hg, if_true]
  refine .inl ?_
  unfold Oper.wp
  rw [callS_run hs hf hc, Oper.upon_enter]
  refine Calls.mono (h ρ w hs.base) fun e w' ⟨v, he, hb, x, hv, hp⟩ => ?_
  subst he
  subst hv
  exact k x hp ρ _ w' ((hs.below hb).put _ _ _ (dOk_lt hd) fun _ _ => rfl)

/-- A call that yields this value. -/
theorem WO.call {f : FuncId} {ss : List SV} (v : Value) (hds : dsOk ds ops.toList = true) (hg : gd ds σ o.guard = some true) (hd : dOk σ o.dst = true)
    (hc : callS σ o.op = some (f, ss)) (hf : callOk P f = true)
    (h : ∀ ρ w, Base ρ σ w → Gives P f (denL ρ ss).toArray w fun v' _ => v' = v)
    (k : WO P ops Q rest (σ.put o.dst (.val v))) : WO P ops Q (o :: rest) σ :=
  WO.callX (fun _ : Unit => v) (fun _ => True) hds hg hd hc hf (fun ρ w hb => (h ρ w hb).mono fun _ _ _ hv => ⟨(), hv, trivial⟩) fun _ _ => k

/-! ### Memory that came in -/
/-- What lies from p on. -/
def At (w : World) (p : Addr) (cs : List Value) : Prop := ∀ j v, cs[j]? = some v → w.cell? (p.add j) = some v

/-- A value out of its cells. -/
def ofCells (agg : Bool) (cs : List Value) : Value := if agg then .agg cs.toArray else cs.headD undef

theorem At.load {w : World} {p : Addr} {cs : List Value} {t : TypeId} {agg : Bool} (h : At w p cs) (ha : aggB P t = some agg) (hn : szOf P t = some cs.length) (h1 : agg = false → cs.length = 1) :
    (loadVar t p).run P w = .ok (ofCells agg cs) w := by
  unfold loadVar
  rw [Sem.run_bind, run_aggB ha]
  cases agg with
  | true =>
    simp only [Result.andThen_ok, if_true, Sem.run_bind, run_szOf hn]
    rw [run_loadCells_list (P := P) w p cs h]
    simp [ofCells]
  | false =>
    match cs, h1 rfl with
    | [c], _ =>
      have := h 0 c rfl
      have h0 : p.add 0 = p := by simp [Addr.add]
      rw [h0] at this
      simp [ofCells, this]

theorem WO.load {t : TypeId} {x : Operand} {p : Addr} (cs : List Value) (agg : Bool) (hds : dsOk ds ops.toList = true) (hg : gd ds σ o.guard = some true) (hd : dOk σ o.dst = true)
    (hop : o.op = .load t x) (hx : ev σ x = some (.val (.pointer (some p)))) (ha : aggB P t = some agg) (hn : szOf P t = some cs.length) (h1 : agg = true ∨ cs.length = 1)
    (h : ∀ ρ w, Base ρ σ w → At w p cs) (k : WO P ops Q rest (σ.put o.dst (.val (ofCells agg cs)))) : WO P ops Q (o :: rest) σ :=
  WO.one hds hg fun ρ a w hs => by
    refine ⟨ρ, _, ofCells agg cs, w, .inl ?_, hs.put _ _ _ (dOk_lt hd) (fun _ _ => rfl), k⟩
    unfold execOp
    rw [hop]
    simp only [Sem.run_bind, hs.ev hx ρ (Agree.refl _ _), den, Instr.loadAt, Instr.sureAddr, Sem.run_pure, Result.andThen_ok]
    rw [(h ρ w hs.base).load ha hn (fun hf => by rcases h1 with h1 | h1; rw [hf] at h1; cases h1; exact h1)]
    rfl

theorem run_indexAt {t e : TypeId} {sz n c : Nat} {p : Addr} {k : IntKind} {i : Int} {w : World} (he : elemSz P t = some (e, sz)) (h0 : 0 ≤ i) (h1 : i < n) :
    (Instr.indexAt t (.slice (some p) n c) (.int k i)).run P w = .ok (.pointer (some (p.add (i.toNat * sz)))) w := by
  unfold elemSz at he
  split at he
  · rename_i e' hu
    cases hsz : szOf P e' with
    | none => simp [hsz] at he
    | some sz' =>
      simp only [hsz, Option.map_some, Option.some.injEq, Prod.mk.injEq] at he
      obtain ⟨rfl, rfl⟩ := he
      simp [Instr.indexAt, asIntOf, run_underlying hu, run_szOf hsz, h0, h1]
  · cases he

/-- x[i]'s place. -/
theorem WO.index {t e : TypeId} {x ix : Operand} {p : Addr} {n c sz : Nat} {k : IntKind} {i : Int} (hds : dsOk ds ops.toList = true) (hg : gd ds σ o.guard = some true) (hd : dOk σ o.dst = true)
    (hop : o.op = .indexAddr t x ix) (hx : ev σ x = some (.val (.slice (some p) n c))) (hi : ev σ ix = some (.val (.int k i))) (he : elemSz P t = some (e, sz))
    (h0 : 0 ≤ i) (h1 : i < n) (hk : WO P ops Q rest (σ.put o.dst (.val (.pointer (some (p.add (i.toNat * sz))))))) : WO P ops Q (o :: rest) σ :=
  WO.one hds hg fun ρ a w hs => by
    refine ⟨ρ, _, .pointer (some (p.add (i.toNat * sz))), w, .inl ?_, hs.put _ _ _ (dOk_lt hd) (fun _ _ => rfl), hk⟩
    unfold execOp
    rw [hop]
    simp only [Sem.run_bind, hs.ev hx ρ (Agree.refl _ _), hs.ev hi ρ (Agree.refl _ _), den, run_indexAt he h0 h1, Result.andThen_ok, Sem.run_pure]
theorem WO.indexOwn {t e : TypeId} {x ix : Operand} {j off n c sz : Nat} {k : IntKind} {i : Int} (hds : dsOk ds ops.toList = true) (hg : gd ds σ o.guard = some true) (hd : dOk σ o.dst = true)
    (hop : o.op = .indexAddr t x ix) (hx : ev σ x = some (.lsl j off n c)) (hi : ev σ ix = some (.val (.int k i))) (he : elemSz P t = some (e, sz))
    (h0 : 0 ≤ i) (h1 : i < n) (hk : WO P ops Q rest (σ.put o.dst (.loc j (off + i.toNat * sz)))) : WO P ops Q (o :: rest) σ :=
  WO.one hds hg fun ρ a w hs => by
    refine ⟨ρ, _, .pointer (some ⟨ρ j, off + i.toNat * sz, none⟩), w, .inl ?_, hs.put _ _ _ (dOk_lt hd) (fun ρ' hρ => ?_), hk⟩
    · unfold execOp
      rw [hop]
      simp only [Sem.run_bind, hs.ev hx ρ (Agree.refl _ _), hs.ev hi ρ (Agree.refl _ _), den, run_indexAt he h0 h1, Result.andThen_ok, Sem.run_pure, Addr.add_mid]
    · have := hs.ev hx ρ' hρ
      rw [hs.ev hx ρ (Agree.refl _ _)] at this
      simp only [den, Value.slice.injEq, Option.some.injEq, Addr.mk.injEq] at this
      simp [den, this.1]
end
end Go.SX
