/-
  Regions that draw their order, at symbolic states.
-/
import Derived.Test.YtnbfdncmlbegmaaSxDraw
set_option linter.unusedVariables false
set_option linter.unusedSimpArgs false
namespace Go.SX
open Go Go.RowKit

structure SatE (ρ : Nat → Nat) (σ : St) (a : Act) : Prop where
  size : a.tmps.size = σ.n
  defers : a.defers = σ.dfs.map mark
  env : ∀ i s, getE σ.env i = some s → i < σ.n ∧ ∀ ρ', Agree σ.own.length ρ ρ' → a.tmps[i]? = some (den ρ' s)
theorem Sat.e {ρ : Nat → Nat} {σ : St} {a : Act} {w : World} (h : Sat ρ σ a w) : SatE ρ σ a := ⟨h.size, h.defers, h.env⟩
theorem SatE.sat {ρ : Nat → Nat} {σ : St} {a : Act} {w : World} (h : SatE ρ σ a) (hb : Base ρ σ w) : Sat ρ σ a w := ⟨h.size, h.defers, h.env, hb⟩

theorem Base.same {ρ : Nat → Nat} {σ σ' : St} {w : World} (h : Base ρ σ w) (ho : σ'.own = σ.own) (hs : σ'.snaps = σ.snaps) : Base ρ σ' w :=
  ⟨by rw [ho]; exact h.own, by rw [ho]; exact h.apart, by rw [ho, hs]; exact h.keep⟩
theorem Base.same_eq {ρ : Nat → Nat} {σ σ' : St} (ho : σ'.own = σ.own) (hs : σ'.snaps = σ.snaps) : Base ρ σ' = Base ρ σ := by
  funext w
  exact propext ⟨fun h => h.same ho.symm hs.symm, fun h => h.same ho hs⟩
theorem put_own (σ : St) (d : Option Nat) (s : SV) : (σ.put d s).own = σ.own := by cases d <;> rfl
theorem put_snaps (σ : St) (d : Option Nat) (s : SV) : (σ.put d s).snaps = σ.snaps := by cases d <;> rfl

theorem SatE.put {ρ : Nat → Nat} {σ : St} {a : Act} (h : SatE ρ σ a) (d : Option Nat) (s : SV) (v : Value) (hd : ∀ i, d = some i → i < σ.n)
    (hv : ∀ ρ', Agree σ.own.length ρ ρ' → v = den ρ' s) : SatE ρ (σ.put d s) (a.put d v) := by
  cases d with
  | none => exact h
  | some d =>
    have hd' : d < σ.n := hd d rfl
    refine ⟨by simpa [Act.put, St.put] using h.size, h.defers, fun i s' hi => ?_⟩
    simp only [St.put, getE] at hi
    simp only [Act.put, St.put]
    split at hi
    · rename_i he
      subst he
      simp only [Option.some.injEq] at hi
      subst hi
      refine ⟨hd', fun ρ' hρ => ?_⟩
      have : d < a.tmps.size := by rw [h.size]; exact hd'
      simp [this, hv ρ' hρ]
    · rename_i he
      refine ⟨(h.env i s' hi).1, fun ρ' hρ => ?_⟩
      have := (h.env i s' hi).2 ρ' hρ
      rw [Array.getElem?_setIfInBounds_ne he]
      exact this
theorem SatE.ev {ρ : Nat → Nat} {σ : St} {a : Act} (hs : SatE ρ σ a) {x : Operand} {s : SV} (h : ev σ x = some s) : ∀ ρ', Agree σ.own.length ρ ρ' → a.eval x = den ρ' s := by
  intro ρ' hρ
  cases x with
  | tmp t =>
    have := (hs.env t s h).2 ρ' hρ
    simp [Act.eval, Array.getD_eq_getD_getElem?, this]
  | const v => simp only [SX.ev, Option.some.injEq] at h; subst h; simp [Act.eval, den]
  | global g => simp only [SX.ev, Option.some.injEq] at h; subst h; simp [Act.eval, den]
  | func f => simp only [SX.ev, Option.some.injEq] at h; subst h; simp [Act.eval, den]

section
variable {P : Program} {ops : Array Oper} {Q : Exit → St → Prop} {K : St → Prop} {σ : St} {l rest : List Oper} {o o1 o2 o3 : Oper} {ds : List (Option Nat)}

theorem gd_soundE {ρ : Nat → Nat} {a : Act} (hs : SatE ρ σ a) (hds : dsOk ds ops.toList = true) {b : Bool} (h : gd ds σ o.guard = some b) : Region.wanted o (yielded ops a.tmps) = b := by
  unfold Region.wanted
  cases hg : o.guard with
  | none => rw [hg] at h; simpa [gd] using h
  | some p =>
    obtain ⟨j, want⟩ := p
    rw [hg] at h
    simp only [gd] at h
    split at h
    · rename_i t ht
      obtain ⟨oj, h1, h2⟩ := dsOk_get hds ht
      have hj : ops[j]? = some oj := by simpa using h1
      split at h
      · rename_i c hc
        have := (hs.env t _ hc).2 ρ (Agree.refl _ _)
        simp only [Option.some.injEq] at h; subst h
        simp [yielded, hj, h2, this, den]
      · rename_i vs hc
        have := (hs.env t _ hc).2 ρ (Agree.refl _ _)
        simp only [Option.some.injEq] at h; subst h
        simp [yielded, hj, h2, this, den]
      · cases h
    · cases h

/-- Of a list of quiet operations, in whatever order they come: one value each. -/
def WQ (P : Program) (ops : Array Oper) (K : St → Prop) (l : List Oper) (σ : St) : Prop :=
  ∀ ρ a, SatE ρ σ a → (∃ w, Base ρ σ w) → wpQuiet P ops (Base ρ σ) (fun a' => ∃ σ', SatE ρ σ' a' ∧ σ'.own = σ.own ∧ σ'.snaps = σ.snaps ∧ K σ') l a

theorem WQ.nil (h : K σ) : WQ P ops K [] σ := fun ρ a hs _ => ⟨σ, hs, rfl, rfl, h⟩

theorem wpQuiet_mono {C : World → Prop} {K1 K2 : Act → Prop} (h : ∀ a, K1 a → K2 a) : ∀ (l : List Oper) (a : Act), wpQuiet P ops C K1 l a → wpQuiet P ops C K2 l a
  | [], a, hh => h a hh
  | o :: l, a, hh => by
    simp only [wpQuiet] at *
    split
    · rename_i hw; rw [if_pos hw] at hh; exact Oper.quiet_mono (fun a h' => wpQuiet_mono h l a h') hh
    · rename_i hw; rw [if_neg hw] at hh; exact wpQuiet_mono h l _ hh

theorem WQ.carry {ρ : Nat → Nat} {σ' : St} {a : Act} (ho : σ'.own = σ.own) (hsn : σ'.snaps = σ.snaps) (hs : SatE ρ σ' a) (hw : ∃ w, Base ρ σ w) (h : WQ P ops K l σ') :
    wpQuiet P ops (Base ρ σ) (fun a' => ∃ σ', SatE ρ σ' a' ∧ σ'.own = σ.own ∧ σ'.snaps = σ.snaps ∧ K σ') l a := by
  have := h ρ a hs (by rw [Base.same_eq ho hsn]; exact hw)
  rw [Base.same_eq ho hsn] at this
  exact wpQuiet_mono (fun a ⟨s, h1, h2, h3, h4⟩ => ⟨s, h1, h2.trans ho, h3.trans hsn, h4⟩) l a this

/-- One operation that yields a value in every world that the state describes, and leaves the world. -/
theorem WQ.one (hds : dsOk ds ops.toList = true) (hg : gd ds σ o.guard = some true) (hd : dOk σ o.dst = true) (s : SV)
    (h : ∀ ρ a w, Sat ρ σ a w → ∃ v, (execOp a.eval o).run P w = .ok (.value v) w ∧ ∀ ρ', Agree σ.own.length ρ ρ' → v = den ρ' s) (hk : WQ P ops K rest (σ.put o.dst s)) : WQ P ops K (o :: rest) σ := fun ρ a hs hw => by
  simp only [wpQuiet, gd_soundE hs hds hg, if_true]
  refine ⟨den ρ s, fun w hb => ?_, ?_⟩
  · obtain ⟨v, h1, h2⟩ := h ρ a w (hs.sat hb)
    unfold Oper.quietAt
    rw [h1]
    exact ⟨rfl, h2 ρ (Agree.refl _ _)⟩
  · refine WQ.carry (put_own _ _ _) (put_snaps _ _ _) (hs.put _ _ _ (dOk_lt hd) fun ρ' hρ => ?_) hw hk
    obtain ⟨w, hb⟩ := hw
    obtain ⟨v, _, h2⟩ := h ρ a w (hs.sat hb)
    rw [← h2 ρ (Agree.refl _ _), h2 ρ' hρ]

theorem WQ.skip (hds : dsOk ds ops.toList = true) (hg : gd ds σ o.guard = some false) {σ' : St} (h1 : skip1 σ o.dst = some σ') (hk : WQ P ops K rest σ') : WQ P ops K (o :: rest) σ := fun ρ a hs hw => by
  simp only [wpQuiet, gd_soundE hs hds hg]
  unfold skip1 at h1
  split at h1
  · rename_i hd
    simp only [Option.some.injEq] at h1; subst h1
    exact WQ.carry (put_own _ _ _) (put_snaps _ _ _) (hs.put _ _ _ (dOk_lt hd) fun _ _ => rfl) hw hk
  · cases h1

/-- A call that yields this value. -/
theorem WQ.call {f : FuncId} {ss : List SV} (v : Value) (hds : dsOk ds ops.toList = true) (hg : gd ds σ o.guard = some true) (hd : dOk σ o.dst = true)
    (hc : callS σ o.op = some (f, ss)) (hf : callOk P f = true)
    (h : ∀ ρ w, Base ρ σ w → Gives P f (denL ρ ss).toArray w fun v' _ => v' = v)
    (k : WQ P ops K rest (σ.put o.dst (.val v))) : WQ P ops K (o :: rest) σ := fun ρ a hs hw => by
  simp only [wpQuiet, gd_soundE hs hds hg, if_true]
  refine ⟨v, fun w hb => ?_, WQ.carry (put_own _ _ _) (put_snaps _ _ _) (hs.put _ _ _ (dOk_lt hd) fun _ _ => rfl) hw k⟩
  unfold Oper.quietAt
  rw [callS_run (hs.sat hb) hf hc]
  refine ⟨rfl, Calls.mono (h ρ w hb) fun e w' ⟨v', he, hb', hv⟩ => ?_⟩
  subst he; subst hv
  exact ⟨rfl, hb.below hb'⟩

theorem WQ.cases (i : Nat) (b : Bool) (hi : getE σ.env i = some (.val (.bool b))) (h1 : b = true → WQ P ops K l (σ.put (some i) (.val (.bool true)))) (h2 : b = false → WQ P ops K l (σ.put (some i) (.val (.bool false)))) : WQ P ops K l σ := by
  have key : ∀ c, b = c → WQ P ops K l (σ.put (some i) (.val (.bool c))) → WQ P ops K l σ := fun c hc h ρ a hs hw => by
    subst hc
    have hs' := hs.put (some i) (.val (.bool b)) (.bool b) (fun j hj => by cases hj; exact (hs.env i _ hi).1) (fun _ _ => rfl)
    have he := (hs.env i _ hi).2 ρ (Agree.refl _ _)
    have : a.put (some i) (.bool b) = a := by
      simp only [Act.put]
      have hlt : i < a.tmps.size := by rw [hs.size]; exact (hs.env i _ hi).1
      have : a.tmps.setIfInBounds i (.bool b) = a.tmps := by
        apply Array.ext_getElem?
        intro j
        by_cases hj : i = j
        · subst hj; simp [hlt, he, den]
          rw [Array.getElem?_eq_getElem hlt] at he
          simpa [den] using (Option.some.inj he).symm
        · rw [Array.getElem?_setIfInBounds_ne hj]
      rw [this]
    rw [this] at hs'
    exact WQ.carry (σ := σ) (put_own σ _ _) (put_snaps σ _ _) hs' hw h
  cases b with
  | true => exact key true rfl (h1 rfl)
  | false => exact key false rfl (h2 rfl)

def isMem : Op → Bool
  | .box _ _ => true
  | .alloc _ => true
  | .store _ _ _ => true
  | .buildSlice _ _ _ => true
  | _ => false
theorem step_opv {d : Option Nat} {op : Op} {σ' : St} (hm : isMem op = false) (h : step P σ d op = some σ') : ∃ s, opv P σ op = some s ∧ dOk σ d = true ∧ σ' = σ.put d s := by
  unfold step at h
  split at h
  · rename_i hd
    cases op <;> simp only [isMem, Bool.true_eq_false] at hm <;>
      (cases hv : opv P σ _ with
       | none => simp [hv] at h
       | some s => simp only [hv, Option.map_some, Option.some.injEq] at h; exact ⟨s, rfl, hd, h.symm⟩)
  · cases h

def runQ (P : Program) (ds : List (Option Nat)) : List Oper → Nat → St → Option (List Oper × St)
  | [], n, σ => if n = 0 then some ([], σ) else none
  | o :: l, n, σ => if n = 0 then some (o :: l, σ) else match gd ds σ o.guard with
    | some true => if isMem o.op = true then none else (step P σ o.dst o.op).bind fun σ' => runQ P ds l (n - 1) σ'
    | some false => (skip1 σ o.dst).bind fun σ' => runQ P ds l (n - 1) σ'
    | none => none

theorem WQ.go (n : Nat) (hds : dsOk ds ops.toList = true) (h : RunThen (runQ P ds l n σ) (WQ P ops K)) : WQ P ops K l σ := by
  induction l generalizing n σ with
  | nil =>
    simp only [runQ] at h
    split at h
    · exact h
    · simp [RunThen] at h
  | cons o l ih =>
    simp only [runQ] at h
    split at h
    · exact h
    · split at h
      · rename_i hg
        split at h
        · simp [RunThen] at h
        · rename_i hm
          cases hst : step P σ o.dst o.op with
          | none => simp [hst, RunThen] at h
          | some σ' =>
            simp only [hst, Option.bind_some] at h
            obtain ⟨s, h1, h2, rfl⟩ := step_opv (by simpa using hm) hst
            exact WQ.one hds hg h2 s (fun ρ a w hs => opv_sound hs h1) (ih _ h)
      · rename_i hg
        cases hst : skip1 σ o.dst with
        | none => simp [hst, RunThen] at h
        | some σ' => simp only [hst, Option.bind_some] at h; exact WQ.skip hds hg hst (ih _ h)
      · simp [RunThen] at h

theorem WQ.index {t e : TypeId} {x ix : Operand} {p : Addr} {n c sz : Nat} {k : IntKind} {i : Int} (hds : dsOk ds ops.toList = true) (hg : gd ds σ o.guard = some true) (hd : dOk σ o.dst = true)
    (hop : o.op = .indexAddr t x ix) (hx : ev σ x = some (.val (.slice (some p) n c))) (hi : ev σ ix = some (.val (.int k i))) (he : elemSz P t = some (e, sz))
    (h0 : 0 ≤ i) (h1 : i < n) (hk : WQ P ops K rest (σ.put o.dst (.val (.pointer (some (p.add (i.toNat * sz))))))) : WQ P ops K (o :: rest) σ :=
  WQ.one hds hg hd _ (fun ρ a w hs => by
    refine ⟨.pointer (some (p.add (i.toNat * sz))), ?_, fun _ _ => rfl⟩
    unfold execOp
    rw [hop]
    simp only [Sem.run_bind, hs.ev hx ρ (Agree.refl _ _), hs.ev hi ρ (Agree.refl _ _), den, run_indexAt he h0 h1, Result.andThen_ok, Sem.run_pure]) hk
theorem WQ.load {t : TypeId} {x : Operand} {p : Addr} (cs : List Value) (agg : Bool) (hds : dsOk ds ops.toList = true) (hg : gd ds σ o.guard = some true) (hd : dOk σ o.dst = true)
    (hop : o.op = .load t x) (hx : ev σ x = some (.val (.pointer (some p)))) (ha : aggB P t = some agg) (hn : szOf P t = some cs.length) (h1 : agg = true ∨ cs.length = 1)
    (h : ∀ ρ w, Base ρ σ w → At w p cs) (k : WQ P ops K rest (σ.put o.dst (.val (ofCells agg cs)))) : WQ P ops K (o :: rest) σ :=
  WQ.one hds hg hd _ (fun ρ a w hs => by
    refine ⟨ofCells agg cs, ?_, fun _ _ => rfl⟩
    unfold execOp
    rw [hop]
    simp only [Sem.run_bind, hs.ev hx ρ (Agree.refl _ _), den, Instr.loadAt, Instr.sureAddr, Sem.run_pure, Result.andThen_ok]
    rw [(h ρ w hs.base).load ha hn (fun hf => by rcases h1 with h1 | h1; rw [hf] at h1; cases h1; exact h1)]
    rfl) k

theorem WQ.elem {α : Type} {A : Rp α} {S : Nat → Prop} {s : World} {v : Value} {xs : List α} {y : α} {t e : TypeId} {x ix : Operand} {k : IntKind} {i : Int} {d1 : Nat} {agg : Bool}
    (hl : (Rp.slice A).rd S s [v] xs) (hm : (S, s) ∈ σ.snaps) (hds : dsOk ds ops.toList = true) (hg : gd ds σ o1.guard = some true) (hd : o1.dst = some d1) (hd1 : d1 < σ.n)
    (hg2 : ∀ u, gd ds (σ.put (some d1) u) o2.guard = some true) (hd2 : dOk σ o2.dst = true)
    (hop : o1.op = .indexAddr t x ix) (hop2 : o2.op = .load e (.tmp d1)) (hx : ev σ x = some (.val v)) (hi : ev σ ix = some (.val (.int k i))) (he : elemSz P t = some (e, A.sz))
    (ha : aggB P e = some agg) (hn : szOf P e = some A.sz) (h1 : agg = true ∨ A.sz = 1) (h0 : 0 ≤ i) (hy : xs[i.toNat]? = some y)
    (hk : ∀ p ces, A.rd S s ces y → WQ P ops K rest ((σ.put (some d1) (.val (.pointer (some p)))).put o2.dst (.val (ofCells agg ces)))) : WQ P ops K (o1 :: o2 :: rest) σ := by
  obtain ⟨p, n, c, hv, hnl, hnc, hcm, hel⟩ := hl
  simp only [List.cons.injEq, and_true] at hv
  subst hv
  have hlt : i.toNat < xs.length := (List.getElem?_eq_some_iff.1 hy).1
  rcases hel with h | ⟨a, rfl, hS, hsz, hel⟩
  · subst h; simp at hlt
  obtain ⟨ces, hat, hrd⟩ := hel _ y hy
  refine WQ.index hds hg (by rw [hd]; simpa [dOk] using hd1) hop hx hi he h0 (by omega) ?_
  rw [hd]
  refine WQ.load (p := a.add (i.toNat * A.sz)) ces agg hds (hg2 _) (by rw [dOk_put]; exact hd2) hop2 (by simp [SX.ev, getE, St.put]) ha (by rw [A.len hrd]; exact hn) (by rw [A.len hrd]; exact h1)
    (fun ρ w hb => hat.frame ?_) (hk _ ces hrd)
  rw [block_add]
  exact ((hb.keep _ (by simpa [St.put] using hm)).1).block _ hS hsz

theorem WQ.elemF {α : Type} {A : Rp α} {S : Nat → Prop} {s : World} {v : Value} {xs : List α} {y : α} {t e u fld : Nat} {x ix : Operand} {k : IntKind} {i : Int} {d1 d2 off m sn : Nat} {agg : Bool}
    (hl : (Rp.slice A).rd S s [v] xs) (hm : (S, s) ∈ σ.snaps) (hds : dsOk ds ops.toList = true) (hg : gd ds σ o1.guard = some true) (hd : o1.dst = some d1) (hd1 : d1 < σ.n)
    (hg2 : ∀ u, gd ds (σ.put (some d1) u) o2.guard = some true) (hd2 : o2.dst = some d2) (hd2' : d2 < σ.n) (hg3 : ∀ u u', gd ds ((σ.put (some d1) u).put (some d2) u') o3.guard = some true) (hd3 : dOk σ o3.dst = true)
    (hop : o1.op = .indexAddr t x ix) (hop2 : o2.op = .fieldAddr sn (.tmp d1) fld) (hop3 : o3.op = .load u (.tmp d2)) (hx : ev σ x = some (.val v)) (hi : ev σ ix = some (.val (.int k i))) (he : elemSz P t = some (e, A.sz))
    (hf : fieldOff P sn fld = some off) (ha : aggB P u = some agg) (hn : szOf P u = some m) (hle : off + m ≤ A.sz) (h1 : agg = true ∨ m = 1) (h0 : 0 ≤ i) (hy : xs[i.toNat]? = some y)
    (hk : ∀ p q ces, A.rd S s ces y → WQ P ops K rest (((σ.put (some d1) (.val (.pointer (some p)))).put (some d2) (.val (.pointer (some q)))).put o3.dst (.val (ofCells agg ((ces.drop off).take m))))) : WQ P ops K (o1 :: o2 :: o3 :: rest) σ := by
  obtain ⟨p, n, c, hv, hnl, hnc, hcm, hel⟩ := hl
  simp only [List.cons.injEq, and_true] at hv
  subst hv
  have hlt : i.toNat < xs.length := (List.getElem?_eq_some_iff.1 hy).1
  rcases hel with h | ⟨a, rfl, hS, hsz, hel⟩
  · subst h; simp at hlt
  obtain ⟨ces, hat, hrd⟩ := hel _ y hy
  refine WQ.index hds hg (by rw [hd]; simpa [dOk] using hd1) hop hx hi he h0 (by omega) ?_
  rw [hd]
  have hev : ev (σ.put (some d1) (.val (.pointer (some (a.add (i.toNat * A.sz)))))) (.tmp d1) = some (.val (.pointer (some (a.add (i.toNat * A.sz))))) := by simp [SX.ev, getE, St.put]
  refine WQ.one hds (hg2 _) (by rw [hd2, dOk_put]; simpa [dOk] using hd2') (.val (.pointer (some ((a.add (i.toNat * A.sz)).add off)))) (fun ρ w' w hs => ?_) ?_
  · refine ⟨.pointer (some ((a.add (i.toNat * A.sz)).add off)), ?_, fun _ _ => rfl⟩
    unfold execOp
    rw [hop2]
    simp only [Sem.run_bind, hs.ev hev ρ (Agree.refl _ _)]
    rw [fldAdr_run (u := .val (.pointer (some (a.add (i.toNat * A.sz))))) hf rfl ρ]
    rfl
  · have hlen := A.len hrd
    rw [hd2]
    refine WQ.load (p := (a.add (i.toNat * A.sz)).add off) ((ces.drop off).take m) agg hds (hg3 _ _) (by rw [dOk_put, dOk_put]; exact hd3) hop3 (by simp [SX.ev, getE, St.put]) ha
      (by simp [hlen]; rw [Nat.min_eq_left (by omega)]; exact hn) (by simp [hlen]; rw [Nat.min_eq_left (by omega)]; exact h1)
      (fun ρ w hb => (hat.part off m).frame ?_) (hk _ _ ces hrd)
    rw [block_add, block_add]
    exact ((hb.keep _ (by simpa [St.put] using hm)).1).block _ hS hsz

/-! ### The region -/
def np (Q : Exit → St → Prop) : Exit → St → Prop
  | .panic _, _ => False
  | e, σ => Q e σ
theorem np_of (Q : Exit → St → Prop) : ∀ e σ, np Q e σ → Q e σ := fun e σ h => by cases e <;> first | exact h | exact h.elim

/-- A region that draws its order, all of it quiet. -/
theorem W.regionQ {rO : Option Nat} {id : Nat} (hm : P.follows .mixedOrders = true) (hB : Region.lexB .any ops = true) (h : WQ P ops (Q .normal) ops.toList σ) (hp : rO = none ∨ (ops.toList.all (fun o => opPlain o.op) = true ∧ ∀ σ, ¬ Q .outgrown σ) := by first | exact .inl rfl | exact .inr ⟨rfl, fun _ h => h⟩) : WR rO P (.region id ops true) Q σ := fun ρ a w hs => by
  have hC := hs.base.below (below_drew w)
  have h' : wpQuiet P ops (Base ρ σ) (fun a' => ∀ w', Base ρ σ w' → lift Q .normal a' w') ops.toList a := wpQuiet_mono (fun a' ⟨σ', h1, h2, h3, h4⟩ w' hw' => ⟨ρ, σ', h1.sat (hw'.same h2 h3), h4⟩) _ _ (h ρ a hs.e ⟨w, hs.base⟩)
  have hB' := hB
  simp only [Region.lexB, Bool.and_eq_true] at hB'
  have key : wpAny P .any ops (lift Q) ops.size (Array.replicate ops.size false) a { w with drawn := w.drawn + 1 } := by
    refine wpAny_of_quiet (C := Base ρ σ) (Q := fun a' => ∀ w', Base ρ σ w' → lift Q .normal a' w') (fun _ w' hw' h => h w' hw') _ _ _ _ hC ?_
    have := wpAnyQ_lex (C := Base ρ σ) (md := .any) hB'.1 ops.toList 0 (Array.replicate ops.size false) a (by simp) (by simpa using hB'.2) h'
    simpa using this
  rcases hp with rfl | ⟨h1, h2⟩
  · exact of_wp (wp_region_any hm key)
  · refine wpIn_region_draw fun t => ?_
    simp only [Region.schedule, hm, Bool.true_or, if_true]
    exact wpOps_in (letsOut_lift h2) h1 _ _ _ (wpAny_sound ops.size t _ a _ key)

/-- the operations T are moves of slots -/
def movesS (ops : Array Oper) : List Nat → St → Option St
  | [], σ => some σ
  | i :: T, σ => match ops[i]? with
    | some ⟨some d, .move x, _, _, _, none⟩ => match ev σ x with
      | some s => if d < σ.n then movesS ops T (σ.put (some d) s) else none
      | none => none
    | _ => none

theorem movesS_sound {ρ : Nat → Nat} {Kp : Act → Prop} : ∀ (T : List Nat) {σ σ' : St} {a : Act}, movesS ops T σ = some σ' → SatE ρ σ a → (∀ a', SatE ρ σ' a' → σ'.own = σ.own → σ'.snaps = σ.snaps → Kp a') → wpPlain P ops Kp T a
  | [], σ, σ', a, h, hs, hk => by simp only [movesS, Option.some.injEq] at h; subst h; exact hk a hs rfl rfl
  | i :: T, σ, σ', a, h, hs, hk => by
    simp only [movesS] at h
    split at h
    · rename_i d x ty pos after ho
      split at h
      · rename_i s hx
        split at h
        · rename_i hd
          refine ⟨_, a.eval x, ho, .inl ⟨rfl, fun w => rfl⟩, movesS_sound T h (hs.put (some d) s _ (fun j hj => by cases hj; exact hd) fun ρ' hρ => hs.ev hx ρ' hρ) fun a' h1 h2 h3 => hk a' h1 h2 h3⟩
        · cases h
      · cases h
    · cases h

/-- A region that draws its order: moves taken ahead (T), then quiet operations (H), then a tail that has one order. -/
theorem W.regionT {id : Nat} {σ1 : St} (n : Nat) (T H : List Nat) (hm : P.follows .mixedOrders = true) (hB : drawB ops n T H = true) (hT : movesS ops T σ = some σ1)
    (h : WQ P ops (WO P ops (np Q) (ops.toList.drop n)) (pickL ops H) σ1) : W P (.region id ops true) Q σ := fun ρ a w hs => by
  refine of_wp (wp_mono (wp_draw (Q' := lift (np Q)) (C := Base ρ σ) n T H hm hB (fun c a w h => ?_) (hs.base.below (below_drew w)) (movesS_sound T hT hs.e fun a' h1 h2 h3 => ?_)) fun e a w ⟨ρ', σ', h1, h2⟩ => ⟨ρ', σ', h1, np_of Q e σ' h2⟩)
  · obtain ⟨_, _, _, h⟩ := h; exact h
  · have := h ρ a' h1 ⟨w, by rw [Base.same_eq h2 h3]; exact hs.base⟩
    rw [Base.same_eq h2 h3] at this
    exact wpQuiet_mono (fun a'' ⟨σ', h4, h5, h6, h7⟩ w' hw' => h7 ρ a'' w' (h4.sat (hw'.same (h5.trans h2) (h6.trans h3)))) _ _ this

/-! The same, in a form that simp turns. -/
def mv1 (σ : St) : Option Oper → Option St
  | some ⟨some d, .move x, _, _, _, none⟩ => (ev σ x).bind fun s => if d < σ.n then some (σ.put (some d) s) else none
  | _ => none
def pk1 (l : List Oper) : Option Oper → List Oper
  | some o => o :: l
  | none => l
def RunB (K : St → Prop) : Option St → Prop
  | some σ => K σ
  | none => False
theorem mv_0 (ops σ) : movesS ops [] σ = some σ := rfl
theorem mv_1 (ops i T σ) : movesS ops (i :: T) σ = (mv1 σ (nth ops.toList i)).bind fun σ' => movesS ops T σ' := by
  rw [nth_eq, Array.getElem?_toList]
  simp only [movesS]
  cases h : ops[i]? with
  | none => rfl
  | some o =>
    rcases o with ⟨_ | d, op, ty, pos, after, _ | g⟩ <;> cases op <;> try rfl
    rename_i x
    simp only [mv1]
    cases h : ev σ x with
    | none => rfl
    | some s => by_cases hd : d < σ.n <;> simp [hd]
theorem mv_2 (σ d x ty pos after) : mv1 σ (some ⟨some d, .move x, ty, pos, after, none⟩) = (ev σ x).bind fun s => if d < σ.n then some (σ.put (some d) s) else none := rfl
theorem pk_0 (ops) : pickL ops [] = [] := rfl
theorem pk_1 (ops i l) : pickL ops (i :: l) = pk1 (pickL ops l) (nth ops.toList i) := by
  rw [nth_eq, Array.getElem?_toList]
  simp only [pickL]
  cases h : ops[i]? <;> rfl
theorem pk_2 (l : List Oper) (o : Oper) : pk1 l (some o) = o :: l := rfl
theorem rb_1 (K : St → Prop) (σ : St) : RunB K (some σ) = K σ := rfl
/-- The same, with the moves run by simp (rules: 'sxt'). -/
theorem W.regionT' {id : Nat} (n : Nat) (T H : List Nat) (hm : P.follows .mixedOrders = true) (hB : drawB ops n T H = true)
    (h : RunB (fun σ1 => WQ P ops (WO P ops (np Q) (ops.toList.drop n)) (pickL ops H) σ1) (movesS ops T σ)) : W P (.region id ops true) Q σ := by
  cases hT : movesS ops T σ with
  | none => rw [hT] at h; exact h.elim
  | some σ1 => rw [hT] at h; exact W.regionT n T H hm hB hT h
theorem sxt : (∀ ops σ, movesS ops [] σ = some σ) ∧ (∀ ops i T σ, movesS ops (i :: T) σ = (mv1 σ (nth ops.toList i)).bind fun σ' => movesS ops T σ') ∧
    (∀ σ d x ty pos after, mv1 σ (some ⟨some d, .move x, ty, pos, after, none⟩) = (ev σ x).bind fun s => if d < σ.n then some (σ.put (some d) s) else none) ∧
    (∀ ops, pickL ops [] = []) ∧ (∀ ops i l, pickL ops (i :: l) = pk1 (pickL ops l) (nth ops.toList i)) ∧ (∀ (l : List Oper) (o : Oper), pk1 l (some o) = o :: l) ∧ (∀ (K : St → Prop) (σ : St), RunB K (some σ) = K σ) :=
  ⟨mv_0, mv_1, mv_2, pk_0, pk_1, pk_2, rb_1⟩

/-! rules for simp -/
def runQ1 (P : Program) (ds : List (Option Nat)) (l : List Oper) (n : Nat) (σ : St) (d : Option Nat) (op : Op) : Option Bool → Option (List Oper × St)
  | some true => if isMem op = true then none else (step P σ d op).bind fun σ' => runQ P ds l n σ'
  | some false => (skip1 σ d).bind fun σ' => runQ P ds l n σ'
  | none => none
theorem q_run0 (ds n) : runQ P ds [] n σ = if n = 0 then some ([], σ) else none := rfl
theorem q_run (ds dst op ty pos after g l n) : runQ P ds (⟨dst, op, ty, pos, after, g⟩ :: l) n σ = if n = 0 then some (⟨dst, op, ty, pos, after, g⟩ :: l, σ) else runQ1 P ds l (n - 1) σ dst op (gd ds σ g) := rfl
theorem q_run1 (ds l n dst op) : runQ1 P ds l n σ dst op (some true) = if isMem op = true then none else (step P σ dst op).bind fun σ' => runQ P ds l n σ' := rfl
theorem q_run2 (ds l n dst op) : runQ1 P ds l n σ dst op (some false) = (skip1 σ dst).bind fun σ' => runQ P ds l n σ' := rfl
/-- the quiet run's rules under one name -/
theorem sxq :
    (∀ {P : Program} {σ : St} (ds : List (Option Nat)) (n : Nat), runQ P ds [] n σ = if n = 0 then some ([], σ) else none) ∧
    (∀ {P : Program} {σ : St} (ds : List (Option Nat)) (dst : Option Nat) (op : Op) (ty pos after g) (l : List Oper) (n : Nat), runQ P ds (⟨dst, op, ty, pos, after, g⟩ :: l) n σ = if n = 0 then some (⟨dst, op, ty, pos, after, g⟩ :: l, σ) else runQ1 P ds l (n - 1) σ dst op (gd ds σ g)) ∧
    (∀ {P : Program} {σ : St} (ds : List (Option Nat)) (l : List Oper) (n : Nat) (dst : Option Nat) (op : Op), runQ1 P ds l n σ dst op (some true) = if isMem op = true then none else (step P σ dst op).bind fun σ' => runQ P ds l n σ') ∧
    (∀ {P : Program} {σ : St} (ds : List (Option Nat)) (l : List Oper) (n : Nat) (dst : Option Nat) (op : Op), runQ1 P ds l n σ dst op (some false) = (skip1 σ dst).bind fun σ' => runQ P ds l n σ') ∧
    (∀ x, isMem (.move x) = false) ∧ (∀ x, isMem (.assign x) = false) ∧ (∀ c x y, isMem (.pick c x y) = false) ∧ (∀ a b c d e, isMem (.binOp a b c d e) = false) ∧ (∀ a b c, isMem (.unOp a b c) = false) ∧
    (∀ a b c, isMem (.fieldAddr a b c) = false) ∧ (∀ a b c, isMem (.field a b c) = false) ∧ (∀ a b, isMem (.extract a b) = false) ∧ (∀ a b, isMem (.load a b) = false) ∧ (∀ a b c, isMem (.convert a b c) = false) ∧ (∀ c, isMem (.call c) = false) ∧
    (∀ a b c, isMem (.makeFunc a b c) = false) ∧ (∀ a b, isMem (.build a b) = false) :=
  ⟨fun _ _ => rfl, fun _ _ _ _ _ _ _ _ _ => rfl, fun _ _ _ _ _ => rfl, fun _ _ _ _ _ => rfl, fun _ => rfl, fun _ => rfl, fun _ _ _ => rfl, fun _ _ _ _ _ => rfl, fun _ _ _ => rfl, fun _ _ _ => rfl, fun _ _ _ => rfl, fun _ _ => rfl, fun _ _ => rfl, fun _ _ _ => rfl, fun _ => rfl, fun _ _ _ => rfl, fun _ _ => rfl⟩
end

/-! ### Forgetting slots, loops over the same blocks, joins -/
def keepE (E : List (Nat × SV)) : List Nat → List (Nat × SV)
  | [] => []
  | i :: l => match getE E i with
    | some s => (i, s) :: keepE E l
    | none => keepE E l
def kp1 (i : Nat) (E : List (Nat × SV)) (l : List Nat) : Option SV → List (Nat × SV)
  | some s => (i, s) :: keepE E l
  | none => keepE E l
theorem k_0 (E : List (Nat × SV)) : keepE E [] = [] := rfl
theorem k_1 (E : List (Nat × SV)) (i : Nat) (l : List Nat) : keepE E (i :: l) = kp1 i E l (getE E i) := by
  simp only [keepE, kp1]
theorem k_s (E : List (Nat × SV)) (i : Nat) (l : List Nat) (s : SV) : kp1 i E l (some s) = (i, s) :: keepE E l := rfl
theorem k_n (E : List (Nat × SV)) (i : Nat) (l : List Nat) : kp1 i E l none = keepE E l := rfl
theorem sxk : (∀ E : List (Nat × SV), keepE E [] = []) ∧ (∀ (E : List (Nat × SV)) (i : Nat) (l : List Nat), keepE E (i :: l) = kp1 i E l (getE E i)) ∧ (∀ (E : List (Nat × SV)) (i : Nat) (l : List Nat) (s : SV), kp1 i E l (some s) = (i, s) :: keepE E l) ∧ (∀ (E : List (Nat × SV)) (i : Nat) (l : List Nat), kp1 i E l none = keepE E l) := ⟨k_0, k_1, k_s, k_n⟩

theorem getE_keepE (E : List (Nat × SV)) : ∀ (l : List Nat) (i : Nat) (s : SV), getE (keepE E l) i = some s → getE E i = some s
  | [], _, _, h => by cases h
  | j :: l, i, s, h => by
    simp only [keepE] at h
    split at h
    · rename_i s' hj
      simp only [getE] at h
      split at h
      · rename_i he; subst he; simp only [Option.some.injEq] at h; subst h; exact hj
      · exact getE_keepE E l i s h
    · exact getE_keepE E l i s h

section
variable {P : Program} {ops : Array Oper} {Q : Exit → St → Prop} {σ : St} {l : List Oper}
theorem Sat.keepE {ρ : Nat → Nat} {a : Act} {w : World} (h : Sat ρ σ a w) (l : List Nat) : Sat ρ ⟨σ.n, SX.keepE σ.env l, σ.own, σ.snaps, σ.dfs⟩ a w :=
  ⟨h.size, h.defers, fun i s hi => h.env i s (getE_keepE _ _ _ _ hi), h.base.own, h.base.apart, h.base.keep⟩
theorem W.keep {rO : Option Nat} {c : Code} (l : List Nat) (h : WR rO P c Q ⟨σ.n, keepE σ.env l, σ.own, σ.snaps, σ.dfs⟩) : WR rO P c Q σ := fun ρ a w hs => h ρ a w (hs.keepE l)

/-- A loop that leaves the call's own blocks alone: 'mods' is what the round turns, 'kp' the slots that stay. -/
theorem W.loopK {rO : Option Nat} {c : Code} {X : Type} (kp : List Nat) (mods : X → List (Nat × SV)) (I : X → Prop) (μ : X → Nat) (x0 : X) (h0 : Le σ ⟨σ.n, mods x0 ++ keepE σ.env kp, σ.own, σ.snaps, σ.dfs⟩) (hI : I x0)
    (body : ∀ x, I x → WR rO P c (andThen (fun σ' => ∃ x', I x' ∧ μ x' < μ x ∧ Le σ' ⟨σ.n, mods x' ++ keepE σ.env kp, σ.own, σ.snaps, σ.dfs⟩) Q) ⟨σ.n, mods x ++ keepE σ.env kp, σ.own, σ.snaps, σ.dfs⟩) : WR rO P (.loop c) Q σ :=
  W.loop (fun x => ⟨σ.n, mods x ++ keepE σ.env kp, σ.own, σ.snaps, σ.dfs⟩) I μ x0 h0 hI body
/-- A loop; the call's own blocks and the snapshots as the round turns them. -/
theorem W.loopO {rO : Option Nat} {c : Code} {X : Type} (kp : List Nat) (mods : X → List (Nat × SV)) (ow : X → List Own) (sn : X → List ((Nat → Prop) × World)) (I : X → Prop) (μ : X → Nat) (x0 : X) (h0 : Le σ ⟨σ.n, mods x0 ++ keepE σ.env kp, ow x0, sn x0, σ.dfs⟩) (hI : I x0)
    (body : ∀ x, I x → WR rO P c (andThen (fun σ' => ∃ x', I x' ∧ μ x' < μ x ∧ Le σ' ⟨σ.n, mods x' ++ keepE σ.env kp, ow x', sn x', σ.dfs⟩) Q) ⟨σ.n, mods x ++ keepE σ.env kp, ow x, sn x, σ.dfs⟩) : WR rO P (.loop c) Q σ :=
  W.loop (fun x => ⟨σ.n, mods x ++ keepE σ.env kp, ow x, sn x, σ.dfs⟩) I μ x0 h0 hI body

/-- Ways that meet again: behind x slot t holds s, the slots 'kp' are as they were. -/
theorem W.join {rO : Option Nat} {x y : Code} (t : Nat) (s : SV) (kp : List Nat) (h1 : WR rO P x (andThen (fun τ => Le τ ⟨σ.n, (t, s) :: keepE σ.env kp, σ.own, σ.snaps, σ.dfs⟩) Q) σ)
    (h2 : WR rO P y Q ⟨σ.n, (t, s) :: keepE σ.env kp, σ.own, σ.snaps, σ.dfs⟩) : WR rO P (.seq x y) Q σ :=
  W.seqM _ h1 fun τ h => W.le h h2
end

/-! ### Small facts -/
theorem wrap_id {x : Int} (h1 : -9223372036854775808 ≤ x) (h2 : x ≤ 9223372036854775807) : IntKind.i64.wrap x = x := IntWalk.i64_in x (by omega)
theorem wrap_succ {i : Nat} (h : i + 1 ≤ 9223372036854775807) : IntKind.i64.wrap ((i : Int) + 1) = ((i + 1 : Nat) : Int) := by
  rw [wrap_id (by omega) (by omega)]; rfl
theorem maxLen_eq : maxLen = 9223372036854775807 := by unfold maxLen; rfl

/-- A slice value that came in, opened: its form, and that its length and capacity fit. -/
theorem Rp.slice_val {α : Type} {A : Rp α} {S : Nat → Prop} {w : World} {v : Value} {l : List α} (h : (Rp.slice A).rd S w [v] l) : ∃ p c, v = .slice p l.length c ∧ l.length ≤ c ∧ c ≤ 9223372036854775807 := by
  obtain ⟨p, n, c, hv, rfl, h2, h3, _⟩ := h
  simp only [List.cons.injEq, and_true] at hv
  exact ⟨p, c, hv, h2, by rw [maxLen_eq] at h3; exact h3⟩

/-- A row of cells that reads as a list. -/
theorem Rp.slice_mk {α : Type} {A : Rp α} {S : Nat → Prop} {w : World} {p : Addr} {n c : Nat} {xs : List α} (cells : List Value) (hn : n = xs.length) (hnc : n ≤ c) (hc : c ≤ 9223372036854775807) (hS : S p.block) (hlt : p.block < w.heap.size) (hat : At w p cells)
    (h : ∀ i y, xs[i]? = some y → A.rd S w ((cells.drop (i * A.sz)).take A.sz) y) : (Rp.slice A).rd S w [.slice (some p) n c] xs := by
  refine ⟨some p, n, c, rfl, hn, hnc, by rw [maxLen_eq]; exact hc, .inr ⟨p, rfl, hS, hlt, fun i y hy => ?_⟩⟩
  exact ⟨_, hat.part _ _, h i y hy⟩
theorem Rp.slice_nil {α : Type} {A : Rp α} {S : Nat → Prop} {w : World} {p : Option Addr} {c : Nat} (hc : c ≤ 9223372036854775807) : (Rp.slice A).rd S w [.slice p 0 c] [] :=
  ⟨p, 0, c, rfl, rfl, Nat.zero_le _, by rw [maxLen_eq]; exact hc, .inl rfl⟩

/-- The cells of a block of the call's own. -/
theorem own_cells {ρ : Nat → Nat} {σ : St} {w : World} {k : Nat} {T : TypeId} {cs : List SV} (hb : Base ρ σ w) (hk : nth σ.own k = some (.cells T cs)) (off : Nat) : At w ⟨ρ k, off, none⟩ ((denL ρ cs).drop off) ∧ ρ k < w.heap.size := by
  rw [nth_eq] at hk
  have h := hb.own k _ hk ρ (Agree.refl _ _)
  simp only [Own.holds] at h
  refine ⟨fun j v hv => ?_, (Array.getElem?_eq_some_iff.1 h).1⟩
  rw [Addr.add_mid]
  rw [List.getElem?_drop] at hv
  simp [World.cell?, h, hv]
/-- A literal slice of numbers, of the call's own, as a list. -/
theorem own_list {α : Type} {A : Rp α} {ρ : Nat → Nat} {σ : St} {w : World} {k n c : Nat} {T : TypeId} {cs : List SV} {xs : List α} (hb : Base ρ σ w) (hk : nth σ.own k = some (.cells T cs)) (hn : n = xs.length) (hnc : n ≤ c) (hc : c ≤ 9223372036854775807)
    (h : ∀ i y, xs[i]? = some y → A.rd (fun _ => True) w (((denL ρ cs).drop (i * A.sz)).take A.sz) y) : (Rp.slice A).rd (fun _ => True) w [.slice (some ⟨ρ k, 0, none⟩) n c] xs := by
  obtain ⟨h0, h1⟩ := own_cells hb hk 0
  rw [List.drop_zero] at h0
  exact Rp.slice_mk _ hn hnc hc trivial h1 h0 h
theorem own_ints {ρ : Nat → Nat} {σ : St} {w : World} {k n : Nat} {T : TypeId} {cs : List SV} {xs : List Int} (hb : Base ρ σ w) (hk : nth σ.own k = some (.cells T cs)) (hcs : denL ρ cs = xs.map (.int .i64)) (hn : n = xs.length) (hc : n ≤ 9223372036854775807) :
    (Rp.slice (Rp.int .i64)).rd (fun _ => True) w [.slice (some ⟨ρ k, 0, none⟩) n n] xs :=
  own_list hb hk hn (Nat.le_refl _) hc fun i y hy => by
    show _ = [Value.int .i64 y]
    obtain ⟨hlt, rfl⟩ := List.getElem?_eq_some_iff.1 hy
    rw [hcs, show (Rp.int .i64).sz = 1 from rfl, Nat.mul_one, List.drop_eq_getElem_cons (by simpa using hlt)]
    simp
theorem argsCap (v : Value) (caps : Array Value) : (v :: caps.toList).toArray = #[v] ++ caps := by
  apply Array.toList_inj.1
  simp
theorem getIdx {α : Type} (l : List α) {i : Nat} (h : i < l.length) : l[i]? = some l[i] := List.getElem?_eq_getElem h
/-! ### Giving up blocks of the call's own, for a new snapshot -/
def killL (ks : List Nat) (σ : St) : St := ks.foldl (fun σ k => setOwn σ k .dead) σ

theorem Base.kill {ρ : Nat → Nat} {σ : St} {w : World} (hb : Base ρ σ w) (k : Nat) : Base ρ (setOwn σ k .dead) w := by
  have hget : ∀ (j : Nat) (o : Own), (setOwn σ k .dead).own[j]? = some o → o = .dead ∨ σ.own[j]? = some o := fun j o hj => by
    simp only [setOwn, setN_eq] at hj
    by_cases h : k = j
    · subst h
      by_cases hlt : k < σ.own.length
      · rw [List.getElem?_set_self hlt] at hj; exact .inl (Option.some.inj hj).symm
      · rw [List.getElem?_eq_none (by simp; omega)] at hj; cases hj
    · rw [List.getElem?_set_ne h] at hj; exact .inr hj
  have hlen : (setOwn σ k .dead).own.length = σ.own.length := by simp [setOwn, setN_eq]
  refine ⟨fun j o hj ρ' hρ => ?_, fun i j oi oj b hi hj hni hnj => ?_, fun p hp => ⟨(hb.keep p hp).1, fun j o b hj hn hS => ?_⟩⟩
  · rw [hlen] at hρ
    rcases hget j o hj with rfl | h
    · trivial
    · exact hb.own j o h ρ' hρ
  · rcases hget i oi hi with rfl | h1
    · cases hni
    · rcases hget j oj hj with rfl | h2
      · cases hnj
      · exact hb.apart i j oi oj b h1 h2 hni hnj
  · rcases hget j o hj with rfl | h
    · cases hn
    · exact (hb.keep p hp).2 j o b h hn hS

theorem killL_spec {ρ : Nat → Nat} {a : Act} {w : World} : ∀ (ks : List Nat) {σ : St}, Sat ρ σ a w → Sat ρ (killL ks σ) a w ∧ (killL ks σ).own.length = σ.own.length ∧ (killL ks σ).n = σ.n ∧
    (∀ (j : Nat) (o : Own), (killL ks σ).own[j]? = some o → o = .dead ∨ (σ.own[j]? = some o ∧ j ∉ ks))
  | [], σ, h => ⟨h, rfl, rfl, fun j o hj => .inr ⟨hj, by simp⟩⟩
  | k :: ks, σ, h => by
    have hlen : (setOwn σ k .dead).own.length = σ.own.length := by simp [setOwn, setN_eq]
    have h1 : Sat ρ (setOwn σ k .dead) a w := ⟨h.size, h.defers, fun i s hi => ⟨(h.env i s hi).1, fun ρ' hρ => (h.env i s hi).2 ρ' (by rw [hlen] at hρ; exact hρ)⟩, h.base.kill k⟩
    obtain ⟨h2, h3, h4, h5⟩ := killL_spec ks h1
    refine ⟨h2, h3.trans hlen, h4, fun j o hj => ?_⟩
    rcases h5 j o hj with h6 | ⟨h6, h7⟩
    · exact .inl h6
    · simp only [setOwn, setN_eq] at h6
      by_cases hjk : k = j
      · subst hjk
        by_cases hlt : k < σ.own.length
        · rw [List.getElem?_set_self hlt] at h6; exact .inl (Option.some.inj h6).symm
        · rw [List.getElem?_eq_none (by simp; omega)] at h6; cases h6
      · rw [List.getElem?_set_ne hjk] at h6
        exact .inr ⟨h6, by simp [h7, Ne.symm hjk]⟩

theorem Sat.snapK {ρ : Nat → Nat} {σ : St} {a : Act} {w : World} (hs : Sat ρ σ a w) (ks : List Nat) (S : Nat → Prop) (h : ∀ k (o : Own) b, σ.own[k]? = some o → k ∉ ks → o.num ρ k = some b → ¬ S b) : Sat ρ ((killL ks σ).snap S w) a w := by
  obtain ⟨h1, h2, h3, h4⟩ := killL_spec ks hs
  refine h1.snap S fun j o b hj hn => ?_
  rcases h4 j o hj with rfl | ⟨h5, h6⟩
  · cases hn
  · exact h j o b h5 h6 hn

theorem WO.snapK {P : Program} {ops : Array Oper} {Q : Exit → St → Prop} {σ : St} {l : List Oper} (ks : List Nat) (Post : (Nat → Prop) → World → Prop)
    (h : ∀ ρ w, Base ρ σ w → ∃ S, Post S w ∧ ∀ k (o : Own) b, σ.own[k]? = some o → k ∉ ks → o.num ρ k = some b → ¬ S b) (hk : ∀ S s, Post S s → WO P ops Q l ((killL ks σ).snap S s)) : WO P ops Q l σ := fun ρ a w hs => by
  obtain ⟨S, h1, h2⟩ := h ρ w hs.base
  exact hk S w h1 ρ a w (hs.snapK ks S h2)
theorem W.snapK {rO : Option Nat} {P : Program} {c : Code} {Q : Exit → St → Prop} {σ : St} (ks : List Nat) (Post : (Nat → Prop) → World → Prop)
    (h : ∀ ρ w, Base ρ σ w → ∃ S, Post S w ∧ ∀ k (o : Own) b, σ.own[k]? = some o → k ∉ ks → o.num ρ k = some b → ¬ S b) (hk : ∀ S s, Post S s → WR rO P c Q ((killL ks σ).snap S s)) : WR rO P c Q σ := fun ρ a w hs => by
  obtain ⟨S, h1, h2⟩ := h ρ w hs.base
  exact hk S w h1 ρ a w (hs.snapK ks S h2)

/-- Blocks of a snapshot together with blocks given up. -/
def joinS (S : Nat → Prop) (s : World) (ρ : Nat → Nat) (σ : St) (ks : List Nat) (b : Nat) : Prop := (S b ∧ b < s.heap.size) ∨ ∃ k o, k ∈ ks ∧ σ.own[k]? = some o ∧ Own.num ρ k o = some b

theorem joinS_apart {ρ : Nat → Nat} {σ : St} {w s : World} {S : Nat → Prop} (hb : Base ρ σ w) (hm : (S, s) ∈ σ.snaps) (ks : List Nat) : ∀ k (o : Own) b, σ.own[k]? = some o → k ∉ ks → o.num ρ k = some b → ¬ joinS S s ρ σ ks b := by
  rintro k o b hk hks hn (⟨h1, h2⟩ | ⟨k', o', h1, h2, h3⟩)
  · have := (hb.keep _ hm).2 k o b hk hn h1
    simp only at this; omega
  · have := hb.apart k k' o o' b hk h2 hn h3
    subst this
    exact hks h1
theorem Rp.joinS {α : Type} {A : Rp α} {ρ : Nat → Nat} {σ : St} {w s : World} {S : Nat → Prop} {cs : List Value} {x : α} (h : A.rd S s cs x) (hb : Base ρ σ w) (hm : (S, s) ∈ σ.snaps) (ks : List Nat) : A.rd (SX.joinS S s ρ σ ks) w cs x := by
  have h1 : A.rd (fun b => S b ∧ b < s.heap.size) s cs x := A.mono h fun b hS hlt => ⟨hS, hlt⟩
  have h2 := A.frame (w' := w) h1 fun b hS hlt => (hb.keep _ hm).1.block b hS.1 hlt
  exact A.mono h2 fun b hS _ => .inl hS
/-- every block of the call's own is new -/
theorem own_new {ρ : Nat → Nat} {σ : St} {w w0 : World} (hb : Base ρ σ w) (hm : ((fun _ => True), w0) ∈ σ.snaps) {k : Nat} {o : Own} {b : Nat} (hk : nth σ.own k = some o) (hn : o.num ρ k = some b) : w0.heap.size ≤ b := by
  rw [nth_eq] at hk
  exact (hb.keep _ hm).2 k o b hk hn trivial

/-- A row of the call's own, as a list. -/
theorem own_slice {α : Type} {A : Rp α} {ρ : Nat → Nat} {σ : St} {w : World} {k n : Nat} {T : TypeId} {p : Option Addr} {c : Nat} {xs : List Value} {ys : List α} {S : Nat → Prop} (hb : Base ρ σ w) (hk : nth σ.own k = some (.slice T A.sz (.slice p n c) n xs)) (hn : n = ys.length)
    (hS : ∀ b, (Own.slice T A.sz (.slice p n c) n xs).num ρ k = some b → S b) (h : ∀ i y, ys[i]? = some y → A.rd S w ((xs.drop (i * A.sz)).take A.sz) y) : (Rp.slice A).rd S w [.slice p n c] ys := by
  have hk' := hk
  rw [nth_eq] at hk'
  have hown := hb.own k _ hk' ρ (Agree.refl _ _)
  have hlt := fun b hb' => Own.lt hown (b := b) hb'
  simp only [Own.holds] at hown
  rcases hown.2 with ⟨hv, hn0⟩ | ⟨g, cap, cur, hv, _, hcell, hnc, hcm, _⟩
  · simp only [Value.slice.injEq] at hv
    obtain ⟨rfl, rfl, rfl⟩ := hv
    obtain rfl : ys = [] := List.eq_nil_of_length_eq_zero hn.symm
    exact Rp.slice_nil (by omega)
  · simp only [Value.slice.injEq] at hv
    obtain ⟨rfl, _, rfl⟩ := hv
    exact Rp.slice_mk xs hn hnc (by rw [maxLen_eq] at hcm; exact hcm) (hS _ rfl) (hlt _ rfl) (own_at hb hk) h

/-- A row that is filled from its head on. -/
def fillL (f : Nat → Value) (z : Value) (m k : Nat) : List Value := (List.range m).map fun j => if j < k then f j else z
theorem fillL_zero (f : Nat → Value) (z : Value) (m : Nat) : (List.replicate m [z]).flatten = fillL f z m 0 := by
  apply List.ext_getElem?
  intro i
  induction m generalizing i with
  | zero => simp [fillL]
  | succ m ih =>
    simp only [fillL, List.getElem?_map, List.replicate_succ, List.flatten_cons] at *
    cases i with
    | zero => simp
    | succ i =>
      simp only [List.singleton_append, List.getElem?_cons_succ, ih]
      by_cases h : i < m
      · simp [h]
      · simp [h]
theorem fillL_set (f : Nat → Value) (z : Value) (m k : Nat) : (fillL f z m k).set k (f k) = fillL f z m (k + 1) := by
  apply List.ext_getElem?
  intro i
  by_cases h : k = i
  · subst h
    by_cases hm : k < m
    · rw [List.getElem?_set_self (by simpa [fillL] using hm)]; simp [fillL, hm]
    · rw [List.getElem?_eq_none (by simp [fillL]; omega), List.getElem?_eq_none (by simp [fillL]; omega)]
  · rw [List.getElem?_set_ne h]
    by_cases hm : i < m
    · simp only [fillL, List.getElem?_map, List.getElem?_range hm, Option.map_some]
      congr 1
      by_cases h1 : i < k
      · rw [if_pos h1, if_pos (by omega)]
      · rw [if_neg h1, if_neg (by omega)]
    · rw [List.getElem?_eq_none (by simp [fillL]; omega), List.getElem?_eq_none (by simp [fillL]; omega)]
theorem fillL_get (f : Nat → Value) (z : Value) (m i : Nat) (h : i < m) : (fillL f z m m)[i]? = some (f i) := by simp [fillL, h]
theorem fillL_length (f : Nat → Value) (z : Value) (m k : Nat) : (fillL f z m k).length = m := by simp [fillL]

theorem Sat.snapE {ρ : Nat → Nat} {σ : St} {a : Act} {w s : World} {S : Nat → Prop} (hs : Sat ρ σ a w) (hm : (S, s) ∈ σ.snaps) (S' : Nat → Prop) (hS : ∀ b, S' b → S b) : Sat ρ (σ.snap S' s) a w :=
  ⟨hs.size, hs.defers, hs.env, hs.base.own, hs.base.apart, fun p hp => by
    rcases List.mem_cons.1 hp with rfl | hp
    · obtain ⟨h1, h2⟩ := hs.base.keep _ hm
      exact ⟨h1.mono fun b hb _ => hS b hb, fun k o b hk hn hb => h2 k o b hk hn (hS b hb)⟩
    · exact hs.base.keep p hp⟩
/-- A snapshot of fewer blocks. -/
theorem W.snapE {rO : Option Nat} {P : Program} {c : Code} {Q : Exit → St → Prop} {σ : St} {s : World} {S : Nat → Prop} (S' : Nat → Prop) (hm : (S, s) ∈ σ.snaps) (hS : ∀ b, S' b → S b) (h : WR rO P c Q (σ.snap S' s)) : WR rO P c Q σ := fun ρ a w hs =>
  h ρ a w (hs.snapE hm S' hS)
theorem take_one {α : Type} (l : List α) (i : Nat) (x : α) (h : l[i]? = some x) : (l.drop (i * 1)).take 1 = [x] := by
  obtain ⟨hlt, rfl⟩ := List.getElem?_eq_some_iff.1 h
  rw [Nat.mul_one, List.drop_eq_getElem_cons hlt]
  rfl
theorem sxd : (∀ σ : St, killL [] σ = σ) ∧ (∀ (k : Nat) (ks : List Nat) (σ : St), killL (k :: ks) σ = killL ks (setOwn σ k .dead)) := ⟨fun _ => rfl, fun _ _ _ => rfl⟩
end Go.SX
