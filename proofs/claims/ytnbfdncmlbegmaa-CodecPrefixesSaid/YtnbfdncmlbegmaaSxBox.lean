/-
  Arrays behind a pointer; boxes that a callee writes.
-/
import Derived.Test.YtnbfdncmlbegmaaSxMore
set_option linter.unusedVariables false
namespace Go.SX
open Go Go.RowKit

section
variable {P : Program} {ops : Array Oper} {Q : Exit → St → Prop} {σ : St} {l : List Oper} {o o1 o2 : Oper} {rest : List Oper} {ds : List (Option Nat)} {K : St → Prop}

def arrP (P : Program) (t : TypeId) : Option (Nat × TypeId × Nat) :=
  match P.underlying t with
  | some (.array n e) => (szOf P e).map fun z => (n, e, z)
  | _ => none

theorem arrP_spec {t e : TypeId} {n sz : Nat} (h : arrP P t = some (n, e, sz)) : P.underlying t = some (.array n e) ∧ szOf P e = some sz := by
  unfold arrP at h
  split at h
  · rename_i n' e' hu
    cases hz : szOf P e' with
    | none => rw [hz] at h; cases h
    | some z =>
      rw [hz] at h
      simp only [Option.map_some, Option.some.injEq, Prod.mk.injEq] at h
      obtain ⟨rfl, rfl, rfl⟩ := h
      exact ⟨hu, hz⟩
  · cases h

theorem run_indexArr {t e : TypeId} {sz n : Nat} {p : Addr} {k : IntKind} {i : Int} {w : World} (he : arrP P t = some (n, e, sz)) (h0 : 0 ≤ i) (h1 : i < n) :
    (Instr.indexAt t (.pointer (some p)) (.int k i)).run P w = .ok (.pointer (some (p.add (i.toNat * sz)))) w := by
  obtain ⟨hu, hz⟩ := arrP_spec he
  simp [Instr.indexAt, asIntOf, Instr.sureAddr, run_underlying hu, run_szOf hz, h0, h1]
theorem run_sliceArr {t e : TypeId} {sz n : Nat} {p : Addr} {w : World} (he : arrP P t = some (n, e, sz)) :
    (Instr.sliceAt t (.pointer (some p)) none none none).run P w = .ok (.slice (some (if n = 0 then p else p.add 0)) n n) w := by
  obtain ⟨hu, hz⟩ := arrP_spec he
  simp [Instr.sliceAt, Instr.sliceBounds, Instr.sureAddr, run_underlying hu, run_szOf hz]

theorem WO.arr {t e : TypeId} {x ix : Operand} {p : Addr} {n sz : Nat} {k : IntKind} {i : Int} (hds : dsOk ds ops.toList = true) (hg : gd ds σ o.guard = some true) (hd : dOk σ o.dst = true)
    (hop : o.op = .indexAddr t x ix) (hx : ev σ x = some (.val (.pointer (some p)))) (hi : ev σ ix = some (.val (.int k i))) (he : arrP P t = some (n, e, sz))
    (h0 : 0 ≤ i) (h1 : i < n) (hk : WO P ops Q rest (σ.put o.dst (.val (.pointer (some (p.add (i.toNat * sz))))))) : WO P ops Q (o :: rest) σ :=
  WO.one hds hg fun ρ a w hs => by
    refine ⟨ρ, _, _, w, .inl ?_, hs.put _ _ _ (dOk_lt hd) (fun ρ' hρ => rfl), hk⟩
    unfold execOp
    rw [hop]
    simp only [Sem.run_bind, hs.ev hx ρ (Agree.refl _ _), hs.ev hi ρ (Agree.refl _ _), den, run_indexArr he h0 h1, Result.andThen_ok, Sem.run_pure]
theorem WQ.arr {t e : TypeId} {x ix : Operand} {p : Addr} {n sz : Nat} {k : IntKind} {i : Int} (hds : dsOk ds ops.toList = true) (hg : gd ds σ o.guard = some true) (hd : dOk σ o.dst = true)
    (hop : o.op = .indexAddr t x ix) (hx : ev σ x = some (.val (.pointer (some p)))) (hi : ev σ ix = some (.val (.int k i))) (he : arrP P t = some (n, e, sz))
    (h0 : 0 ≤ i) (h1 : i < n) (hk : WQ P ops K rest (σ.put o.dst (.val (.pointer (some (p.add (i.toNat * sz))))))) : WQ P ops K (o :: rest) σ :=
  WQ.one hds hg hd _ (fun ρ a w hs => by
    refine ⟨_, ?_, fun _ _ => rfl⟩
    unfold execOp
    rw [hop]
    simp only [Sem.run_bind, hs.ev hx ρ (Agree.refl _ _), hs.ev hi ρ (Agree.refl _ _), den, run_indexArr he h0 h1, Result.andThen_ok, Sem.run_pure]) hk
theorem WO.arrSlice {t e : TypeId} {x : Operand} {p : Addr} {n sz : Nat} (hds : dsOk ds ops.toList = true) (hg : gd ds σ o.guard = some true) (hd : dOk σ o.dst = true)
    (hop : o.op = .slice t x none none none) (hx : ev σ x = some (.val (.pointer (some p)))) (he : arrP P t = some (n, e, sz))
    (hk : WO P ops Q rest (σ.put o.dst (.val (.slice (some (if n = 0 then p else p.add 0)) n n)))) : WO P ops Q (o :: rest) σ :=
  WO.one hds hg fun ρ a w hs => by
    refine ⟨ρ, _, _, w, .inl ?_, hs.put _ _ _ (dOk_lt hd) (fun ρ' hρ => rfl), hk⟩
    unfold execOp
    rw [hop]
    simp only [Sem.run_bind, Option.map_none, hs.ev hx ρ (Agree.refl _ _), den, run_sliceArr he, Result.andThen_ok, Sem.run_pure]

/-- A row of cells that lies in a snapshot lies there now. -/
theorem At.now {ρ : Nat → Nat} {w s : World} {S : Nat → Prop} {p : Addr} {cs : List Value} (h : At s p cs) (hb : Base ρ σ w) (hm : (S, s) ∈ σ.snaps) (hS : S p.block) (hlt : p.block < s.heap.size) : At w p cs :=
  h.frame (((hb.keep _ hm).1).block _ hS hlt)

/-- a[i] of an array of one-cell elements that lies in a snapshot. -/
theorem WO.elemA {t e : TypeId} {x ix : Operand} {p : Addr} {n : Nat} {k : IntKind} {i : Int} {d1 : Nat} {cells : List Value} {S : Nat → Prop} {s : World} {y : Value}
    (hat : At s p cells) (hm : (S, s) ∈ σ.snaps) (hS : S p.block) (hlt : p.block < s.heap.size) (hds : dsOk ds ops.toList = true) (hg : gd ds σ o1.guard = some true) (hd : o1.dst = some d1) (hd1 : d1 < σ.n)
    (hg2 : ∀ u, gd ds (σ.put (some d1) u) o2.guard = some true) (hd2 : dOk σ o2.dst = true)
    (hop : o1.op = .indexAddr t x ix) (hop2 : o2.op = .load e (.tmp d1)) (hx : ev σ x = some (.val (.pointer (some p)))) (hi : ev σ ix = some (.val (.int k i))) (he : arrP P t = some (n, e, 1))
    (ha : aggB P e = some false) (hn : szOf P e = some 1) (h0 : 0 ≤ i) (h1 : i < n) (hy : cells[i.toNat]? = some y)
    (hk : ∀ q, WO P ops Q rest ((σ.put (some d1) (.val (.pointer (some q)))).put o2.dst (.val y))) : WO P ops Q (o1 :: o2 :: rest) σ := by
  refine WO.arr hds hg (by rw [hd]; simpa [dOk] using hd1) hop hx hi he h0 h1 ?_
  rw [hd]
  refine WO.load (p := p.add (i.toNat * 1)) [y] false hds (hg2 _) (by rw [dOk_put]; exact hd2) hop2 (by simp [SX.ev, getE, St.put]) ha hn (.inr rfl) (fun ρ w hb => ?_) (hk _)
  have h2 := (hat.now hb (by simpa [St.put] using hm) hS hlt).part (i.toNat * 1) 1
  rwa [take_one _ _ _ hy] at h2
theorem WQ.elemA {t e : TypeId} {x ix : Operand} {p : Addr} {n : Nat} {k : IntKind} {i : Int} {d1 : Nat} {cells : List Value} {S : Nat → Prop} {s : World} {y : Value}
    (hat : At s p cells) (hm : (S, s) ∈ σ.snaps) (hS : S p.block) (hlt : p.block < s.heap.size) (hds : dsOk ds ops.toList = true) (hg : gd ds σ o1.guard = some true) (hd : o1.dst = some d1) (hd1 : d1 < σ.n)
    (hg2 : ∀ u, gd ds (σ.put (some d1) u) o2.guard = some true) (hd2 : dOk σ o2.dst = true)
    (hop : o1.op = .indexAddr t x ix) (hop2 : o2.op = .load e (.tmp d1)) (hx : ev σ x = some (.val (.pointer (some p)))) (hi : ev σ ix = some (.val (.int k i))) (he : arrP P t = some (n, e, 1))
    (ha : aggB P e = some false) (hn : szOf P e = some 1) (h0 : 0 ≤ i) (h1 : i < n) (hy : cells[i.toNat]? = some y)
    (hk : ∀ q, WQ P ops K rest ((σ.put (some d1) (.val (.pointer (some q)))).put o2.dst (.val y))) : WQ P ops K (o1 :: o2 :: rest) σ := by
  refine WQ.arr hds hg (by rw [hd]; simpa [dOk] using hd1) hop hx hi he h0 h1 ?_
  rw [hd]
  refine WQ.load (p := p.add (i.toNat * 1)) [y] false hds (hg2 _) (by rw [dOk_put]; exact hd2) hop2 (by simp [SX.ev, getE, St.put]) ha hn (.inr rfl) (fun ρ w hb => ?_) (hk _)
  have h2 := (hat.now hb (by simpa [St.put] using hm) hS hlt).part (i.toNat * 1) 1
  rwa [take_one _ _ _ hy] at h2

/-! ### Boxes that a call writes -/
/-- The world turns at blocks C of the call's own alone; what they hold then is known. -/
theorem Base.rewrite {ρ : Nat → Nat} {w w' : World} {own' : List Own} (hb : Base ρ σ w) (hlen : own'.length = σ.own.length) (C : Nat → Prop) (hk : Keep (fun b => ¬ C b) w w')
    (hC : ∀ b, C b → ∃ (k : Nat) (o : Own), σ.own[k]? = some o ∧ o.num ρ k = some b)
    (h : ∀ (k : Nat) (o' : Own), own'[k]? = some o' → ∃ o, σ.own[k]? = some o ∧ o'.num ρ k = o.num ρ k ∧ ((o' = o ∧ ∀ b, o.num ρ k = some b → ¬ C b) ∨ ∀ ρ', Agree σ.own.length ρ ρ' → o'.holds ρ' k w')) : Base ρ { σ with own := own' } w' := by
  refine ⟨fun k o' hko ρ' hρ => ?_, fun i j oi oj b hi hj hni hnj => ?_, fun p hp => ⟨⟨hk.os.trans (hb.keep p hp).1.os, hk.tape.trans (hb.keep p hp).1.tape, hk.output.trans (hb.keep p hp).1.output, Nat.le_trans (hb.keep p hp).1.size hk.size, fun b hS hlt => ?_⟩, fun k o' b hko hn hS => ?_⟩⟩
  · obtain ⟨o, h1, h2, h3⟩ := h k o' hko
    have hρ' : Agree σ.own.length ρ ρ' := by rw [← hlen]; exact hρ
    rcases h3 with ⟨rfl, h3⟩ | h3
    · refine Own.holds_same (hb.own k o' h1 ρ' hρ') fun b hn => hk.block b ?_ (Own.lt (hb.own k o' h1 ρ' hρ') hn)
      have hkl : k < σ.own.length := (List.getElem?_eq_some_iff.1 h1).1
      rw [Own.num_agree hρ' hkl] at hn
      exact h3 b hn
    · exact h3 ρ' hρ'
  · obtain ⟨o1, g1, g2, _⟩ := h i oi hi
    obtain ⟨o2, g3, g4, _⟩ := h j oj hj
    exact hb.apart i j o1 o2 b g1 g3 (by rw [← g2]; exact hni) (by rw [← g4]; exact hnj)
  · have hnC : ¬ C b := fun hc => by
      obtain ⟨k, o, g1, g2⟩ := hC b hc
      have := (hb.keep p hp).2 k o b g1 g2 hS
      omega
    rw [hk.block b hnC (Nat.lt_of_lt_of_le hlt (hb.keep p hp).1.size)]
    exact (hb.keep p hp).1.block b hS hlt
  · obtain ⟨o, g1, g2, _⟩ := h k o' hko
    exact (hb.keep p hp).2 k o b g1 (by rw [← g2]; exact hn) hS

/-- A call that may write boxes of the caller's own, and leaves all else alone. -/
def GivesB (P : Program) (f : FuncId) (args : Array Value) (w : World) (C : Nat → Prop) (Q : Value → World → Prop) : Prop :=
  Calls P f args w fun e w' => ∃ v, e = .returned v ∧ Keep (fun b => ¬ C b) w w' ∧ Q v w'

/-- The caller's rule: the boxes k1 .. (in 'ks') hold the cells that the call leaves in them. -/
theorem WO.callB {f : FuncId} {ss : List SV} {X : Type} (val : X → Value) (p : X → Prop) (own' : X → List Own) (C : (Nat → Nat) → Nat → Prop) (hds : dsOk ds ops.toList = true) (hg : gd ds σ o.guard = some true) (hd : dOk σ o.dst = true)
    (hc : callS σ o.op = some (f, ss)) (hf : callOk P f = true) (hlen : ∀ x, (own' x).length = σ.own.length)
    (h : ∀ ρ w, Base ρ σ w → (∀ b, C ρ b → ∃ (k : Nat) (o : Own), σ.own[k]? = some o ∧ o.num ρ k = some b) ∧ GivesB P f (denL ρ ss).toArray w (C ρ) fun v w' => ∃ x, v = val x ∧ p x ∧
      ∀ (k : Nat) (o' : Own), (own' x)[k]? = some o' → ∃ o, σ.own[k]? = some o ∧ o'.num ρ k = o.num ρ k ∧ ((o' = o ∧ ∀ b, o.num ρ k = some b → ¬ C ρ b) ∨ ∀ ρ', Agree σ.own.length ρ ρ' → o'.holds ρ' k w'))
    (k : ∀ x, p x → WO P ops Q rest ({ σ with own := own' x }.put o.dst (.val (val x)))) : WO P ops Q (o :: rest) σ := fun ρ a w hs => by
  simp only [wpList, gd_sound hs hds hg, if_true]
  refine .inl ?_
  unfold Oper.wp
  rw [callS_run hs hf hc, Oper.upon_enter]
  obtain ⟨hC, hcall⟩ := h ρ w hs.base
  refine Calls.mono hcall fun e w' ⟨v, he, hb, x, hv, hp, hown⟩ => ?_
  subst he
  subst hv
  have hs' : Sat ρ { σ with own := own' x } a w' := ⟨hs.size, hs.defers, fun i s hi => ⟨(hs.env i s hi).1, fun ρ' hρ => (hs.env i s hi).2 ρ' (by rw [← hlen x]; exact hρ)⟩, hs.base.rewrite (hlen x) (C ρ) hb hC hown⟩
  exact k x hp ρ _ w' (hs'.put _ _ _ (dOk_lt (σ := { σ with own := own' x }) hd) fun _ _ => rfl)

/-! ### The callee's side: boxes that came in -/
def boxO (T : TypeId) (b : Nat) (cs : List Value) : Own := .slice T 1 (.slice (some ⟨b, 0, none⟩) cs.length cs.length) cs.length cs
theorem boxO_holds {ρ : Nat → Nat} {k T b : Nat} {cs : List Value} {w : World} (hlen : cs.length ≤ maxLen) (h : w.heap[b]? = some (.cells cs.toArray T (0, 0))) : (boxO T b cs).holds ρ k w :=
  ⟨by simp, .inr ⟨b, cs.length, cs.toArray, rfl, Nat.zero_le _, h, Nat.le_refl _, hlen, by simp, by simp⟩⟩
theorem boxO_heap {ρ : Nat → Nat} {k T b : Nat} {cs : List Value} {w : World} (h : (boxO T b cs).holds ρ k w) : w.heap[b]? = some (.cells cs.toArray T (0, 0)) := by
  simp only [boxO, Own.holds] at h
  rcases h.2 with ⟨hv, _⟩ | ⟨g, cap, cur, hv, _, hcell, hnc, hcm, hcs, htake⟩
  · cases hv
  · simp only [Value.slice.injEq, Option.some.injEq, Addr.mk.injEq] at hv
    obtain ⟨⟨rfl, _⟩, _, rfl⟩ := hv
    rw [Nat.mul_one, List.take_of_length_le (by simp [hcs])] at htake
    rw [hcell, ← htake]
theorem boxO_num {ρ : Nat → Nat} {k T b : Nat} {cs : List Value} : (boxO T b cs).num ρ k = some b := rfl
theorem box_heap {ρ : Nat → Nat} {w : World} {k T b : Nat} {cs : List Value} (hb : Base ρ σ w) (hk : nth σ.own k = some (boxO T b cs)) : w.heap[b]? = some (.cells cs.toArray T (0, 0)) := by
  rw [nth_eq] at hk
  exact boxO_heap (hb.own k _ hk ρ (Agree.refl _ _))
theorem box_at {ρ : Nat → Nat} {w : World} {k T b : Nat} {cs : List Value} (hb : Base ρ σ w) (hk : nth σ.own k = some (boxO T b cs)) : At w ⟨b, 0, none⟩ cs := own_at hb hk

def FinB (P : Program) (C : Nat → Prop) (w0 : World) (rs : List ResultVar) (Q : Value → World → Prop) (σ : St) : Prop :=
  (((fun b => ¬ C b), w0) ∈ σ.snaps ∧ σ.dfs = []) ∧ RunR (resSV P σ rs) fun s => ∀ ρ w', Base ρ σ w' → Q (den ρ s) w'
def EndsB (P : Program) (C : Nat → Prop) (w0 : World) (rs : List ResultVar) (Q : Value → World → Prop) : Exit → St → Prop
  | .ret, σ => FinB P C w0 rs Q σ
  | .normal, σ => FinB P C w0 rs Q σ
  | _, _ => False
theorem FinB.of {C : Nat → Prop} {w0 : World} {rs : List ResultVar} {Q : Value → World → Prop} (hm : ((fun b => ¬ C b), w0) ∈ σ.snaps ∧ σ.dfs = []) (h : RunR (resSV P σ rs) fun s => ∀ ρ w', Base ρ σ w' → Q (den ρ s) w') : FinB P C w0 rs Q σ := ⟨hm, h⟩

/-- A function's call out of a proof about its body, where it may write boxes: 'bs': block, type, cells. -/
theorem givesB_of {f : FuncId} {fn : Func} {c : Code} {args : Array Value} {w : World} {Q : Value → World → Prop} (bs : List (Nat × TypeId × List Value)) (svs : List SV) (n : Nat) (rs : List ResultVar)
    (hf : P.funcs[f]? = some fn) (hb : fn.body = some c) (hn : fn.ntmps = n) (hr : fn.results = rs.toArray) (hl : svs.length ≤ n) (ha : args = (denL (fun _ => 0) svs).toArray) (hbn : bndL 0 svs = true)
    (hbx : ∀ x, x ∈ bs → x.2.2.length ≤ maxLen ∧ w.heap[x.1]? = some (.cells x.2.2.toArray x.2.1 (0, 0))) (hnd : (bs.map (·.1)).Nodup)
    (h : W P c (EndsB P (fun b => b ∈ bs.map (·.1)) w rs Q) ⟨n, initE 0 svs, bs.map fun x => boxO x.2.1 x.1 x.2.2, [((fun b => ¬ b ∈ bs.map (·.1)), w)], []⟩) : GivesB P f args w (fun b => b ∈ bs.map (·.1)) Q := by
  refine calls_of_wp hf hb ?_
  subst ha
  have hget : ∀ (k : Nat) (o : Own), (bs.map fun x => boxO x.2.1 x.1 x.2.2)[k]? = some o → ∃ x, bs[k]? = some x ∧ o = boxO x.2.1 x.1 x.2.2 := fun k o hk => by
    rw [List.getElem?_map] at hk
    cases hx : bs[k]? with
    | none => rw [hx] at hk; cases hk
    | some x => rw [hx] at hk; exact ⟨x, rfl, (Option.some.inj hk).symm⟩
  refine wp_mono (wp_of (h (fun _ => 0) _ w ?_)) ?_
  · have hsz : (denL (fun _ => 0) svs).toArray.size = svs.length := by simp
    refine ⟨by simp [hn]; omega, rfl, fun i s hi => ?_, ⟨fun k o hk ρ' _ => ?_, fun i j oi oj b h1 h2 h3 h4 => ?_, fun p hp => ?_⟩⟩
    · obtain ⟨k, rfl, hk⟩ := initE_get svs 0 i s hi
      have hkl : k < svs.length := (List.getElem?_eq_some_iff.1 hk).1
      simp only [Nat.zero_add]
      refine ⟨by show k < n; omega, fun ρ' hρ => ?_⟩
      have : denL ρ' svs = denL (fun _ => 0) svs := denL_agree (m := 0) (fun i hi => by omega) svs hbn
      have hk2 : (denL (fun _ => 0) svs)[k]? = some (den ρ' s) := by rw [← this, denL_eq]; simp [hk]
      rw [Array.getElem?_append_left (by simp; exact hkl)]
      simpa using hk2
    · obtain ⟨x, hx, rfl⟩ := hget k o hk
      have := hbx x (List.mem_of_getElem? hx)
      exact boxO_holds this.1 this.2
    · obtain ⟨x, hx, rfl⟩ := hget i oi h1
      obtain ⟨y, hy, rfl⟩ := hget j oj h2
      simp only [boxO_num, Option.some.injEq] at h3 h4
      subst h3
      have hi : (bs.map (·.1))[i]? = some x.1 := by rw [List.getElem?_map, hx]; rfl
      have hj : (bs.map (·.1))[j]? = some x.1 := by rw [List.getElem?_map, hy]; exact congrArg some h4
      exact (List.getElem?_inj (List.getElem?_eq_some_iff.1 hi).1 hnd).1 (hi.trans hj.symm)
    · simp only [List.mem_singleton] at hp
      subst hp
      refine ⟨Keep.refl _ _, fun k o b hk hnum hS => ?_⟩
      obtain ⟨x, hx, rfl⟩ := hget k o hk
      simp only [boxO_num, Option.some.injEq] at hnum
      subst hnum
      exact absurd (List.mem_map.2 ⟨x, List.mem_of_getElem? hx, rfl⟩) hS
  · rintro e a' w' ⟨ρ, σ, hs, hq⟩
    have fin : FinB P (fun b => b ∈ bs.map (·.1)) w rs Q σ → (a'.defers = [] ∧ ∃ v, (results fn a'.tmps).run P w' = .ok v w' ∧ ∃ v', Ending.returned v = .returned v' ∧ Keep (fun b => ¬ b ∈ bs.map (·.1)) w w' ∧ Q v' w') := by
      rintro ⟨⟨hm, hdf⟩, hs0⟩
      cases hs1 : resSV P σ rs with
      | none => rw [hs1] at hs0; exact hs0.elim
      | some s =>
        rw [hs1] at hs0
        refine ⟨by rw [hs.defers, hdf]; rfl, den ρ s, ?_, den ρ s, rfl, (hs.base.keep _ hm).1, hs0 ρ w' hs.base⟩
        unfold resSV at hs1
        cases hra : resAll P σ rs with
        | none => rw [hra] at hs1; cases hs1
        | some ss =>
          have hrun := run_results hs rs ss hra
          rw [results_eq, hr]
          simp only [Sem.run_bind, List.mapM_toArray, Sem.run_map, hrun, Result.andThen_ok, Sem.run_pure]
          rw [hra] at hs1
          match ss, hs1 with
          | [], h1 => simp only [Option.some.injEq] at h1; subst h1; simp [denL, den]
          | [x], h1 => simp only [Option.some.injEq] at h1; subst h1; simp [denL]
          | x :: y :: l, h1 => simp only [Option.some.injEq] at h1; subst h1; simp [denL, den]
    cases e with
    | normal => exact fin hq
    | ret => exact fin hq
    | _ => exact hq.elim

theorem WO.storeBox {t : TypeId} {x y : Operand} {T : TypeId} {k b i : Nat} {xs : List Value} {q : Addr} {u : Value} (hk : nth σ.own k = some (boxO T b xs)) (hds : dsOk ds ops.toList = true) (hg : gd ds σ o.guard = some true) (hd : dOk σ o.dst = true)
    (hop : o.op = .store t x y) (hx : ev σ x = some (.val (.pointer (some q)))) (hq : q = (⟨b, 0, none⟩ : Addr).add (i * 1)) (hi : i < xs.length)
    (hy : ev σ y = some (.val u)) (h1 : u.oneCell' = true) (hsz : szOf P t = some 1)
    (h : WO P ops Q rest ((setOwn σ k (boxO T b (xs.set i u))).put o.dst (.val undef))) : WO P ops Q (o :: rest) σ :=
  WO.storeOwn hds hg hd hop hk hx hq hi hy h1 hsz (by simpa [boxO] using h)
theorem WO.loadBox {t : TypeId} {x : Operand} {T : TypeId} {k b i sz : Nat} {xs : List Value} {q : Addr} {agg : Bool} (hk : nth σ.own k = some (boxO T b xs)) (hds : dsOk ds ops.toList = true) (hg : gd ds σ o.guard = some true) (hd : dOk σ o.dst = true)
    (hop : o.op = .load t x) (hx : ev σ x = some (.val (.pointer (some q)))) (hq : q = (⟨b, 0, none⟩ : Addr).add i) (hi : i + sz ≤ xs.length)
    (ha : aggB P t = some agg) (hsz : szOf P t = some sz) (h1 : agg = true ∨ sz = 1)
    (h : WO P ops Q rest (σ.put o.dst (.val (ofCells agg ((xs.drop i).take sz))))) : WO P ops Q (o :: rest) σ := by
  have hlen : ((xs.drop i).take sz).length = sz := by simp; omega
  subst hq
  exact WO.load ((xs.drop i).take sz) agg hds hg hd hop hx ha (by rw [hlen]; exact hsz) (by rw [hlen]; exact h1) (fun ρ w hb => (box_at hb hk).part _ _) h

theorem all_two {α : Type} {p : α → Prop} {a b : α} (h1 : p a) (h2 : p b) : ∀ x, x ∈ [a, b] → p x := fun x hx => by
  rcases List.mem_cons.1 hx with rfl | hx
  · exact h1
  · rw [List.mem_singleton] at hx; subst hx; exact h2
theorem all_one {α : Type} {p : α → Prop} {a : α} (h1 : p a) : ∀ x, x ∈ [a] → p x := fun x hx => by
  rw [List.mem_singleton] at hx; subst hx; exact h1

/-- A call that turns two boxes of the caller's own. -/
theorem WO.callBox2 {f : FuncId} {ss : List SV} {k1 k2 T1 T2 : Nat} {cs1 cs2 : List SV} (cs1' cs2' : List SV) (v : Value) (hds : dsOk ds ops.toList = true) (hg : gd ds σ o.guard = some true) (hd : dOk σ o.dst = true)
    (hc : callS σ o.op = some (f, ss)) (hf : callOk P f = true) (h1 : nth σ.own k1 = some (.cells T1 cs1)) (h2 : nth σ.own k2 = some (.cells T2 cs2)) (hne : k1 ≠ k2) (hb1 : bndL 0 cs1' = true) (hb2 : bndL 0 cs2' = true)
    (h : ∀ ρ w, Base ρ σ w → w.heap[ρ k1]? = some (.cells (denL ρ cs1).toArray T1 (0, 0)) → w.heap[ρ k2]? = some (.cells (denL ρ cs2).toArray T2 (0, 0)) → ρ k1 ≠ ρ k2 →
      GivesB P f (denL ρ ss).toArray w (fun c => c ∈ [ρ k1, ρ k2]) fun r w' => r = v ∧ w'.heap[ρ k1]? = some (.cells (denL ρ cs1').toArray T1 (0, 0)) ∧ w'.heap[ρ k2]? = some (.cells (denL ρ cs2').toArray T2 (0, 0)))
    (k : WO P ops Q rest ((setOwn (setOwn σ k1 (.cells T1 cs1')) k2 (.cells T2 cs2')).put o.dst (.val v))) : WO P ops Q (o :: rest) σ := by
  rw [nth_eq] at h1 h2
  have hl1 : k1 < σ.own.length := (List.getElem?_eq_some_iff.1 h1).1
  have hl2 : k2 < σ.own.length := (List.getElem?_eq_some_iff.1 h2).1
  refine WO.callB (X := Unit) (fun _ => v) (fun _ => True) (fun _ => setN (setN σ.own k1 (.cells T1 cs1')) k2 (.cells T2 cs2')) (fun ρ c => c ∈ [ρ k1, ρ k2]) hds hg hd hc hf (fun _ => by simp [setN_eq]) (fun ρ w hb => ⟨fun b hbm => ?_, ?_⟩) fun _ _ => k
  · rcases List.mem_cons.1 hbm with rfl | hbm
    · exact ⟨k1, _, h1, rfl⟩
    · rw [List.mem_singleton] at hbm; subst hbm; exact ⟨k2, _, h2, rfl⟩
  · have g1 := hb.own k1 _ h1 ρ (Agree.refl _ _)
    have g2 := hb.own k2 _ h2 ρ (Agree.refl _ _)
    refine Calls.mono (h ρ w hb g1 g2 fun he => hne (hb.apart k1 k2 _ _ (ρ k1) h1 h2 rfl (congrArg some he.symm))) fun e w' ⟨u, he, hkeep, hu, q1, q2⟩ => ⟨u, he, hkeep, (), hu, trivial, fun j o' hj => ?_⟩
    simp only [setN_eq] at hj
    by_cases hj2 : k2 = j
    · subst hj2
      rw [List.getElem?_set_self (by simpa using hl2)] at hj
      obtain rfl := Option.some.inj hj
      refine ⟨_, h2, rfl, .inr fun ρ' hρ => ?_⟩
      show w'.heap[ρ' k2]? = _
      rw [hρ k2 hl2, denL_agree (m := 0) (ρ := ρ) (fun i hi => by omega) cs2' hb2]
      exact q2
    · rw [List.getElem?_set_ne hj2] at hj
      by_cases hj1 : k1 = j
      · subst hj1
        rw [List.getElem?_set_self hl1] at hj
        obtain rfl := Option.some.inj hj
        refine ⟨_, h1, rfl, .inr fun ρ' hρ => ?_⟩
        show w'.heap[ρ' k1]? = _
        rw [hρ k1 hl1, denL_agree (m := 0) (ρ := ρ) (fun i hi => by omega) cs1' hb1]
        exact q1
      · rw [List.getElem?_set_ne hj1] at hj
        refine ⟨o', hj, rfl, .inl ⟨rfl, fun b hn hbm => ?_⟩⟩
        rcases List.mem_cons.1 hbm with rfl | hbm
        · exact hj1 (hb.apart k1 j _ _ _ h1 hj rfl hn)
        · rw [List.mem_singleton] at hbm
          subst hbm
          exact hj2 (hb.apart k2 j _ _ _ h2 hj rfl hn)
end
end Go.SX
