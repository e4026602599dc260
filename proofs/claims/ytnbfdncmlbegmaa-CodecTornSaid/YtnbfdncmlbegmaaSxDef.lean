/-
  Blocks of the caller's that a call turns; calls that may panic; deferred calls.
-/
import Derived.Test.YtnbfdncmlbegmaaSxRng
import Derived.Defers
import Derived.Recover
import Derived.Laws.BytesString
import Derived.ChangeKeysEq
set_option linter.unusedVariables false
namespace Go.SX
open Go Go.RowKit

section
variable {P : Program} {ops : Array Oper} {Q : Exit → St → Prop} {σ : St} {l : List Oper} {o : Oper} {rest : List Oper} {ds : List (Option Nat)} {K : St → Prop}

/-- A call that may turn blocks C, and may panic. -/
def GivesP (P : Program) (f : FuncId) (args : Array Value) (w : World) (C : Nat → Prop) (Q : Value → World → Prop) (Qp : List PanicEntry → World → Prop) : Prop :=
  Calls P f args w fun e w' => (∃ v, e = .returned v ∧ Keep (fun b => ¬ C b) w w' ∧ Q v w') ∨ (∃ ch, e = .panicked ch ∧ Keep (fun b => ¬ C b) w w' ∧ Qp ch w')
def EndsP (P : Program) (C : Nat → Prop) (w0 : World) (rs : List ResultVar) (Q : Value → World → Prop) (Qp : List PanicEntry → World → Prop) : Exit → St → Prop
  | .ret, σ => FinB P C w0 rs Q σ
  | .normal, σ => FinB P C w0 rs Q σ
  | .panic ch, σ => (((fun b => ¬ C b), w0) ∈ σ.snaps ∧ σ.dfs = []) ∧ ∀ ρ w', Base ρ σ w' → Qp ch w'
  | _, _ => False
/-- A function's call out of a walk, a block of any kind coming in as its own; it may panic. -/
theorem givesP_of {f : FuncId} {fn : Func} {c : Code} {args : Array Value} {w : World} {Q : Value → World → Prop} {Qp : List PanicEntry → World → Prop} (o1 : Own) (svs : List SV) (n : Nat) (rs : List ResultVar)
    (hf : P.funcs[f]? = some fn) (hb : fn.body = some c) (hn : fn.ntmps = n) (hr : fn.results = rs.toArray) (hl : svs.length ≤ n) (ha : args = (denL (fun _ => 0) svs).toArray) (hbn : bndL 0 svs = true)
    (hfr : freeO o1 = true) (hho : o1.holds (fun _ => 0) 0 w)
    (h : W P c (EndsP P (fun b => o1.num (fun _ => 0) 0 = some b) w rs Q Qp) ⟨n, initE 0 svs, [o1], [((fun b => ¬ o1.num (fun _ => 0) 0 = some b), w)], []⟩) : GivesP P f args w (fun b => o1.num (fun _ => 0) 0 = some b) Q Qp := by
  refine calls_of_wp hf hb ?_
  subst ha
  have hget : ∀ (k : Nat) (o : Own), [o1][k]? = some o → k = 0 ∧ o = o1 := fun k o hk => by
    cases k with
    | zero => simp only [List.getElem?_cons_zero, Option.some.injEq] at hk; exact ⟨rfl, hk.symm⟩
    | succ k => simp at hk
  refine wp_mono (wp_of (h (fun _ => 0) _ w ?_)) ?_
  · refine ⟨by simp [hn]; omega, rfl, fun i s hi => ?_, ⟨fun k o hk ρ' _ => ?_, fun i j oi oj b h1 h2 h3 h4 => ?_, fun p hp => ?_⟩⟩
    · obtain ⟨k, rfl, hk⟩ := initE_get svs 0 i s hi
      have hkl : k < svs.length := (List.getElem?_eq_some_iff.1 hk).1
      simp only [Nat.zero_add]
      refine ⟨by show k < n; omega, fun ρ' hρ => ?_⟩
      have : denL ρ' svs = denL (fun _ => 0) svs := denL_agree (m := 0) (fun i hi => by omega) svs hbn
      have hk2 : (denL (fun _ => 0) svs)[k]? = some (den ρ' s) := by rw [← this, denL_eq]; simp [hk]
      rw [Array.getElem?_append_left (by simp; exact hkl)]
      simpa using hk2
    · obtain ⟨rfl, rfl⟩ := hget k o hk
      exact freeO_holds hfr hho
    · rw [(hget i oi h1).1, (hget j oj h2).1]
    · simp only [List.mem_singleton] at hp
      subst hp
      refine ⟨Keep.refl _ _, fun k o b hk hnum hS => ?_⟩
      obtain ⟨rfl, rfl⟩ := hget k o hk
      exact absurd hnum hS
  · rintro e a' w' ⟨ρ, σ, hs, hq⟩
    have fin : FinB P (fun b => o1.num (fun _ => 0) 0 = some b) w rs Q σ → (a'.defers = [] ∧ ∃ v, (results fn a'.tmps).run P w' = .ok v w' ∧ ((∃ v', Ending.returned v = .returned v' ∧ Keep (fun b => ¬ o1.num (fun _ => 0) 0 = some b) w w' ∧ Q v' w') ∨ (∃ ch, Ending.returned v = .panicked ch ∧ Keep (fun b => ¬ o1.num (fun _ => 0) 0 = some b) w w' ∧ Qp ch w'))) := by
      rintro ⟨⟨hm, hdf⟩, hs0⟩
      cases hs1 : resSV P σ rs with
      | none => rw [hs1] at hs0; exact hs0.elim
      | some s =>
        rw [hs1] at hs0
        refine ⟨by rw [hs.defers, hdf]; rfl, den ρ s, ?_, .inl ⟨den ρ s, rfl, (hs.base.keep _ hm).1, hs0 ρ w' hs.base⟩⟩
        unfold resSV at hs1
        cases hra : resAll P σ rs with
        | none => rw [hra] at hs1; cases hs1
        | some ss =>
          have hrun := run_results hs rs ss hra
          rw [results_eq, hr]
          simp only [Sem.run_bind, List.mapM_toArray, Sem.run_map, hrun, Result.andThen_ok, Sem.run_pure]
          rw [hra] at hs1
          match ss, hs1 with
          | [], h1 => simp only [Option.some.injEq] at h1; subst h1; simp [denL, den]
          | [x], h1 => simp only [Option.some.injEq] at h1; subst h1; simp [denL]
          | x :: y :: l, h1 => simp only [Option.some.injEq] at h1; subst h1; simp [denL, den]
    cases e with
    | normal => exact fin hq
    | ret => exact fin hq
    | panic ch => exact ⟨by rw [hs.defers, hq.1.2]; rfl, .inr ⟨ch, rfl, (hs.base.keep _ hq.1.1).1, hq.2 ρ w' hs.base⟩⟩
    | _ => exact hq.elim

/-- The caller's rule: own block k turns into another; the call returns, or panics. -/
theorem WO.callP {f : FuncId} {ss : List SV} {X : Type} {k : Nat} {oo : Own} (val : X → Value) (o' : X → Own) (op : List PanicEntry → Own) (p : X → Prop) (pp : List PanicEntry → Prop) (hk : nth σ.own k = some oo) (hds : dsOk ds ops.toList = true) (hg : gd ds σ o.guard = some true) (hd : dOk σ o.dst = true)
    (hc : callS σ o.op = some (f, ss)) (hf : callOk P f = true) (hfo : freeO oo = true) (hf' : ∀ x, freeO (o' x) = true) (hfp : ∀ ch, freeO (op ch) = true)
    (h : ∀ ρ w, Base ρ σ w → GivesP P f (denL ρ ss).toArray w (fun b => oo.num (fun _ => 0) 0 = some b)
      (fun v w' => ∃ x, v = val x ∧ p x ∧ (o' x).holds (fun _ => 0) 0 w' ∧ ∀ b, (o' x).num (fun _ => 0) 0 = some b → oo.num (fun _ => 0) 0 = some b ∨ w.heap.size ≤ b)
      (fun ch w' => pp ch ∧ (op ch).holds (fun _ => 0) 0 w' ∧ ∀ b, (op ch).num (fun _ => 0) 0 = some b → oo.num (fun _ => 0) 0 = some b ∨ w.heap.size ≤ b))
    (k1 : ∀ x, p x → WO P ops Q rest ((setOwn σ k (o' x)).put o.dst (.val (val x)))) (k2 : ∀ ch, pp ch → Q (.panic ch) (setOwn σ k (op ch))) : WO P ops Q (o :: rest) σ := fun ρ a w hs => by
  simp only [wpList, gd_sound hs hds hg, if_true]
  refine .inl ?_
  unfold Oper.wp
  rw [callS_run hs hf hc, Oper.upon_enter]
  rw [nth_eq] at hk
  have hnum : ∀ (ρ' : Nat → Nat) j, oo.num ρ' j = oo.num (fun _ => 0) 0 := fun ρ' j => freeO_num hfo ρ' _ j 0
  have key : ∀ (on : Own) (w' : World), freeO on = true → Keep (fun b => ¬ oo.num (fun _ => 0) 0 = some b) w w' → on.holds (fun _ => 0) 0 w' → (∀ b, on.num (fun _ => 0) 0 = some b → oo.num (fun _ => 0) 0 = some b ∨ w.heap.size ≤ b) → Sat ρ (setOwn σ k on) a w' := fun on w' hon hkp hho hnn =>
    hs.turn hk (fun T cs he => by rw [he] at hon; cases hon) ⟨hkp.os, hkp.tape, hkp.output, hkp.size, fun b hb hne => hkp.block b (fun he => hne (by rw [hnum, he])) hb⟩ (freeO_holds hon hho) fun b hb => by
      rw [freeO_num hon ρ (fun _ => 0) k 0] at hb
      rw [hnum]; exact hnn b hb
  refine Calls.mono (h ρ w hs.base) fun e w' hq => ?_
  rcases hq with ⟨v, he, hkp, x, hv, hp, hho, hnn⟩ | ⟨ch, he, hkp, hp, hho, hnn⟩
  · subst he; subst hv
    exact k1 x hp ρ _ w' ((key _ w' (hf' x) hkp hho hnn).put _ _ _ (fun j hj => dOk_lt (σ := setOwn σ k _) (by rw [dOk_setOwn]; exact hd) j hj) fun _ _ => rfl)
  · subst he
    exact ⟨ρ, _, key _ w' (hfp ch) hkp hho hnn, k2 ch hp⟩
/-- .. a call that does not panic -/
theorem GivesP.ofB {f : FuncId} {args : Array Value} {w : World} {C : Nat → Prop} {Q : Value → World → Prop} {Qp : List PanicEntry → World → Prop} (h : GivesB P f args w C Q) : GivesP P f args w C Q Qp :=
  Calls.mono h fun e w' ⟨v, he, hk, hq⟩ => .inl ⟨v, he, hk, hq⟩
theorem GivesP.toB {f : FuncId} {args : Array Value} {w : World} {C : Nat → Prop} {Q : Value → World → Prop} (h : GivesP P f args w C Q fun _ _ => False) : GivesB P f args w C Q :=
  Calls.mono h fun e w' hq => by
    rcases hq with hq | ⟨_, _, _, hq⟩
    · exact hq
    · exact hq.elim
theorem GivesP.mono {f : FuncId} {args : Array Value} {w : World} {C : Nat → Prop} {Q Q' : Value → World → Prop} {Qp Qp' : List PanicEntry → World → Prop} (h : GivesP P f args w C Q Qp) (h1 : ∀ v w', Keep (fun b => ¬ C b) w w' → Q v w' → Q' v w') (h2 : ∀ ch w', Keep (fun b => ¬ C b) w w' → Qp ch w' → Qp' ch w') : GivesP P f args w C Q' Qp' :=
  Calls.mono h fun e w' hq => by
    rcases hq with ⟨v, he, hk, hq⟩ | ⟨ch, he, hk, hq⟩
    · exact .inl ⟨v, he, hk, h1 v w' hk hq⟩
    · exact .inr ⟨ch, he, hk, h2 ch w' hk hq⟩
theorem WO.callT {f : FuncId} {ss : List SV} {X : Type} {k : Nat} {oo : Own} (val : X → Value) (o' : X → Own) (p : X → Prop) (hk : nth σ.own k = some oo) (hds : dsOk ds ops.toList = true) (hg : gd ds σ o.guard = some true) (hd : dOk σ o.dst = true)
    (hc : callS σ o.op = some (f, ss)) (hf : callOk P f = true) (hfo : freeO oo = true) (hf' : ∀ x, freeO (o' x) = true)
    (h : ∀ ρ w, Base ρ σ w → GivesB P f (denL ρ ss).toArray w (fun b => oo.num (fun _ => 0) 0 = some b)
      (fun v w' => ∃ x, v = val x ∧ p x ∧ (o' x).holds (fun _ => 0) 0 w' ∧ ∀ b, (o' x).num (fun _ => 0) 0 = some b → oo.num (fun _ => 0) 0 = some b ∨ w.heap.size ≤ b))
    (k1 : ∀ x, p x → WO P ops Q rest ((setOwn σ k (o' x)).put o.dst (.val (val x)))) : WO P ops Q (o :: rest) σ :=
  WO.callP val o' (fun _ => .dead) p (fun _ => False) hk hds hg hd hc hf hfo hf' (fun _ => rfl) (fun ρ w hb => (GivesP.ofB (Qp := fun _ _ => False) (h ρ w hb)).mono (fun _ _ _ h => h) fun _ _ _ h => h.elim) k1 fun _ h => h.elim

/-- panic(x) -/
theorem WO.panic {x : Operand} {t : TypeId} {v : Value} (hds : dsOk ds ops.toList = true) (hg : gd ds σ o.guard = some true) (hop : o.op = .panic x) (hx : ev σ x = some (.val (.iface t v)))
    (h : Q (.panic [{ v := .iface t v, recovered := false }]) σ) : WO P ops Q (o :: rest) σ := fun ρ a w hs => by
  simp only [wpList, gd_sound hs hds hg, if_true]
  refine .inl ?_
  unfold Oper.wp
  have h1 := hs.ev hx ρ (Agree.refl _ _)
  simp only [den] at h1
  have hrun : (execOp a.eval o).run P w = .halt (.panic (.iface t v)) w := by
    unfold execOp
    rw [hop]
    simp only [h1, Instr.panic, Sem.run_bind]
    rfl
  rw [hrun]
  exact ⟨ρ, σ, hs, h⟩
def notIface (P : Program) (t : TypeId) : Bool := match P.underlying t with | some (.interface _) => false | some _ => true | none => false
theorem QR.iface {t : TypeId} {x : Operand} {v : Value} (hop : o.op = .makeInterface t x) (hx : ∃ s, ev σ x = some s ∧ ∀ ρ, den ρ s = v) (ht : notIface P t = true) : QR P o σ (.val (.iface t v)) := fun ρ a w hs => by
  obtain ⟨s, h1, h2⟩ := hx
  refine ⟨_, ?_, fun _ _ => rfl⟩
  unfold execOp
  rw [hop]
  unfold notIface at ht
  cases hu : P.underlying t with
  | none => rw [hu] at ht; cases ht
  | some u =>
    rw [hu] at ht
    simp only [hs.ev h1 ρ (Agree.refl _ _), h2, Instr.makeInterface, Sem.run_bind, run_underlying hu, Result.andThen_ok]
    cases u <;> first | (cases ht; done) | rfl
theorem QR.nilCheck {x : Operand} {q : Addr} (hop : o.op = .nilCheck x) (hx : ev σ x = some (.val (.pointer (some q)))) : QR P o σ (.val (.pointer (some q))) := fun ρ a w hs => by
  refine ⟨_, ?_, fun _ _ => rfl⟩
  unfold execOp
  rw [hop]
  simp only [hs.ev hx ρ (Agree.refl _ _), den]
  rfl
/-- A deferred call of a function. -/
theorem WO.defer {f : FuncId} {fs : Array Operand} {tys : Array TypeId} {vs : List Value} (hds : dsOk ds ops.toList = true) (hg : gd ds σ o.guard = some true) (hd : dOk σ o.dst = true)
    (hop : o.op = .defer { callee := .value (.func f), args := fs, argTypes := tys }) (hx : ∃ ss, evL σ fs.toList = some ss ∧ ∀ ρ, denL ρ ss = vs)
    (h : WO P ops Q rest ((⟨σ.n, σ.env, σ.own, σ.snaps, .fn { target := .fn (.func f) #[], args := vs.toArray } :: σ.dfs⟩ : St).put o.dst (.val undef))) : WO P ops Q (o :: rest) σ := fun ρ a w hs => by
  simp only [wpList, gd_sound hs hds hg, if_true]
  refine .inl ?_
  unfold Oper.wp
  obtain ⟨ss, h1, h2⟩ := hx
  have h3 := hs.evL h1 ρ (Agree.refl _ _)
  have h4 : fs.map a.eval = vs.toArray := by apply Array.toList_inj.1; rw [← h2 ρ]; simpa using h3
  have hrun : (execOp a.eval o).run P w = .ok (.defer { target := .fn (.func f) #[], args := vs.toArray }) w := by
    unfold execOp
    rw [hop]
    simp [resolve, h4, Deferred.ofValue, Act.eval]
  rw [hrun]
  show wpList P ops (lift Q) rest _ w
  have hs' : Sat ρ (⟨σ.n, σ.env, σ.own, σ.snaps, .fn { target := .fn (.func f) #[], args := vs.toArray } :: σ.dfs⟩ : St) { tmps := a.tmps, defers := { target := .fn (.func f) #[], args := vs.toArray } :: a.defers } w :=
    ⟨hs.size, by show _ :: a.defers = _; rw [hs.defers]; rfl, hs.env, ⟨hs.base.own, hs.base.apart, hs.base.keep⟩⟩
  exact h ρ _ w (hs'.put o.dst (.val undef) undef (dOk_lt (σ := ⟨σ.n, σ.env, σ.own, σ.snaps, .fn { target := .fn (.func f) #[], args := vs.toArray } :: σ.dfs⟩) hd) fun _ _ => rfl)
/-- bytes and strings -/
def bytesT (P : Program) (s d : TypeId) : Bool := match P.underlying s, P.underlying d with
  | some (.slice e), some .string => match P.underlying e with
    | some (.int .u8) => true
    | _ => false
  | _, _ => false
theorem bytesT_spec {s d : TypeId} (h : bytesT P s d = true) : ∃ e, P.underlying s = some (.slice e) ∧ P.underlying e = some (.int .u8) ∧ P.underlying d = some .string := by
  unfold bytesT at h
  split at h
  · rename_i e h1 h2
    split at h
    · rename_i h3; exact ⟨e, h1, h3, h2⟩
    · cases h
  · cases h
def bstr (l : List Int) : ByteArray := l.foldl (fun r n => r.push (UInt8.ofNat n.toNat)) ByteArray.empty
theorem foldl_push : ∀ (l : List Int) (s : ByteArray), (l.foldl (fun r n => r.push (UInt8.ofNat n.toNat)) s).data.toList = s.data.toList ++ l.map fun n => UInt8.ofNat n.toNat
  | [], s => by simp
  | n :: l, s => by
    simp only [List.foldl_cons]
    rw [foldl_push l]; simp [ByteArray.data_push]
theorem bstr_toList (l : List Int) : (bstr l).toList = l.map fun n => UInt8.ofNat n.toNat := by
  rw [ByteArray.toList_eq]
  have := foldl_push l ByteArray.empty
  unfold bstr
  simpa using this
theorem bstr_eq {a b : List Int} (ha : ∀ x, x ∈ a → 0 ≤ x ∧ x ≤ 255) (hb : ∀ x, x ∈ b → 0 ≤ x ∧ x ≤ 255) : ((bstr a).toList == (bstr b).toList) = decide (a = b) := by
  rw [bstr_toList, bstr_toList, Bool.eq_iff_iff, beq_iff_eq, decide_eq_true_eq]
  constructor
  · intro h
    have hlen : a.length = b.length := by simpa using congrArg List.length h
    refine List.ext_getElem hlen fun i h1 h2 => ?_
    have h3 : (a.map fun n => UInt8.ofNat n.toNat)[i]? = (b.map fun n => UInt8.ofNat n.toNat)[i]? := by rw [h]
    simp only [List.getElem?_map, List.getElem?_eq_getElem h1, List.getElem?_eq_getElem h2, Option.map_some, Option.some.injEq] at h3
    have h4 := congrArg UInt8.toNat h3
    have h5 := ha a[i] (List.getElem_mem h1)
    have h6 := hb b[i] (List.getElem_mem h2)
    simp only [UInt8.toNat_ofNat'] at h4
    omega
  · rintro rfl; rfl
theorem QR.bytesStr {s d : TypeId} {x : Operand} {v : Value} {xs : List Int} {S : Nat → Prop} {w0 : World} (hop : o.op = .convert s d x) (hx : ev σ x = some (.val v)) (ht : bytesT P s d = true) (hl : (Rp.slice (Rp.int .u8)).rd S w0 [v] xs) (hm : (S, w0) ∈ σ.snaps) : QR P o σ (.val (.string (bstr xs))) := fun ρ a w hs => by
  refine ⟨_, ?_, fun _ _ => rfl⟩
  obtain ⟨e, h1, h2, h3⟩ := bytesT_spec ht
  have hl' := Rp.keep hl (hs.base.at hm)
  unfold execOp
  rw [hop]
  simp only [hs.ev hx ρ (Agree.refl _ _), den]
  obtain ⟨q, c, hv, hn⟩ := Rp.slice_val hl'
  obtain ⟨q, n, c, hv, hnl, hnc, hcm, hel⟩ := hl'
  simp only [List.cons.injEq, and_true] at hv
  subst hv
  rw [Sem.run_bind, run_convert_bytes_string w s d e q n c h1 h2 h3]
  rcases hel with rfl | ⟨a9, rfl, hS, hsz, hel⟩
  · cases q with
    | none => simp [Conv.bytesToString, bstr]
    | some a9 =>
      rw [run_bytesToString w a9 n c [] (by
        have := run_loadCells_list (P := P) w a9 [] (fun j v hv => by simp at hv)
        rw [show n = 0 by simpa using hnl]; simpa using this)]
      rfl
  · have hat : At w a9 (xs.map (Value.int .u8)) := fun j v hv => by
      rw [List.getElem?_map] at hv
      cases hj : xs[j]? with
      | none => rw [hj] at hv; cases hv
      | some y =>
        rw [hj] at hv
        obtain rfl := Option.some.inj hv
        obtain ⟨ces, g1, g2⟩ := hel j y hj
        have g2 : ces = [.int .u8 y] := g2
        subst g2
        have := g1 0 _ rfl
        rw [show (Rp.int IntKind.u8).sz = 1 from rfl, Nat.mul_one] at this
        rw [show (a9.add j).add 0 = a9.add j by rw [add_add]; rfl] at this
        exact this
    have := run_loadCells_list (P := P) w a9 (xs.map (Value.int .u8)) hat
    rw [run_bytesToString w a9 n c xs (by rw [hnl]; simpa using this)]
    rfl
/-! ### Regions that draw their order: pure operations taken ahead, quiet ones, and a tail -/
def WT (P : Program) (ops : Array Oper) (K : St → Prop) (T : List Nat) (σ : St) : Prop := ∀ ρ a, SatE ρ σ a → wpPlain P ops (fun a' => ∃ σ', SatE ρ σ' a' ∧ σ'.own = σ.own ∧ σ'.snaps = σ.snaps ∧ K σ') T a
theorem wpPlain_mono' {K K' : Act → Prop} (hk : ∀ a, K a → K' a) : ∀ (T : List Nat) (a : Act), wpPlain P ops K T a → wpPlain P ops K' T a
  | [], a, h => hk a h
  | i :: T, a, ⟨o, v, h1, h2, h3⟩ => ⟨o, v, h1, h2, wpPlain_mono' hk T _ h3⟩
theorem WT.nil (h : K σ) : WT P ops K [] σ := fun ρ a hs => ⟨σ, hs, rfl, rfl, h⟩
theorem WT.one {i : Nat} {T : List Nat} (s : SV) (ho : nth ops.toList i = some o) (hgn : o.guard = none) (hd : dOk σ o.dst = true)
    (h : ∀ ρ a, SatE ρ σ a → ∃ v, (∀ w, (execOp a.eval o).run P w = .ok (.value v) w) ∧ ∀ ρ', Agree σ.own.length ρ ρ' → v = den ρ' s) (hk : WT P ops K T (σ.put o.dst s)) : WT P ops K (i :: T) σ := fun ρ a hs => by
  rw [nth_eq, Array.getElem?_toList] at ho
  obtain ⟨v, h1, h2⟩ := h ρ a hs
  refine ⟨o, v, ho, .inl ⟨by unfold Region.wanted; rw [hgn], h1⟩, wpPlain_mono' (fun a' ⟨σ', g1, g2, g3, g4⟩ => ⟨σ', g1, g2.trans (put_own _ _ _), g3.trans (put_snaps _ _ _), g4⟩) T _ (hk ρ _ (hs.put _ _ _ (dOk_lt hd) h2))⟩
theorem WT.move {i : Nat} {T : List Nat} {x : Operand} {s : SV} (ho : nth ops.toList i = some o) (hgn : o.guard = none) (hd : dOk σ o.dst = true) (hop : o.op = .move x) (hx : ev σ x = some s) (hk : WT P ops K T (σ.put o.dst s)) : WT P ops K (i :: T) σ :=
  WT.one s ho hgn hd (fun ρ a hs => ⟨a.eval x, fun w => by unfold execOp; rw [hop]; rfl, fun ρ' hρ => hs.ev hx ρ' hρ⟩) hk
theorem WT.bin {i : Nat} {T : List Nat} {op : BinOp} {t yt : TypeId} {x y : Operand} {u v r : Value} (ho : nth ops.toList i = some o) (hgn : o.guard = none) (hd : dOk σ o.dst = true) (hop : o.op = .binOp op t x y yt) (hx : ev σ x = some (.val u)) (hy : ev σ y = some (.val v)) (hr : binS P t op u v = some r)
    (hk : WT P ops K T (σ.put o.dst (.val r))) : WT P ops K (i :: T) σ :=
  WT.one (.val r) ho hgn hd (fun ρ a hs => ⟨r, fun w => by
    have h9 := binS_run (P := P) (w := w) (x := x) (y := y) hr
    unfold execOp
    rw [hop]
    simp only [hs.ev hx ρ (Agree.refl _ _), hs.ev hy ρ (Agree.refl _ _), den]
    simp only [Sem.run_bind] at h9 ⊢
    rw [← Sem.run_bind] at h9
    cases he : (eqGuard op t x y u v).run P w with
    | ok z w' =>
      simp only [Sem.run_bind, he, Result.andThen_ok] at h9 ⊢
      rw [h9]; rfl
    | _ => simp [Sem.run_bind, he, Result.andThen] at h9, fun _ _ => rfl⟩) hk
theorem WT.slc {i : Nat} {T : List Nat} {t e : TypeId} {sz n c : Nat} {p : Option Addr} {x : Operand} {lo hi : Option Operand} {rl rh : Option (IntKind × Int)} (ho : nth ops.toList i = some o) (hgn : o.guard = none) (hd : dOk σ o.dst = true)
    (hop : o.op = .slice t x lo hi none) (hx : ev σ x = some (.val (.slice p n c))) (he : elemSz P t = some (e, sz)) (hl : bdS σ lo = some rl) (hh : bdS σ hi = some rh) (h0 : 0 ≤ loS rl) (h1 : loS rl ≤ hiS n rh) (h2 : hiS n rh ≤ c)
    (hk : WT P ops K T (σ.put o.dst (.val (slcV sz p c (loS rl).toNat (hiS n rh).toNat)))) : WT P ops K (i :: T) σ :=
  WT.one _ ho hgn hd (fun ρ a hs => ⟨_, fun w => by
    have bd : ∀ {x : Option Operand} {r : Option (IntKind × Int)}, bdS σ x = some r → x.map a.eval = r.map fun q => Value.int q.1 q.2 := fun {x r} h => by
      cases x with
      | none => simp only [bdS, Option.some.injEq] at h; subst h; rfl
      | some x =>
        simp only [bdS] at h
        split at h
        · rename_i k i hev
          simp only [Option.some.injEq] at h; subst h
          simp [hs.ev hev ρ (Agree.refl _ _), den]
        · cases h
    unfold execOp
    rw [hop]
    simp only [Sem.run_bind, Option.map_none, bd hl, bd hh, hs.ev hx ρ (Agree.refl _ _), den, run_slc he h0 h1 h2, Result.andThen_ok, Sem.run_pure]
    rfl, fun _ _ => rfl⟩) hk
theorem W.regionW {id : Nat} (n : Nat) (T H : List Nat) (hm : P.follows .mixedOrders = true) (hB : drawB ops n T H = true)
    (h : WT P ops (fun σ1 => WQ P ops (WO P ops (np Q) (ops.toList.drop n)) (pickL ops H) σ1) T σ) : W P (.region id ops true) Q σ := fun ρ a w hs => by
  refine of_wp (wp_mono (wp_draw (Q' := lift (np Q)) (C := Base ρ σ) n T H hm hB (fun c a w h => ?_) (hs.base.below (below_drew w)) (wpPlain_mono' (fun a' ⟨σ1, h1, h2, h3, h4⟩ => ?_) T a (h ρ a hs.e))) fun e a w ⟨ρ', σ', h1, h2⟩ => ⟨ρ', σ', h1, np_of Q e σ' h2⟩)
  · obtain ⟨_, _, _, h⟩ := h; exact h
  · have := h4 ρ a' h1 ⟨w, by rw [Base.same_eq h2 h3]; exact hs.base⟩
    rw [Base.same_eq h2 h3] at this
    exact wpQuiet_mono (fun a'' ⟨σ', h4, h5, h6, h7⟩ w' hw' => h7 ρ a'' w' (h4.sat (hw'.same (h5.trans h2) (h6.trans h3)))) _ _ this
/-- x[:h:h] -/
theorem QR.slc3 {t e : TypeId} {sz n c : Nat} {p : Option Addr} {x y z : Operand} {k1 k2 : IntKind} {h : Int} (hop : o.op = .slice t x none (some y) (some z)) (hx : ev σ x = some (.val (.slice p n c))) (hy : ev σ y = some (.val (.int k1 h))) (hz : ev σ z = some (.val (.int k2 h))) (he : elemSz P t = some (e, sz))
    (h0 : 0 ≤ h) (h1 : h ≤ c) : QR P o σ (.val (slcV sz p h.toNat 0 h.toNat)) := fun ρ a w hs => by
  refine ⟨_, ?_, fun _ _ => rfl⟩
  unfold elemSz at he
  split at he
  · rename_i e' hu
    cases hsz : szOf P e' with
    | none => rw [hsz] at he; cases he
    | some s9 =>
      rw [hsz] at he
      simp only [Option.map_some, Option.some.injEq, Prod.mk.injEq] at he
      obtain ⟨rfl, rfl⟩ := he
      have hse : P.elem t = e' := by unfold Program.elem; rw [hu]
      rw [← hse] at hu
      have hsz' := run_szOf (w := w) hsz
      unfold execOp
      rw [hop]
      simp only [Sem.run_bind, Option.map_none, Option.map_some, hs.ev hx ρ (Agree.refl _ _), hs.ev hy ρ (Agree.refl _ _), hs.ev hz ρ (Agree.refl _ _), den]
      rw [run_sliceAt_slice (h := hu), run_slice_hm (ht := hu) (h0 := h0) (h2 := Int.le_refl _) (h3 := h1), hse, hsz']
      simp [sliced, Result.andThen]
  · cases he
/-- a slice's cells as an array's -/
theorem QR.toArr {t e : TypeId} {sz k n c : Nat} {q : Addr} {x : Operand} (hop : o.op = .sliceToArrayPointer t x) (hx : ev σ x = some (.val (.slice (some q) n c))) (he : arrP P t = some (k, e, sz)) (h1 : k ≤ n) : QR P o σ (.val (.pointer (some q))) := fun ρ a w hs => by
  refine ⟨_, ?_, fun _ _ => rfl⟩
  have h9 : (Instr.arrayAt t (.slice (some q) n c)).run P w = .ok (.pointer (some q)) w := by simp [Instr.arrayAt, run_underlying (arrP_spec he).1, Nat.not_lt.2 h1]
  unfold execOp
  rw [hop]
  simp only [Sem.run_bind, hs.ev hx ρ (Agree.refl _ _), den, h9, Result.andThen_ok, Sem.run_pure]
end
end Go.SX
