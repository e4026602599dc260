/-
  A map of the call's own from [2]int to int.
-/
import Derived.Test.YtnbfdncmlbegmaaSxEq
import Derived.ChangeKeysEq
set_option linter.unusedVariables false
set_option linter.unusedSimpArgs false
namespace Go.SX
open Go Go.RowKit

section
variable {P : Program} {ops : Array Oper} {Q : Exit → St → Prop} {σ : St} {l : List Oper} {o : Oper} {rest : List Oper} {ds : List (Option Nat)}

/-- the type [2]int -/
def pairT (P : Program) (t : TypeId) : Bool :=
  match P.underlying t with
  | some (.array n e) => (n == 2) && isIntT P e && szOf P e == some 1 && aggB P e == some false && P.cellsOf e == 1
  | _ => false
theorem pairT_spec {t : TypeId} (h : pairT P t = true) : ∃ e k, P.underlying t = some (.array 2 e) ∧ P.underlying e = some (.int k) ∧ szOf P e = some 1 ∧ aggB P e = some false ∧ P.cellsOf e = 1 := by
  unfold pairT at h
  split at h
  · rename_i n e hu
    simp only [Bool.and_eq_true, beq_iff_eq] at h
    obtain ⟨⟨⟨⟨rfl, h2⟩, h3⟩, h4⟩, h5⟩ := h
    unfold isIntT at h2
    split at h2
    · rename_i k hk; exact ⟨e, k, hu, hk, h3, h4, h5⟩
    · cases h2
  · cases h
def pr (a b : Int) : Value := .agg #[.int .i64 a, .int .i64 b]

theorem run_equal_pair {t : TypeId} {a b c d : Int} {w : World} (ht : pairT P t = true) : (Op.equal t (pr a b) (pr c d)).run P w = .ok (a == c && b == d) w := by
  obtain ⟨e, k, hu, hk, hz, hag, hce⟩ := pairT_spec ht
  obtain ⟨i, hi, hsz⟩ : ∃ i, P.info? e = some i ∧ i.size = 1 := by
    unfold szOf at hz
    cases hi : P.info? e with
    | none => rw [hi] at hz; cases hz
    | some i => rw [hi] at hz; exact ⟨i, rfl, by simpa using hz⟩
  show (Op.equalIn (9998 + 1 + 1) t _ _).run P w = _
  unfold pr
  rw [run_equalIn_array (hu := hu) (hi := hi), hce]
  have h0 : (part e #[Value.int .i64 a, Value.int .i64 b] 0).run P w = .ok (.int .i64 a) w := by simp [part, run_aggB hag]
  have h1 : (part e #[Value.int .i64 a, Value.int .i64 b] 1).run P w = .ok (.int .i64 b) w := by simp [part, run_aggB hag]
  have h2 : (part e #[Value.int .i64 c, Value.int .i64 d] 0).run P w = .ok (.int .i64 c) w := by simp [part, run_aggB hag]
  have h3 : (part e #[Value.int .i64 c, Value.int .i64 d] 1).run P w = .ok (.int .i64 d) w := by simp [part, run_aggB hag]
  simp only [List.range, List.range.loop, Op.eqItems, Nat.zero_mul, Nat.one_mul, Sem.run_bind, h0, h1, h2, h3, Result.andThen_ok, run_equalIn_int w 9998 e .i64 k _ _ hk]
  cases hac : (a == c)
  · simp
  · simp only [Bool.not_true, Bool.false_eq_true, if_false, Sem.run_bind, h1, h3, Result.andThen_ok, run_equalIn_int w 9998 e .i64 k _ _ hk]
    cases hbd : (b == d) <;> simp

abbrev PM := List ((Int × Int) × Int)
def pmL : Nat → PM → List MapEntry
  | _, [] => []
  | i, ((a, b), v) :: l => ⟨pr a b, .int .i64 v, i⟩ :: pmL (i + 1) l
def pmE (m : PM) : Array MapEntry := (pmL 0 m).toArray
def pmGet : PM → Int × Int → Option Int
  | [], _ => none
  | (k', v) :: l, k => if k = k' then some v else pmGet l k
def pmSet : PM → Int × Int → Int → PM
  | [], k, v => [(k, v)]
  | (k', v') :: l, k, v => if k = k' then (k, v) :: l else (k', v') :: pmSet l k v
theorem pmGet_set (m : PM) (k k' : Int × Int) (v : Int) : pmGet (pmSet m k v) k' = if k' = k then some v else pmGet m k' := by
  induction m with
  | nil => simp [pmSet, pmGet]
  | cons e l ih =>
    obtain ⟨q, u⟩ := e
    simp only [pmSet]
    by_cases h : k = q
    · rw [if_pos h]; subst h
      simp only [pmGet]
      by_cases h2 : k' = k <;> simp [h2]
    · rw [if_neg h]
      simp only [pmGet, ih]
      by_cases h2 : k' = q
      · subst h2
        simp [Ne.symm h]
      · simp [h2]
theorem pmL_length : ∀ (m : PM) (i : Nat), (pmL i m).length = m.length
  | [], _ => rfl
  | ((a, b), v) :: l, i => by simp [pmL, pmL_length l]
theorem pmL_app : ∀ (m : PM) (i : Nat) (a b v : Int), pmL i (m ++ [((a, b), v)]) = pmL i m ++ [⟨pr a b, .int .i64 v, i + m.length⟩]
  | [], i, a, b, v => by simp [pmL]
  | ((c, d), u) :: l, i, a, b, v => by simp [pmL, pmL_app l, Nat.add_assoc, Nat.add_comm 1]

theorem run_findAsking {t : TypeId} {w : World} (ht : pairT P t = true) (a b v : Int) : ∀ (m : PM) (i j : Nat),
    ((Instr.findAsking t (pr a b) (pmL i m) j).run P w = .ok none w ∧ pmGet m (a, b) = none ∧ pmSet m (a, b) v = m ++ [((a, b), v)]) ∨
    ∃ n u, (Instr.findAsking t (pr a b) (pmL i m) j).run P w = .ok (some (j + n, .int .i64 u)) w ∧ pmGet m (a, b) = some u ∧ (pmSet m (a, b) v).length = m.length ∧
      (∃ e, (pmL i m)[n]? = some e ∧ e.key = pr a b) ∧ pmL i (pmSet m (a, b) v) = (pmL i m).modify n fun e => { e with key := pr a b, val := .int .i64 v }
  | [], i, j => .inl ⟨by simp [pmL, Instr.findAsking], rfl, rfl⟩
  | ((c, d), u) :: l, i, j => by
    have he : (Op.equal t (pr a b) (pr c d)).run P w = .ok (a == c && b == d) w := run_equal_pair ht
    by_cases h : (a, b) = (c, d)
    · simp only [Prod.mk.injEq] at h
      obtain ⟨rfl, rfl⟩ := h
      refine .inr ⟨0, u, ?_, by simp [pmGet], by simp [pmSet], ⟨_, rfl, rfl⟩, by simp [pmSet, pmL]⟩
      simp only [pmL, Instr.findAsking, Sem.run_bind, he, Result.andThen_ok]
      simp
    · have hf : (a == c && b == d) = false := by
        cases hx : (a == c && b == d) with
        | false => rfl
        | true => simp only [Bool.and_eq_true, beq_iff_eq] at hx; exact absurd (by rw [hx.1, hx.2]) h
      rw [hf] at he
      have hrun : (Instr.findAsking t (pr a b) (pmL i (((c, d), u) :: l)) j).run P w = (Instr.findAsking t (pr a b) (pmL (i + 1) l) (j + 1)).run P w := by
        simp only [pmL, Instr.findAsking, Sem.run_bind, he, Result.andThen_ok, Bool.false_eq_true, if_false]
      rw [hrun]
      rcases run_findAsking ht a b v l (i + 1) (j + 1) with ⟨h1, h2, h3⟩ | ⟨n, u', h1, h2, h3, ⟨e, h4, h5⟩, h6⟩
      · exact .inl ⟨h1, by simp only [pmGet, if_neg h]; exact h2, by simp only [pmSet, if_neg h, h3]; rfl⟩
      · refine .inr ⟨n + 1, u', by rw [h1]; congr 3; omega, by simp only [pmGet, if_neg h]; exact h2, by simp only [pmSet, if_neg h, List.length_cons, h3], ⟨e, by simpa [pmL] using h4, h5⟩, ?_⟩
        simp only [pmSet, if_neg h, pmL, h6, List.modify_succ_cons]

/-- a map type from [2]int to int -/
def mapPM (P : Program) (t : TypeId) : Option (TypeId × TypeId) :=
  match P.underlying t with
  | some (.map k e) => match (P.info? e).bind (·.zero) with
    | some (.int .i64 0) => if pairT P k = true then some (k, e) else none
    | _ => none
  | _ => none
theorem mapPM_spec {t k e : TypeId} (h : mapPM P t = some (k, e)) : P.underlying t = some (.map k e) ∧ pairT P k = true ∧ ∃ i, P.info? e = some i ∧ i.zero = some (.int .i64 0) := by
  unfold mapPM at h
  split at h
  · rename_i k' e' hu
    split at h
    · rename_i h1
      split at h
      · rename_i h2
        simp only [Option.some.injEq, Prod.mk.injEq] at h
        obtain ⟨rfl, rfl⟩ := h
        cases hi : P.info? e' with
        | none => simp [hi] at h1
        | some i => simp [hi] at h1; exact ⟨hu, h2, i, rfl, h1⟩
      · cases h
    · cases h
  · cases h
theorem run_checkPair {b : Bool} {t : TypeId} {x y : Int} {w : World} (ht : pairT P t = true) : (Instr.checkKey b 10000 t (pr x y)).run P w = .ok () w := by
  obtain ⟨e, k, hu, hk, hz, hag, hce⟩ := pairT_spec ht
  have h0 : (part e #[Value.int .i64 x, Value.int .i64 y] 0).run P w = .ok (.int .i64 x) w := by simp [part, run_aggB hag]
  have h1 : (part e #[Value.int .i64 x, Value.int .i64 y] 1).run P w = .ok (.int .i64 y) w := by simp [part, run_aggB hag]
  have hc : ∀ n v, (Instr.checkKey b (n + 1) e (.int .i64 v)).run P w = .ok () w := fun n v => by simp [Instr.checkKey, run_underlying hk]
  have key : ∀ n, (Instr.checkKey b (n + 1 + 1) t (pr x y)).run P w = .ok () w := fun n => by
    unfold pr
    rw [Instr.checkKey]
    simp only [Sem.run_bind, run_underlying hu, Result.andThen_ok, Std.Legacy.Range.forIn_eq_forIn_range', Std.Legacy.Range.size, Nat.sub_zero, Nat.add_sub_cancel, Nat.div_one, List.range'_succ, List.range'_zero, List.forIn_cons, List.forIn_nil, run_szOf hz, Nat.zero_mul, Nat.zero_add, Nat.mul_one, h0, h1, hc, Sem.run_pure]
  exact key 9998
theorem run_findKeyPM {t : TypeId} {w : World} (ht : pairT P t = true) (a b : Int) (m : PM) : (Instr.findKey t (pr a b) (pmE m).toList).run P w = (Instr.findAsking t (pr a b) (pmL 0 m) 0).run P w := by
  obtain ⟨e, k, hu, hk, hz, hag, hce⟩ := pairT_spec ht
  simp only [Instr.findKey, Sem.run_bind, run_underlying hu, Result.andThen_ok]
  cases m with
  | nil => simp [pmE, pmL, Instr.findNow, Instr.findAsking]
  | cons x l =>
    obtain ⟨⟨c, d⟩, v⟩ := x
    simp [pmE, pmL, Instr.findNow, Instr.sameNow, pr]

/-- v, ok := m[[2]int{a, b}] -/
theorem WO.lookupPM {t kt et : TypeId} {m x : Operand} {r : Nat} {pm : PM} {a b : Int} (hds : dsOk ds ops.toList = true) (hg : gd ds σ o.guard = some true) (hd : dOk σ o.dst = true)
    (hop : o.op = .lookup t m x true) (hmap : ∀ ρ w, Base ρ σ w → w.heap[r]? = some (.map (pmE pm) pm.length)) (hm : ev σ m = some (.val (.map (some r)))) (hx : ∃ s, ev σ x = some s ∧ ∀ ρ, den ρ s = pr a b) (ht : mapPM P t = some (kt, et))
    (h : WO P ops Q rest (σ.put o.dst (.val (.tuple #[.int .i64 ((pmGet pm (a, b)).getD 0), .bool (pmGet pm (a, b)).isSome])))) : WO P ops Q (o :: rest) σ :=
  WO.one hds hg fun ρ ac w hs => by
    have hown := hmap ρ w hs.base
    obtain ⟨hu, hk, i, hi, hz⟩ := mapPM_spec ht
    obtain ⟨s, hsx, hsd⟩ := hx
    refine ⟨ρ, _, .tuple #[.int .i64 ((pmGet pm (a, b)).getD 0), .bool (pmGet pm (a, b)).isSome], w, .inl ?_, hs.put _ _ _ (dOk_lt hd) (fun _ _ => rfl), h⟩
    unfold execOp
    rw [hop]
    simp only [Sem.run_bind, hs.ev hm ρ (Agree.refl _ _), hs.ev hsx ρ (Agree.refl _ _), hsd, den, Instr.lookup, run_underlying hu, Result.andThen_ok]
    have hget : (getObj r).run P w = .ok (.map (pmE pm) pm.length) w := by simp [getObj, Sem.run, hown]
    have hzero : (zeroValue et).run P w = .ok (.int .i64 0) w := by simp [zeroValue, typeInfo, hi, hz]
    simp only [hget, Result.andThen_ok, Sem.run_bind, Sem.run_pure, run_checkPair hk, run_findKeyPM hk]
    rcases run_findAsking (w := w) hk a b 0 pm 0 0 with ⟨h1, h2, _⟩ | ⟨n, u, h1, h2, _⟩
    · simp [h1, h2, hzero]
    · simp [h1, h2]

/-- m[[2]int{a, b}] = v on a map of the call's own -/
theorem WO.updatePM {t kt et : TypeId} {m x y : Operand} {k r : Nat} {pm : PM} {a b v : Int} (hk : nth σ.own k = some (.map r (pmE pm) pm.length)) (hds : dsOk ds ops.toList = true) (hg : gd ds σ o.guard = some true) (hd : dOk σ o.dst = true)
    (hop : o.op = .mapUpdate t m x y) (hm : ev σ m = some (.val (.map (some r)))) (hx : ∃ s, ev σ x = some s ∧ ∀ ρ, den ρ s = pr a b) (hv : ev σ y = some (.val (.int .i64 v))) (ht : mapPM P t = some (kt, et))
    (h : WO P ops Q rest ((setOwn σ k (.map r (pmE (pmSet pm (a, b) v)) (pmSet pm (a, b) v).length)).put o.dst (.val undef))) : WO P ops Q (o :: rest) σ :=
  WO.one hds hg fun ρ ac w hs => by
    rw [nth_eq] at hk
    have hown := hs.base.own k _ hk ρ (Agree.refl _ _)
    simp only [Own.holds] at hown
    obtain ⟨hu, hkt, i, hi, hz⟩ := mapPM_spec ht
    obtain ⟨s, hsx, hsd⟩ := hx
    have hlt : r < w.heap.size := (Array.getElem?_eq_some_iff.1 hown).1
    have hget : (getObj r).run P w = .ok (.map (pmE pm) pm.length) w := by simp [getObj, Sem.run, hown]
    have hgr : w.grownBy { w with heap := w.heap.setIfInBounds r (.map (pmE (pmSet pm (a, b) v)) (pmSet pm (a, b) v).length) } (some r) :=
      ⟨rfl, rfl, rfl, by simp, fun j hj hne => by simp [Array.getElem?_setIfInBounds, show r ≠ j from fun e => hne (by rw [e])]⟩
    have hset : (setObj r (.map (pmE (pmSet pm (a, b) v)) (pmSet pm (a, b) v).length)).run P w = .ok () { w with heap := w.heap.setIfInBounds r (.map (pmE (pmSet pm (a, b) v)) (pmSet pm (a, b) v).length) } := by simp [setObj, Sem.run, hown]
    refine ⟨ρ, _, undef, _, .inr ⟨?_, rfl⟩, Sat.put (hs.turn (o' := .map r (pmE (pmSet pm (a, b) v)) (pmSet pm (a, b) v).length) hk (fun _ _ h => by cases h) hgr ?_ (fun b hb => .inl hb)) _ _ _ ?_ (fun _ _ => rfl), h⟩
    · unfold execOp
      rw [hop]
      simp only [Sem.run_bind, hs.ev hm ρ (Agree.refl _ _), hs.ev hsx ρ (Agree.refl _ _), hsd, hs.ev hv ρ (Agree.refl _ _), den, Instr.mapUpdate, run_underlying hu, Result.andThen_ok]
      simp only [hget, Result.andThen_ok, Sem.run_bind, run_checkPair hkt, run_findKeyPM hkt]
      rcases run_findAsking (w := w) hkt a b v pm 0 0 with ⟨h1, h2, h3⟩ | ⟨n, u, h1, h2, h3, ⟨e, h4, h5⟩, h6⟩
      · have hpush : (pmE pm).push { key := pr a b, val := Value.int IntKind.i64 v, born := pm.length } = pmE (pmSet pm (a, b) v) := by
          apply Array.toList_inj.1
          simp [pmE, h3, pmL_app]
        have hl : pm.length + 1 = (pmSet pm (a, b) v).length := by rw [h3]; simp
        rw [h1]
        simp only [Result.andThen_ok, hpush, hl, hset, Sem.run_pure]
      · have hsame : Instr.sameBits 10000 (pr a b) (pr a b) = true := by simp [pr, Instr.sameBits]
        have hkey : (Instr.keyThatStays (pr a b) (pr a b)).run P w = .ok (pr a b) w := by simp [Instr.keyThatStays, hsame]
        have hes : (pmE pm)[n]? = some e := by simpa [pmE] using h4
        have hmod : (pmE pm).modify n (fun e => { e with key := pr a b, val := Value.int IntKind.i64 v }) = pmE (pmSet pm (a, b) v) := by
          apply Array.toList_inj.1
          simp [pmE, h6]
        rw [h1]
        simp only [Result.andThen_ok, Nat.zero_add, hes, Option.map_some, Option.getD_some, h5, Sem.run_bind, hkey, hmod]
        rw [← h3]
        simp only [hset, Result.andThen_ok, Sem.run_pure]
    · simp [Own.holds, hlt]
    · intro j hj; exact dOk_lt (σ := setOwn σ k _) (by rw [dOk_setOwn]; exact hd) j hj

/-- A call that hands over a block of its own making. -/
theorem WO.callO {f : FuncId} {ss : List SV} {X : Type} (val : X → Value) (ow : X → Own) (hds : dsOk ds ops.toList = true) (hg : gd ds σ o.guard = some true) (hd : dOk σ o.dst = true)
    (hc : callS σ o.op = some (f, ss)) (hf : callOk P f = true) (hnc : ∀ x T cs, ow x ≠ .cells T cs)
    (h : ∀ ρ w, Base ρ σ w → Gives P f (denL ρ ss).toArray w fun v w' => ∃ x, v = val x ∧ (∀ ρ' k, (ow x).holds ρ' k w') ∧ ∀ ρ' k b, (ow x).num ρ' k = some b → w.heap.size ≤ b)
    (k : ∀ x, WO P ops Q rest ((σ.pushO (ow x)).put o.dst (.val (val x)))) : WO P ops Q (o :: rest) σ := fun ρ a w hs => by
  simp only [wpList, gd_sound hs hds hg, if_true]
  refine .inl ?_
  unfold Oper.wp
  rw [callS_run hs hf hc, Oper.upon_enter]
  refine Calls.mono (h ρ w hs.base) fun e w' ⟨v, he, hb, x, hv, hh, hn⟩ => ?_
  subst he
  subst hv
  exact k x ρ _ w' ((hs.pushO hb (ow x) (hnc x) (hh _ _) (fun b hb' => hn _ _ b hb')).put _ _ _ (fun j hj => dOk_lt (σ := σ.pushO _) (by rw [dOk_pushO]; exact hd) j hj) fun _ _ => rfl)

/-- The same for one block of another kind that came in (a map). -/
theorem giveO_of {f : FuncId} {fn : Func} {c : Code} {args : Array Value} {w : World} {Q : Value → World → Prop} (o1 : Own) (r : Nat) (svs : List SV) (n : Nat) (rs : List ResultVar)
    (hf : P.funcs[f]? = some fn) (hb : fn.body = some c) (hn : fn.ntmps = n) (hr : fn.results = rs.toArray) (hl : svs.length ≤ n) (ha : args = (denL (fun _ => 0) svs).toArray) (hbn : bndL 0 svs = true)
    (hho : ∀ ρ k, o1.holds ρ k w) (hnu : ∀ ρ k, o1.num ρ k = some r)
    (h : W P c (EndsB P (fun b => b = r) w rs Q) ⟨n, initE 0 svs, [o1], [((fun b => ¬ b = r), w)], []⟩) : GivesB P f args w (fun b => b = r) Q := by
  refine calls_of_wp hf hb ?_
  subst ha
  have hget : ∀ (k : Nat) (o : Own), [o1][k]? = some o → k = 0 ∧ o = o1 := fun k o hk => by
    cases k with
    | zero => simp only [List.getElem?_cons_zero, Option.some.injEq] at hk; exact ⟨rfl, hk.symm⟩
    | succ k => simp at hk
  refine wp_mono (wp_of (h (fun _ => 0) _ w ?_)) ?_
  · have hsz : (denL (fun _ => 0) svs).toArray.size = svs.length := by simp
    refine ⟨by simp [hn]; omega, rfl, fun i s hi => ?_, ⟨fun k o hk ρ' _ => ?_, fun i j oi oj b h1 h2 h3 h4 => ?_, fun p hp => ?_⟩⟩
    · obtain ⟨k, rfl, hk⟩ := initE_get svs 0 i s hi
      have hkl : k < svs.length := (List.getElem?_eq_some_iff.1 hk).1
      simp only [Nat.zero_add]
      refine ⟨by show k < n; omega, fun ρ' hρ => ?_⟩
      have : denL ρ' svs = denL (fun _ => 0) svs := denL_agree (m := 0) (fun i hi => by omega) svs hbn
      have hk2 : (denL (fun _ => 0) svs)[k]? = some (den ρ' s) := by rw [← this, denL_eq]; simp [hk]
      rw [Array.getElem?_append_left (by simp; exact hkl)]
      simpa using hk2
    · obtain ⟨rfl, rfl⟩ := hget k o hk
      exact hho _ _
    · rw [(hget i oi h1).1, (hget j oj h2).1]
    · simp only [List.mem_singleton] at hp
      subst hp
      refine ⟨Keep.refl _ _, fun k o b hk hnum hS => ?_⟩
      obtain ⟨rfl, rfl⟩ := hget k o hk
      rw [hnu] at hnum
      exact absurd (Option.some.inj hnum).symm hS
  · rintro e a' w' ⟨ρ, σ, hs, hq⟩
    have fin : FinB P (fun b => b = r) w rs Q σ → (a'.defers = [] ∧ ∃ v, (results fn a'.tmps).run P w' = .ok v w' ∧ ∃ v', Ending.returned v = .returned v' ∧ Keep (fun b => ¬ b = r) w w' ∧ Q v' w') := by
      rintro ⟨⟨hm, hdf⟩, hs0⟩
      cases hs1 : resSV P σ rs with
      | none => rw [hs1] at hs0; exact hs0.elim
      | some s =>
        rw [hs1] at hs0
        refine ⟨by rw [hs.defers, hdf]; rfl, den ρ s, ?_, den ρ s, rfl, (hs.base.keep _ hm).1, hs0 ρ w' hs.base⟩
        unfold resSV at hs1
        cases hra : resAll P σ rs with
        | none => rw [hra] at hs1; cases hs1
        | some ss =>
          have hrun := run_results hs rs ss hra
          rw [results_eq, hr]
          simp only [Sem.run_bind, List.mapM_toArray, Sem.run_map, hrun, Result.andThen_ok, Sem.run_pure]
          rw [hra] at hs1
          match ss, hs1 with
          | [], h1 => simp only [Option.some.injEq] at h1; subst h1; simp [denL, den]
          | [x], h1 => simp only [Option.some.injEq] at h1; subst h1; simp [denL]
          | x :: y :: l, h1 => simp only [Option.some.injEq] at h1; subst h1; simp [denL, den]
    cases e with
    | normal => exact fin hq
    | ret => exact fin hq
    | _ => exact hq.elim

end
end Go.SX
