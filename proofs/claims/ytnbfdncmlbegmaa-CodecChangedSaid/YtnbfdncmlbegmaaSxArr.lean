/-
  Arrays of the call's own by an index, rows of the call's own at a place, blocks of the call's own that get a number.
-/
import Derived.Test.YtnbfdncmlbegmaaSxSet
set_option linter.unusedVariables false
namespace Go.SX
open Go Go.RowKit

section
variable {P : Program} {ops : Array Oper} {Q : Exit → St → Prop} {σ : St} {l : List Oper} {o o1 o2 : Oper} {rest : List Oper} {ds : List (Option Nat)} {K : St → Prop}

/-- The operation yields s, and turns nothing. -/
def QR (P : Program) (o : Oper) (σ : St) (s : SV) : Prop := ∀ ρ a w, Sat ρ σ a w → ∃ v, (execOp a.eval o).run P w = .ok (.value v) w ∧ ∀ ρ', Agree σ.own.length ρ ρ' → v = den ρ' s
theorem WO.q {s : SV} (hds : dsOk ds ops.toList = true) (hg : gd ds σ o.guard = some true) (hd : dOk σ o.dst = true) (h : QR P o σ s) (k : WO P ops Q rest (σ.put o.dst s)) : WO P ops Q (o :: rest) σ :=
  WO.one hds hg fun ρ a w hs => by
    obtain ⟨v, h1, h2⟩ := h ρ a w hs
    exact ⟨ρ, _, v, w, .inl h1, hs.put _ _ _ (dOk_lt hd) h2, k⟩
theorem WQ.q {s : SV} (hds : dsOk ds ops.toList = true) (hg : gd ds σ o.guard = some true) (hd : dOk σ o.dst = true) (h : QR P o σ s) (k : WQ P ops K rest (σ.put o.dst s)) : WQ P ops K (o :: rest) σ :=
  WQ.one hds hg hd s h k
theorem WS.q {N : Nat} {tg : List (Option Nat)} {pad : List Own} {pls ps : List Pl} {p : Pl} {vs : List SV} {es : List (Option Own)} {s : SV} (hg : gd ds (stAt σ ds tg pad vs es p) o.guard = some true) (ht : p.tgt = none)
    (h : QR P o (stAt σ ds tg pad vs es p) s) (k : WS P ds tg σ pad Q N pls l ps (vs ++ [s]) (es ++ [none])) : WS P ds tg σ pad Q N pls (o :: l) (p :: ps) vs es :=
  WS.quiet s hg ht (fun ρ a w hs => by
    obtain ⟨v, h1, h2⟩ := h ρ a w hs
    exact .inl (by rw [h1, h2 ρ (Agree.refl _ _)])) k

/-- x[i]'s place, x an array of the call's own. -/
theorem QR.arr {t e : TypeId} {x ix : Operand} {k off n sz : Nat} {kk : IntKind} {i : Int} (hop : o.op = .indexAddr t x ix) (hx : ev σ x = some (.loc k off)) (hi : ev σ ix = some (.val (.int kk i))) (he : arrP P t = some (n, e, sz))
    (h0 : 0 ≤ i) (h1 : i < n) : QR P o σ (.loc k (off + i.toNat * sz)) := fun ρ a w hs => by
  refine ⟨.pointer (some ((⟨ρ k, off, none⟩ : Addr).add (i.toNat * sz))), ?_, fun ρ' hρ => ?_⟩
  · unfold execOp
    rw [hop]
    simp only [Sem.run_bind, hs.ev hx ρ (Agree.refl _ _), hs.ev hi ρ (Agree.refl _ _), den, run_indexArr he h0 h1, Result.andThen_ok, Sem.run_pure]
  · have := hs.ev hx ρ' hρ
    rw [hs.ev hx ρ (Agree.refl _ _)] at this
    simp only [den, Value.pointer.injEq, Option.some.injEq, Addr.mk.injEq] at this
    simp [den, Addr.add_mid, this.1]
/-- .. an array elsewhere -/
theorem QR.arrV {t e : TypeId} {x ix : Operand} {q : Addr} {n sz : Nat} {kk : IntKind} {i : Int} (hop : o.op = .indexAddr t x ix) (hx : ev σ x = some (.val (.pointer (some q)))) (hi : ev σ ix = some (.val (.int kk i))) (he : arrP P t = some (n, e, sz))
    (h0 : 0 ≤ i) (h1 : i < n) : QR P o σ (.val (.pointer (some (q.add (i.toNat * sz))))) := fun ρ a w hs => by
  refine ⟨_, ?_, fun _ _ => rfl⟩
  unfold execOp
  rw [hop]
  simp only [Sem.run_bind, hs.ev hx ρ (Agree.refl _ _), hs.ev hi ρ (Agree.refl _ _), den, run_indexArr he h0 h1, Result.andThen_ok, Sem.run_pure]
/-- x[i]'s place, x a row -/
theorem QR.idx {t e : TypeId} {x ix : Operand} {q : Addr} {n c sz : Nat} {kk : IntKind} {i : Int} (hop : o.op = .indexAddr t x ix) (hx : ev σ x = some (.val (.slice (some q) n c))) (hi : ev σ ix = some (.val (.int kk i))) (he : elemSz P t = some (e, sz))
    (h0 : 0 ≤ i) (h1 : i < n) : QR P o σ (.val (.pointer (some (q.add (i.toNat * sz))))) := fun ρ a w hs => by
  refine ⟨_, ?_, fun _ _ => rfl⟩
  unfold execOp
  rw [hop]
  simp only [Sem.run_bind, hs.ev hx ρ (Agree.refl _ _), hs.ev hi ρ (Agree.refl _ _), den, run_indexAt he h0 h1, Result.andThen_ok, Sem.run_pure]
/-- x[:], x an array of the call's own -/
theorem QR.arrSlice {t e : TypeId} {x : Operand} {k off n sz : Nat} (hop : o.op = .slice t x none none none) (hx : ev σ x = some (.loc k off)) (he : arrP P t = some (n, e, sz)) : QR P o σ (.lsl k off n n) := fun ρ a w hs => by
  refine ⟨.slice (some ⟨ρ k, off, none⟩) n n, ?_, fun ρ' hρ => ?_⟩
  · unfold execOp
    rw [hop]
    simp only [Sem.run_bind, Option.map_none, hs.ev hx ρ (Agree.refl _ _), den, run_sliceArr he, Result.andThen_ok, Sem.run_pure]
    simp [Addr.add_mid]
  · have := hs.ev hx ρ' hρ
    rw [hs.ev hx ρ (Agree.refl _ _)] at this
    simp only [den, Value.pointer.injEq, Option.some.injEq, Addr.mk.injEq] at this
    simp [den, this.1]
/-- .. an array elsewhere -/
theorem QR.arrSliceV {t e : TypeId} {x : Operand} {q : Addr} {n sz : Nat} (hop : o.op = .slice t x none none none) (hx : ev σ x = some (.val (.pointer (some q)))) (he : arrP P t = some (n, e, sz)) : QR P o σ (.val (.slice (some (q.add 0)) n n)) := fun ρ a w hs => by
  refine ⟨_, ?_, fun _ _ => rfl⟩
  unfold execOp
  rw [hop]
  simp only [Sem.run_bind, Option.map_none, hs.ev hx ρ (Agree.refl _ _), den, run_sliceArr he, Result.andThen_ok, Sem.run_pure]
  have : q.add 0 = q := by simp [Addr.add]
  split <;> simp [this]
/-- one cell of the call's own, at any place -/
theorem QR.cell {t T : TypeId} {x : Operand} {k off : Nat} {cs : List SV} {s : SV} (hop : o.op = .load t x) (hx : ev σ x = some (.loc k off)) (hk : nth σ.own k = some (.cells T cs)) (hs1 : nth cs off = some s) (ha : aggB P t = some false) (hn : szOf P t = some 1) : QR P o σ s := fun ρ a w hs => by
  have hl : loadS P σ t (.loc k off) = some s := by simp [loadS, hk, ha, hn, partS, hs1]
  refine ⟨den ρ s, ?_, fun ρ' hρ => ?_⟩
  · unfold execOp
    rw [hop]
    simp only [Sem.run_bind, hs.ev hx ρ (Agree.refl _ _), loadS_run hs.base hl ρ (Agree.refl _ _), Result.andThen_ok, Sem.run_pure]
  · have h1 := loadS_run hs.base hl ρ (Agree.refl _ _)
    have h2 := loadS_run hs.base hl ρ' hρ
    have h3 := hs.ev hx ρ' hρ
    rw [hs.ev hx ρ (Agree.refl _ _)] at h3
    rw [← h3, h1] at h2
    simpa using h2
/-- what lies at a place -/
theorem QR.load {t : TypeId} {x : Operand} {q : Addr} (cs : List Value) (agg : Bool) (hop : o.op = .load t x) (hx : ev σ x = some (.val (.pointer (some q)))) (ha : aggB P t = some agg) (hn : szOf P t = some cs.length) (h1 : agg = true ∨ cs.length = 1)
    (hat : ∀ ρ w, Base ρ σ w → At w q cs) : QR P o σ (.val (ofCells agg cs)) := fun ρ a w hs => by
  refine ⟨_, ?_, fun _ _ => rfl⟩
  unfold execOp
  rw [hop]
  simp only [Sem.run_bind, hs.ev hx ρ (Agree.refl _ _), den, Instr.loadAt, Instr.sureAddr, Sem.run_pure, Result.andThen_ok]
  rw [(hat ρ w hs.base).load ha hn (fun hf => by rcases h1 with h1 | h1; rw [hf] at h1; cases h1; exact h1)]
  rfl
/-- a row of the call's own, from a cell on -/
theorem row_at {ρ : Nat → Nat} {w : World} {k b n c sz off m : Nat} {T : TypeId} {xs ys : List Value} (hb : Base ρ σ w) (hk : nth σ.own k = some (.slice T sz (.slice (some ⟨b, 0, none⟩) n c) n xs)) (h : (xs.drop off).take m = ys) : At w ⟨b, off, none⟩ ys := by
  have := (own_at hb hk).part off m
  rw [h, Addr.add_mid] at this
  simpa using this
/-- x[i], x an array of the call's own: the i-th cell is written -/
theorem WO.storeNth {t T : TypeId} {x y : Operand} {k off : Nat} {cs : List SV} {u : SV} (hk : nth σ.own k = some (.cells T cs)) (hds : dsOk ds ops.toList = true) (hg : gd ds σ o.guard = some true) (hd : dOk σ o.dst = true)
    (hop : o.op = .store t x y) (hx : ev σ x = some (.loc k off)) (hy : ev σ y = some u) (hsz : szOf P t = some (cellsS u).length) (hoff : off + (cellsS u).length ≤ cs.length) (h1 : (cellsS u).all oneS = true)
    (h : WO P ops Q rest ((setOwn σ k (.cells T (splice cs off (cellsS u)))).put o.dst (.val undef))) : WO P ops Q (o :: rest) σ :=
  WO.one hds hg fun ρ a w hs => by
    have hst : step P σ o.dst o.op = some ((setOwn σ k (.cells T (splice cs off (cellsS u)))).put o.dst (.val undef)) := by
      rw [hop]; simp only [step, hd, hx, hy, storeS, hk, hsz]
      simp only [if_true, if_pos hoff, if_pos h1, Option.map_some]
    obtain ⟨ρ', v, w', h2, h3⟩ := step_sound hs hst
    exact ⟨ρ', _, v, w', h2, h3, h⟩

/-- an array of so many numbers of a kind -/
def intsA (P : Program) (t : TypeId) : Option (Nat × IntKind) :=
  match P.underlying t with
  | some (.array n e) => match P.underlying e with
    | some (.int k) => if szOf P e == some 1 && aggB P e == some false && P.cellsOf e == 1 && P.eqGuardType P.depth t == false then some (n, k) else none
    | _ => none
  | _ => none
theorem intsA_spec {t n : Nat} {k : IntKind} (h : intsA P t = some (n, k)) : ∃ e, P.underlying t = some (.array n e) ∧ P.underlying e = some (.int k) ∧ szOf P e = some 1 ∧ aggB P e = some false ∧ P.cellsOf e = 1 ∧ P.eqGuardType P.depth t = false := by
  unfold intsA at h
  split at h
  · rename_i n' e hu
    split at h
    · rename_i k' hk
      split at h
      · rename_i hc
        simp only [Bool.and_eq_true, beq_iff_eq] at hc
        simp only [Option.some.injEq, Prod.mk.injEq] at h
        obtain ⟨rfl, rfl⟩ := h
        exact ⟨e, hu, hk, hc.1.1.1, hc.1.1.2, hc.1.2, hc.2⟩
      · cases h
    · cases h
  · cases h
theorem run_eqItems_ints {e : TypeId} {k : IntKind} {d : Nat} {as bs : List Int} {w : World} (hk : P.underlying e = some (.int k)) (hag : aggB P e = some false) : ∀ (is : List Nat), (∀ i, i ∈ is → i < as.length ∧ i < bs.length) →
    (Op.eqItems (d + 1) e 1 (as.map (Value.int k)).toArray (bs.map (Value.int k)).toArray is).run P w = .ok (is.all fun i => as[i]? == bs[i]?) w
  | [], _ => by simp [Op.eqItems]
  | i :: is, h => by
    obtain ⟨h1, h2⟩ := h i (by simp)
    have ih := run_eqItems_ints (d := d) (w := w) hk hag is fun j hj => h j (by simp [hj])
    have p1 : (part e (as.map (Value.int k)).toArray (i * 1)).run P w = .ok (.int k as[i]) w := by simp [part, run_aggB hag, h1]
    have p2 : (part e (bs.map (Value.int k)).toArray (i * 1)).run P w = .ok (.int k bs[i]) w := by simp [part, run_aggB hag, h2]
    simp only [Op.eqItems, Sem.run_bind, p1, p2, Result.andThen_ok, run_equalIn_int w d e k k _ _ hk, List.all_cons, List.getElem?_eq_getElem h1, List.getElem?_eq_getElem h2]
    cases hab : (as[i] == bs[i])
    · have : (some as[i] == some bs[i]) = false := by simpa using hab
      simp [this]
    · have : (some as[i] == some bs[i]) = true := by simpa using hab
      simp only [Bool.not_true, Bool.false_eq_true, if_false, ih, this, Bool.true_and]
theorem run_equal_arr {t n : Nat} {k : IntKind} {as bs : List Int} {w : World} (ht : intsA P t = some (n, k)) (ha : as.length = n) (hb : bs.length = n) :
    (Op.equalIn 10000 t (.agg (as.map (Value.int k)).toArray) (.agg (bs.map (Value.int k)).toArray)).run P w = .ok (as == bs) w := by
  obtain ⟨e, hu, hk, hz, hag, hce, _⟩ := intsA_spec ht
  obtain ⟨i, hi, hsz⟩ : ∃ i, P.info? e = some i ∧ i.size = 1 := by
    unfold szOf at hz
    cases hi : P.info? e with
    | none => rw [hi] at hz; cases hz
    | some i => rw [hi] at hz; exact ⟨i, rfl, by simpa using hz⟩
  show (Op.equalIn (9998 + 1 + 1) t _ _).run P w = _
  rw [run_equalIn_array (hu := hu) (hi := hi), hce, run_eqItems_ints hk hag _ fun i hi => by rw [List.mem_range] at hi; omega]
  congr 1
  rw [Bool.eq_iff_iff, List.all_eq_true, beq_iff_eq]
  constructor
  · intro h
    refine List.ext_getElem? fun j => ?_
    rcases Nat.lt_or_ge j n with hj | hj
    · simpa using h j (List.mem_range.2 hj)
    · rw [List.getElem?_eq_none (by omega), List.getElem?_eq_none (by omega)]
  · rintro rfl j _
    simp
/-- arrays of numbers compared -/
theorem QR.arrCmp {op : BinOp} {t ty : TypeId} {x y : Operand} {n : Nat} {k : IntKind} {r : Bool} (as bs : List Int) (hop : o.op = .binOp op t x y ty) (hx : ∃ s, ev σ x = some s ∧ ∀ ρ, den ρ s = .agg (as.map (Value.int k)).toArray) (hy : ∃ s, ev σ y = some s ∧ ∀ ρ, den ρ s = .agg (bs.map (Value.int k)).toArray)
    (ht : intsA P t = some (n, k)) (ha : as.length = n) (hb : bs.length = n) (hr : eqRes op (as == bs) = some r) : QR P o σ (.val (.bool r)) := fun ρ a w hs => by
  obtain ⟨s1, e1, d1⟩ := hx
  obtain ⟨s2, e2, d2⟩ := hy
  refine ⟨_, ?_, fun _ _ => rfl⟩
  obtain ⟨_, _, _, _, _, _, hgd⟩ := intsA_spec ht
  unfold execOp
  rw [hop]
  simp only [hs.ev e1 ρ (Agree.refl _ _), hs.ev e2 ρ (Agree.refl _ _), d1, d2]
  simp only [Sem.run_bind, run_eqGuard_agg hgd, Result.andThen_ok]
  unfold eqRes at hr
  split at hr
  · simp only [Option.some.injEq] at hr; subst hr
    rw [run_eql_struct, run_equal_arr ht ha hb]; rfl
  · simp only [Option.some.injEq] at hr; subst hr
    rw [run_neq_struct, run_equal_arr ht ha hb]; rfl
  · cases hr

theorem WO.ownIs (own' : List Own) (h : σ.own = own') (k : WO P ops Q l ⟨σ.n, σ.env, own', σ.snaps, σ.dfs⟩) : WO P ops Q l σ := by subst h; exact k

/-! ### A block gets its number -/
def pin1 (k b : Nat) : SV → SV
  | .loc j off => if j = k then .val (.pointer (some ⟨b, off, none⟩)) else .loc j off
  | .lsl j off n c => if j = k then .val (.slice (some ⟨b, off, none⟩) n c) else .lsl j off n c
  | s => s
def pinS (k b : Nat) : SV → SV
  | .fn f fi ca => .fn f (fi.map (pin1 k b)) (ca.map (pin1 k b))
  | s => pin1 k b s
def pinE (k b : Nat) : List (Nat × SV) → List (Nat × SV)
  | [] => []
  | (i, s) :: l => (i, pinS k b s) :: pinE k b l
theorem den_pin1 {ρ : Nat → Nat} {k b : Nat} (h : ρ k = b) (s : SV) : den ρ (pin1 k b s) = den ρ s := by
  cases s with
  | loc j off => simp only [pin1]; split
                 · rename_i he; subst he; simp [den, h]
                 · rfl
  | lsl j off n c => simp only [pin1]; split
                     · rename_i he; subst he; simp [den, h]
                     · rfl
  | _ => rfl
theorem den_pinS {ρ : Nat → Nat} {k b : Nat} (h : ρ k = b) (s : SV) : den ρ (pinS k b s) = den ρ s := by
  cases s with
  | fn f fi ca =>
    simp only [pinS, den, denL_eq, List.map_map]
    have : (den ρ ∘ pin1 k b) = den ρ := by funext s; exact den_pin1 h s
    rw [this]
  | val x => exact den_pin1 h (.val x)
  | loc j off => exact den_pin1 h (.loc j off)
  | lsl j off n c => exact den_pin1 h (.lsl j off n c)
  | agg x => exact den_pin1 h (.agg x)
  | tup x => exact den_pin1 h (.tup x)
theorem pinE_get {k b : Nat} : ∀ (l : List (Nat × SV)) (i : Nat) (s : SV), getE (pinE k b l) i = some s → ∃ s', getE l i = some s' ∧ s = pinS k b s'
  | [], i, s, h => by cases h
  | (j, x) :: l, i, s, h => by
    simp only [pinE, getE] at h ⊢
    split at h
    · rename_i he; rw [if_pos he]; exact ⟨x, rfl, (Option.some.inj h).symm⟩
    · rename_i he; rw [if_neg he]; exact pinE_get l i s h
theorem W.pin {rO : Option Nat} {c : Code} {k : Nat} {T : TypeId} {cs : List SV} (vs : List Value) (hk : nth σ.own k = some (.cells T cs)) (hvs : ∀ ρ, denL ρ cs = vs) (hl : vs.length ≤ maxLen)
    (h : ∀ b, WR rO P c Q ⟨σ.n, pinE k b σ.env, setN σ.own k (boxO T b vs), σ.snaps, σ.dfs⟩) : WR rO P c Q σ := fun ρ a w hs => by
  refine h (ρ k) ρ a w ?_
  rw [nth_eq] at hk
  have hkl : k < σ.own.length := (List.getElem?_eq_some_iff.1 hk).1
  have hh := hs.base.own k _ hk ρ (Agree.refl _ _)
  simp only [Own.holds, hvs] at hh
  have hget : ∀ (j : Nat) (o : Own), (setN σ.own k (boxO T (ρ k) vs))[j]? = some o → (j = k ∧ o = boxO T (ρ k) vs) ∨ (j ≠ k ∧ σ.own[j]? = some o) := fun j o hj => by
    rw [setN_eq] at hj
    by_cases he : j = k
    · subst he; rw [List.getElem?_set_self hkl] at hj; exact .inl ⟨rfl, (Option.some.inj hj).symm⟩
    · rw [List.getElem?_set_ne (Ne.symm he)] at hj; exact .inr ⟨he, hj⟩
  have hnum : ∀ (j : Nat) (o : Own) (b : Nat), (setN σ.own k (boxO T (ρ k) vs))[j]? = some o → o.num ρ j = some b → ∃ o', σ.own[j]? = some o' ∧ o'.num ρ j = some b := fun j o b hj hn => by
    rcases hget j o hj with ⟨rfl, rfl⟩ | ⟨_, h1⟩
    · exact ⟨_, hk, hn⟩
    · exact ⟨o, h1, hn⟩
  refine ⟨hs.size, hs.defers, fun i s hi => ?_, ⟨fun j o hj ρ' hρ => ?_, fun i j oi oj b hi hj hni hnj => ?_, fun p hp => ⟨(hs.base.keep p hp).1, fun j o b hj hn hS => ?_⟩⟩⟩
  · obtain ⟨s', h1, rfl⟩ := pinE_get _ _ _ hi
    refine ⟨(hs.env i s' h1).1, fun ρ' hρ => ?_⟩
    have hρ2 : Agree σ.own.length ρ ρ' := by simpa [setN_eq] using hρ
    rw [den_pinS (hρ2 k hkl)]
    exact (hs.env i s' h1).2 ρ' hρ2
  · have hρ2 : Agree σ.own.length ρ ρ' := by simpa [setN_eq] using hρ
    rcases hget j o hj with ⟨rfl, rfl⟩ | ⟨_, h1⟩
    · exact boxO_holds hl hh
    · exact hs.base.own j o h1 ρ' hρ2
  · obtain ⟨o1, g1, g2⟩ := hnum i oi b hi hni
    obtain ⟨o2, g3, g4⟩ := hnum j oj b hj hnj
    exact hs.base.apart i j o1 o2 b g1 g3 g2 g4
  · obtain ⟨o1, g1, g2⟩ := hnum j o b hj hn
    exact (hs.base.keep p hp).2 j o1 b g1 g2 hS
theorem sxp : (∀ k b, pinE k b [] = []) ∧ (∀ k b i s l, pinE k b ((i, s) :: l) = (i, pinS k b s) :: pinE k b l) ∧ (∀ k b f fi ca, pinS k b (.fn f fi ca) = .fn f (fi.map (pin1 k b)) (ca.map (pin1 k b))) ∧ (∀ k b x, pinS k b (.val x) = .val x) ∧ (∀ k b x, pinS k b (.agg x) = .agg x) ∧ (∀ k b x, pinS k b (.tup x) = .tup x) ∧
    (∀ k b j off, pinS k b (.loc j off) = if j = k then .val (.pointer (some ⟨b, off, none⟩)) else .loc j off) ∧ (∀ k b j off n c, pinS k b (.lsl j off n c) = if j = k then .val (.slice (some ⟨b, off, none⟩) n c) else .lsl j off n c) ∧
    (∀ k b x, pin1 k b (.val x) = .val x) ∧ (∀ k b j off, pin1 k b (.loc j off) = if j = k then .val (.pointer (some ⟨b, off, none⟩)) else .loc j off) :=
  ⟨fun _ _ => rfl, fun _ _ _ _ _ => rfl, fun _ _ _ _ _ => rfl, fun _ _ _ => rfl, fun _ _ _ => rfl, fun _ _ _ => rfl, fun _ _ _ _ => rfl, fun _ _ _ _ _ _ => rfl, fun _ _ _ => rfl, fun _ _ _ _ => rfl⟩
end
end Go.SX
