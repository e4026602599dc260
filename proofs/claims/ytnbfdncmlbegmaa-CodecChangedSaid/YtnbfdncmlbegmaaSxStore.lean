/-
  Stores of several cells into a slice of the call's own; maps of the call's own that a call turns.
-/
import Derived.Test.YtnbfdncmlbegmaaSxPair
import Derived.Laws.Small
import Derived.Laws.Cover1
set_option linter.unusedVariables false
set_option linter.unusedSimpArgs false
namespace Go.SX
open Go Go.RowKit

section
variable {P : Program} {ops : Array Oper} {Q : Exit → St → Prop} {σ : St} {l : List Oper} {o : Oper} {rest : List Oper} {ds : List (Option Nat)}

/-- a store into a slice of the call's own, at its off-th cell -/
theorem WO.storeRow {t : TypeId} {x y : Operand} {T : TypeId} {k b n c sz : Nat} {xs : List Value} {q : Addr} {u : Value} (off : Nat) (vs : List Value) (hk : nth σ.own k = some (.slice T sz (.slice (some ⟨b, 0, none⟩) n c) n xs)) (hds : dsOk ds ops.toList = true) (hg : gd ds σ o.guard = some true) (hd : dOk σ o.dst = true)
    (hop : o.op = .store t x y) (hx : ev σ x = some (.val (.pointer (some q)))) (hq : q = (⟨b, off, none⟩ : Addr)) (hi : off + vs.length ≤ xs.length) (hpos : 0 < vs.length)
    (hy : ∃ s, ev σ y = some s ∧ ∀ ρ, den ρ s = u) (hu : u.cells = vs.toArray) (h1 : ∀ v, v ∈ vs → v.oneCell' = true) (hsz : szOf P t = some vs.length)
    (h : WO P ops Q rest ((setOwn σ k (.slice T sz (.slice (some ⟨b, 0, none⟩) n c) n (xs.take off ++ (vs ++ xs.drop (off + vs.length))))).put o.dst (.val undef))) : WO P ops Q (o :: rest) σ :=
  WO.one hds hg fun ρ a w hs => by
    rw [nth_eq] at hk
    obtain ⟨s, hsy, hsd⟩ := hy
    have hown := hs.base.own k _ hk ρ (Agree.refl _ _)
    simp only [Own.holds] at hown
    obtain ⟨hxl, hown⟩ := hown
    rcases hown with ⟨hv, hn0⟩ | ⟨g, cap, cur, hv, hbg, hcell, hnc, hcm, hcs, htake⟩
    · cases hv
    · simp only [Value.slice.injEq, Option.some.injEq, Addr.mk.injEq] at hv
      obtain ⟨⟨rfl, _⟩, _, rfl⟩ := hv
      have hle : n * sz ≤ cur.size := by rw [hcs]; exact Nat.mul_le_mul_right _ hnc
      have hst := run_storeCells_at P b off T vs 0 cur w hcell (by omega) h1
      have hrun : (Instr.storeAt t (.pointer (some q)) u).run P w = .ok () (w.setRow b (cur.toList.take off ++ vs ++ cur.toList.drop (off + vs.length)).toArray) := by
        rw [hq]
        simp only [Instr.storeAt, Instr.sureAddr, Sem.run_bind, Sem.run_pure, Result.andThen_ok, storeVar, run_szOf hsz, hu]
        simp only [List.size_toArray, ne_eq, not_true_eq_false, if_false]
        simpa using hst
      have hgr : w.grownBy (w.setRow b (cur.toList.take off ++ vs ++ cur.toList.drop (off + vs.length)).toArray) (some b) := ⟨rfl, rfl, rfl, by simp [World.setRow], fun j hj hne => setRow_other w b j _ fun he => hne (by rw [he])⟩
      refine ⟨ρ, _, undef, _, .inr ⟨?_, rfl⟩, Sat.put (hs.turn (o' := .slice T sz (.slice (some ⟨b, 0, none⟩) n c) n (xs.take off ++ (vs ++ xs.drop (off + vs.length)))) hk (fun _ _ h => by cases h) hgr ?_ (fun b' hb => .inl hb)) _ _ _ ?_ (fun _ _ => rfl), h⟩
      · unfold execOp
        rw [hop]
        simp only [Sem.run_bind, hs.ev hx ρ (Agree.refl _ _), hs.ev hsy ρ (Agree.refl _ _), den, hsd]
        rw [hrun]
        rfl
      · refine ⟨by simp; omega, .inr ⟨b, c, _, rfl, hbg, setRow_heap w b cur _ T _ hcell, hnc, hcm, ?_, ?_⟩⟩
        · simp; omega
        · have hoff : off + vs.length ≤ n * sz := by omega
          rw [← htake]
          show (cur.toList.take off ++ vs ++ cur.toList.drop (off + vs.length)).take (n * sz) = _
          rw [List.append_assoc, List.take_append, List.take_append, List.length_take, List.take_take, List.take_take, List.drop_take, Array.length_toList]
          rw [show min (n * sz) off = off by omega, show min off (n * sz) = off by omega, show min off cur.size = off by omega, List.take_of_length_le (l := vs) (by omega), show n * sz - off - vs.length = n * sz - (off + vs.length) by omega]
      · intro j hj; exact dOk_lt (σ := setOwn σ k _) (by rw [dOk_setOwn]; exact hd) j hj

/-- make(map[[2]int]int) -/
theorem WO.makePM {t : TypeId} (hds : dsOk ds ops.toList = true) (hg : gd ds σ o.guard = some true) (hd : dOk σ o.dst = true)
    (hop : o.op = .makeMap t none) (h : ∀ r, WO P ops Q rest ((σ.pushO (.map r (pmE []) ([] : PM).length)).put o.dst (.val (.map (some r))))) : WO P ops Q (o :: rest) σ :=
  WO.makeSet hds hg hd hop h

/-- A call that turns a map of the caller's own. -/
theorem WO.callMap {f : FuncId} {ss : List SV} {k r c : Nat} {es : Array MapEntry} (es' : Array MapEntry) (c' : Nat) (v : Value) (hds : dsOk ds ops.toList = true) (hg : gd ds σ o.guard = some true) (hd : dOk σ o.dst = true)
    (hc : callS σ o.op = some (f, ss)) (hf : callOk P f = true) (h1 : nth σ.own k = some (.map r es c))
    (h : ∀ ρ w, Base ρ σ w → w.heap[r]? = some (.map es c) → GivesB P f (denL ρ ss).toArray w (fun b => b = r) fun u w' => u = v ∧ w'.heap[r]? = some (.map es' c'))
    (k' : WO P ops Q rest ((setOwn σ k (.map r es' c')).put o.dst (.val v))) : WO P ops Q (o :: rest) σ := by
  rw [nth_eq] at h1
  have hl1 : k < σ.own.length := (List.getElem?_eq_some_iff.1 h1).1
  refine WO.callB (X := Unit) (fun _ => v) (fun _ => True) (fun _ => setN σ.own k (.map r es' c')) (fun ρ b => b = r) hds hg hd hc hf (fun _ => by simp [setN_eq]) (fun ρ w hb => ⟨fun b hbm => ?_, ?_⟩) fun _ _ => k'
  · subst hbm; exact ⟨k, _, h1, rfl⟩
  · have g1 := hb.own k _ h1 ρ (Agree.refl _ _)
    refine Calls.mono (h ρ w hb g1) fun e w' ⟨u, he, hkeep, hu, q1⟩ => ⟨u, he, hkeep, (), hu, trivial, fun j o' hj => ?_⟩
    simp only [setN_eq] at hj
    by_cases hj1 : k = j
    · subst hj1
      rw [List.getElem?_set_self hl1] at hj
      obtain rfl := Option.some.inj hj
      exact ⟨_, h1, rfl, .inr fun ρ' hρ => q1⟩
    · rw [List.getElem?_set_ne hj1] at hj
      refine ⟨o', hj, rfl, .inl ⟨rfl, fun b hn hbm => ?_⟩⟩
      subst hbm
      exact hj1 (hb.apart k j _ _ _ h1 hj rfl hn)

/-- what lies in a map of the call's own -/
theorem own_map {ρ : Nat → Nat} {w : World} {k r c : Nat} {es : Array MapEntry} (hb : Base ρ σ w) (hk : nth σ.own k = some (.map r es c)) : w.heap[r]? = some (.map es c) := by
  rw [nth_eq] at hk
  exact hb.own k _ hk ρ (Agree.refl _ _)

/-- A row of the call's own that is not empty begins at a block. -/
theorem WO.ownAddr {k T sz n c : Nat} {q : Option Addr} {xs : List Value} (hk : nth σ.own k = some (.slice T sz (.slice q n c) n xs)) (hn : 0 < n) (h : ∀ b, q = some ⟨b, 0, none⟩ → WO P ops Q l σ) : WO P ops Q l σ := fun ρ a w hs => by
  have hown := hs.base.own k _ (by rw [← nth_eq]; exact hk) ρ (Agree.refl _ _)
  simp only [Own.holds] at hown
  rcases hown.2 with ⟨hv, hn0⟩ | ⟨g, cap, cur, hv, _⟩
  · omega
  · simp only [Value.slice.injEq] at hv
    exact h g hv.1 ρ a w hs
theorem W.ownAddr {rO : Option Nat} {cd : Code} {k T sz n c : Nat} {q : Option Addr} {xs : List Value} (hk : nth σ.own k = some (.slice T sz (.slice q n c) n xs)) (hn : 0 < n) (h : ∀ b, q = some ⟨b, 0, none⟩ → WR rO P cd Q σ) : WR rO P cd Q σ := fun ρ a w hs => by
  have hown := hs.base.own k _ (by rw [← nth_eq]; exact hk) ρ (Agree.refl _ _)
  simp only [Own.holds] at hown
  rcases hown.2 with ⟨hv, hn0⟩ | ⟨g, cap, cur, hv, _⟩
  · omega
  · simp only [Value.slice.injEq] at hv
    exact h g hv.1 ρ a w hs

theorem keepE_mem {E : List (Nat × SV)} : ∀ {l : List Nat} {p : Nat × SV}, p ∈ keepE E l → getE E p.1 = some p.2
  | [], p, h => by cases h
  | i :: l, p, h => by
    simp only [keepE] at h
    split at h
    · rename_i s hs
      rcases List.mem_cons.1 h with rfl | h
      · exact hs
      · exact keepE_mem h
    · exact keepE_mem h
/-- The call's own blocks are not spoken of any more. -/
theorem W.fresh {rO : Option Nat} {c : Code} (kp : List Nat) (hb : ((keepE σ.env kp).all fun p => bnd 0 p.2) = true) (h : WR rO P c Q ⟨σ.n, keepE σ.env kp, [], σ.snaps, σ.dfs⟩) : WR rO P c Q σ :=
  W.le (σ' := ⟨σ.n, keepE σ.env kp, [], σ.snaps, σ.dfs⟩) ⟨rfl, fun p hp => ⟨keepE_mem hp, List.all_eq_true.1 hb p hp⟩, ⟨σ.own, rfl⟩, fun o ho => (by cases ho), fun p hp => hp⟩ h

/-- A call that turns a box that came in. -/
theorem WO.callBoxO {f : FuncId} {ss : List SV} {k b T : Nat} {cs : List Value} (cs' : List Value) (v : Value) (hds : dsOk ds ops.toList = true) (hg : gd ds σ o.guard = some true) (hd : dOk σ o.dst = true)
    (hc : callS σ o.op = some (f, ss)) (hf : callOk P f = true) (h1 : nth σ.own k = some (boxO T b cs)) (hm : cs'.length ≤ maxLen)
    (h : ∀ ρ w, Base ρ σ w → w.heap[b]? = some (.cells cs.toArray T (0, 0)) → GivesB P f (denL ρ ss).toArray w (fun c => c = b) fun u w' => u = v ∧ w'.heap[b]? = some (.cells cs'.toArray T (0, 0)))
    (k' : WO P ops Q rest ((setOwn σ k (boxO T b cs')).put o.dst (.val v))) : WO P ops Q (o :: rest) σ := by
  rw [nth_eq] at h1
  have hl1 : k < σ.own.length := (List.getElem?_eq_some_iff.1 h1).1
  refine WO.callB (X := Unit) (fun _ => v) (fun _ => True) (fun _ => setN σ.own k (boxO T b cs')) (fun ρ c => c = b) hds hg hd hc hf (fun _ => by simp [setN_eq]) (fun ρ w hb => ⟨fun c hbm => ?_, ?_⟩) fun _ _ => k'
  · subst hbm; exact ⟨k, _, h1, rfl⟩
  · have g1 := boxO_heap (hb.own k _ h1 ρ (Agree.refl _ _))
    refine Calls.mono (h ρ w hb g1) fun e w' ⟨u, he, hkeep, hu, q1⟩ => ⟨u, he, hkeep, (), hu, trivial, fun j o' hj => ?_⟩
    simp only [setN_eq] at hj
    by_cases hj1 : k = j
    · subst hj1
      rw [List.getElem?_set_self hl1] at hj
      obtain rfl := Option.some.inj hj
      exact ⟨_, h1, rfl, .inr fun ρ' hρ => boxO_holds hm q1⟩
    · rw [List.getElem?_set_ne hj1] at hj
      refine ⟨o', hj, rfl, .inl ⟨rfl, fun c hn hbm => ?_⟩⟩
      subst hbm
      exact hj1 (hb.apart k j _ _ _ h1 hj rfl hn)
/-- A call that turns a box of the caller's own. -/
theorem WO.callBox1 {f : FuncId} {ss : List SV} {k T : Nat} {cs : List SV} (cs' : List SV) (v : Value) (hds : dsOk ds ops.toList = true) (hg : gd ds σ o.guard = some true) (hd : dOk σ o.dst = true)
    (hc : callS σ o.op = some (f, ss)) (hf : callOk P f = true) (h1 : nth σ.own k = some (.cells T cs)) (hb1 : bndL 0 cs' = true)
    (h : ∀ ρ w, Base ρ σ w → w.heap[ρ k]? = some (.cells (denL ρ cs).toArray T (0, 0)) → GivesB P f (denL ρ ss).toArray w (fun c => c = ρ k) fun u w' => u = v ∧ w'.heap[ρ k]? = some (.cells (denL ρ cs').toArray T (0, 0)))
    (k' : WO P ops Q rest ((setOwn σ k (.cells T cs')).put o.dst (.val v))) : WO P ops Q (o :: rest) σ := by
  rw [nth_eq] at h1
  have hl1 : k < σ.own.length := (List.getElem?_eq_some_iff.1 h1).1
  refine WO.callB (X := Unit) (fun _ => v) (fun _ => True) (fun _ => setN σ.own k (.cells T cs')) (fun ρ c => c = ρ k) hds hg hd hc hf (fun _ => by simp [setN_eq]) (fun ρ w hb => ⟨fun c hbm => ?_, ?_⟩) fun _ _ => k'
  · subst hbm; exact ⟨k, _, h1, rfl⟩
  · have g1 := hb.own k _ h1 ρ (Agree.refl _ _)
    refine Calls.mono (h ρ w hb g1) fun e w' ⟨u, he, hkeep, hu, q1⟩ => ⟨u, he, hkeep, (), hu, trivial, fun j o' hj => ?_⟩
    simp only [setN_eq] at hj
    by_cases hj1 : k = j
    · subst hj1
      rw [List.getElem?_set_self hl1] at hj
      obtain rfl := Option.some.inj hj
      refine ⟨_, h1, rfl, .inr fun ρ' hρ => ?_⟩
      show w'.heap[ρ' k]? = _
      rw [hρ k hl1, denL_agree (m := 0) (ρ := ρ) (fun i hi => by omega) cs' hb1]
      exact q1
    · rw [List.getElem?_set_ne hj1] at hj
      refine ⟨o', hj, rfl, .inl ⟨rfl, fun c hn hbm => ?_⟩⟩
      subst hbm
      exact hj1 (hb.apart k j _ _ _ h1 hj rfl hn)

/-! ### min, max -/
theorem WO.min2 {x y : Operand} {tys : Array TypeId} {k1 k2 : IntKind} {a b : Int} (hds : dsOk ds ops.toList = true) (hg : gd ds σ o.guard = some true) (hd : dOk σ o.dst = true)
    (hop : o.op = .call ⟨.builtin .min, #[x, y], tys⟩) (hx : ev σ x = some (.val (.int k1 a))) (hy : ev σ y = some (.val (.int k2 b))) (hk : WO P ops Q rest (σ.put o.dst (.val (.int k1 (if b < a then b else a))))) : WO P ops Q (o :: rest) σ :=
  WO.one hds hg fun ρ a' w hs => by
    refine ⟨ρ, _, _, w, .inl ?_, hs.put _ _ _ (dOk_lt hd) (fun ρ' hρ => rfl), hk⟩
    unfold execOp
    rw [hop]
    simp only [Sem.run_bind, resolve, List.map_toArray, List.map_cons, List.map_nil, Sem.run_pure, Result.andThen_ok, invoke, builtin]
    rw [hs.ev hx ρ (Agree.refl _ _), hs.ev hy ρ (Agree.refl _ _)]
    simp only [den, run_min_int2, Result.andThen_ok]
theorem WQ.min2 {K : St → Prop} {x y : Operand} {tys : Array TypeId} {k1 k2 : IntKind} {a b : Int} (hds : dsOk ds ops.toList = true) (hg : gd ds σ o.guard = some true) (hd : dOk σ o.dst = true)
    (hop : o.op = .call ⟨.builtin .min, #[x, y], tys⟩) (hx : ev σ x = some (.val (.int k1 a))) (hy : ev σ y = some (.val (.int k2 b))) (hk : WQ P ops K rest (σ.put o.dst (.val (.int k1 (if b < a then b else a))))) : WQ P ops K (o :: rest) σ :=
  WQ.one hds hg hd _ (fun ρ a' w hs => by
    refine ⟨_, ?_, fun _ _ => rfl⟩
    unfold execOp
    rw [hop]
    simp only [Sem.run_bind, resolve, List.map_toArray, List.map_cons, List.map_nil, Sem.run_pure, Result.andThen_ok, invoke, builtin]
    rw [hs.ev hx ρ (Agree.refl _ _), hs.ev hy ρ (Agree.refl _ _)]
    simp only [den, run_min_int2, Result.andThen_ok]) hk
theorem WO.max2 {x y : Operand} {tys : Array TypeId} {k1 k2 : IntKind} {a b : Int} (hds : dsOk ds ops.toList = true) (hg : gd ds σ o.guard = some true) (hd : dOk σ o.dst = true)
    (hop : o.op = .call ⟨.builtin .max, #[x, y], tys⟩) (hx : ev σ x = some (.val (.int k1 a))) (hy : ev σ y = some (.val (.int k2 b))) (hk : WO P ops Q rest (σ.put o.dst (.val (.int k1 (if b > a then b else a))))) : WO P ops Q (o :: rest) σ :=
  WO.one hds hg fun ρ a' w hs => by
    refine ⟨ρ, _, _, w, .inl ?_, hs.put _ _ _ (dOk_lt hd) (fun ρ' hρ => rfl), hk⟩
    unfold execOp
    rw [hop]
    simp only [Sem.run_bind, resolve, List.map_toArray, List.map_cons, List.map_nil, Sem.run_pure, Result.andThen_ok, invoke, builtin]
    rw [hs.ev hx ρ (Agree.refl _ _), hs.ev hy ρ (Agree.refl _ _)]
    simp only [den, run_max_int2, Result.andThen_ok]
theorem WQ.max2 {K : St → Prop} {x y : Operand} {tys : Array TypeId} {k1 k2 : IntKind} {a b : Int} (hds : dsOk ds ops.toList = true) (hg : gd ds σ o.guard = some true) (hd : dOk σ o.dst = true)
    (hop : o.op = .call ⟨.builtin .max, #[x, y], tys⟩) (hx : ev σ x = some (.val (.int k1 a))) (hy : ev σ y = some (.val (.int k2 b))) (hk : WQ P ops K rest (σ.put o.dst (.val (.int k1 (if b > a then b else a))))) : WQ P ops K (o :: rest) σ :=
  WQ.one hds hg hd _ (fun ρ a' w hs => by
    refine ⟨_, ?_, fun _ _ => rfl⟩
    unfold execOp
    rw [hop]
    simp only [Sem.run_bind, resolve, List.map_toArray, List.map_cons, List.map_nil, Sem.run_pure, Result.andThen_ok, invoke, builtin]
    rw [hs.ev hx ρ (Agree.refl _ _), hs.ev hy ρ (Agree.refl _ _)]
    simp only [den, run_max_int2, Result.andThen_ok]) hk
theorem WO.max3 {x y z : Operand} {tys : Array TypeId} {k1 k2 k3 : IntKind} {a b c : Int} (hds : dsOk ds ops.toList = true) (hg : gd ds σ o.guard = some true) (hd : dOk σ o.dst = true)
    (hop : o.op = .call ⟨.builtin .max, #[x, y, z], tys⟩) (hx : ev σ x = some (.val (.int k1 a))) (hy : ev σ y = some (.val (.int k2 b))) (hz : ev σ z = some (.val (.int k3 c))) (hk : WO P ops Q rest (σ.put o.dst (.val (.int k1 (if c > (if b > a then b else a) then c else (if b > a then b else a)))))) : WO P ops Q (o :: rest) σ :=
  WO.one hds hg fun ρ a' w hs => by
    refine ⟨ρ, _, _, w, .inl ?_, hs.put _ _ _ (dOk_lt hd) (fun ρ' hρ => rfl), hk⟩
    unfold execOp
    rw [hop]
    simp only [Sem.run_bind, resolve, List.map_toArray, List.map_cons, List.map_nil, Sem.run_pure, Result.andThen_ok, invoke, builtin]
    rw [hs.ev hx ρ (Agree.refl _ _), hs.ev hy ρ (Agree.refl _ _), hs.ev hz ρ (Agree.refl _ _)]
    simp only [den, run_max_int3, Result.andThen_ok]
theorem WQ.max3 {K : St → Prop} {x y z : Operand} {tys : Array TypeId} {k1 k2 k3 : IntKind} {a b c : Int} (hds : dsOk ds ops.toList = true) (hg : gd ds σ o.guard = some true) (hd : dOk σ o.dst = true)
    (hop : o.op = .call ⟨.builtin .max, #[x, y, z], tys⟩) (hx : ev σ x = some (.val (.int k1 a))) (hy : ev σ y = some (.val (.int k2 b))) (hz : ev σ z = some (.val (.int k3 c))) (hk : WQ P ops K rest (σ.put o.dst (.val (.int k1 (if c > (if b > a then b else a) then c else (if b > a then b else a)))))) : WQ P ops K (o :: rest) σ :=
  WQ.one hds hg hd _ (fun ρ a' w hs => by
    refine ⟨_, ?_, fun _ _ => rfl⟩
    unfold execOp
    rw [hop]
    simp only [Sem.run_bind, resolve, List.map_toArray, List.map_cons, List.map_nil, Sem.run_pure, Result.andThen_ok, invoke, builtin]
    rw [hs.ev hx ρ (Agree.refl _ _), hs.ev hy ρ (Agree.refl _ _), hs.ev hz ρ (Agree.refl _ _)]
    simp only [den, run_max_int3, Result.andThen_ok]) hk
end
end Go.SX
