/-
  Regions that draw their order: some operations float, the next come one after the other, and a quiet tail comes in whatever order.
-/
import Derived.Test.YtolmeekbjonbcaaGreatB4
set_option linter.unusedVariables false
set_option linter.unusedSimpArgs false
namespace Go.SX
open Go Go.RowKit
section
variable {P : Program} {ops : Array Oper} {Q : Exit → St → Prop} {σ : St} {l : List Oper} {o : Oper} {rest : List Oper} {ds : List (Option Nat)}
/-- slots are left out, and the own blocks that no slot names -/
theorem WI.fresh (kp : List Nat) (hb : ((keepE σ.env kp).all fun p => bnd 0 p.2) = true) (h : WI P ops Q l ⟨σ.n, keepE σ.env kp, [], σ.snaps, σ.dfs⟩) : WI P ops Q l σ := fun ρ a w hs =>
  h ρ a w (hs.le (σ' := ⟨σ.n, keepE σ.env kp, [], σ.snaps, σ.dfs⟩) ⟨rfl, fun p hp => ⟨keepE_mem hp, List.all_eq_true.1 hb p hp⟩, ⟨σ.own, rfl⟩, fun o ho => (by cases ho), fun p hp => hp⟩)
/-- yield, of several cells -/
theorem WI.yieldA {x : Operand} {y : Operand} {tys : Array TypeId} {ll : Nat} {v : Value} {sy : SV} {B : Nat → Prop} {J' : World → Prop} (sn' : List ((Nat → Prop) × World)) (T : Nat → Prop) (hds : dsOk ds ops.toList = true) (hg : gd ds σ o.guard = some true) (hd : dOk σ o.dst = true)
    (hop : o.op = .call { callee := .value x, args := #[y], argTypes := tys }) (hx : ev σ x = some (.val (.func (.yield ll) #[] #[]))) (hy : ev σ y = some sy) (hyd : ∀ ρ, den ρ sy = v)
    (hY : ∀ ρ w, Base ρ σ w → YieldAt (Fr none) 0 P ll #[v] w fun e w' => e = .returned (.bool true) ∧ J' w' ∧ Keep (fun b => ¬ B b) w w')
    (hsub : ∀ p, p ∈ sn' → p ∈ σ.snaps ∧ ∀ b, p.1 b → b < p.2.heap.size → ¬ B b)
    (ho : ∀ ρ (k : Nat) (o : Own) b, σ.own[k]? = some o → o.num ρ k = some b → ¬ B b ∧ T b)
    (k : ∀ s, J' s → WI P ops Q rest ((⟨σ.n, σ.env, σ.own, ((fun b => ¬ T b), s) :: sn', σ.dfs⟩ : St).put o.dst (.val (.bool true)))) : WI P ops Q (o :: rest) σ := fun ρ a w hs => by
  simp only [wpListIn, gd_sound hs hds hg, if_true]
  refine ⟨fun _ _ => trivial, ?_⟩
  have h1 := hs.ev hx ρ (Agree.refl _ _)
  have h2 := hs.ev hy ρ (Agree.refl _ _)
  simp only [den] at h1
  rw [hyd ρ] at h2
  rw [semAt_plain (by rw [hop]; rfl)]
  obtain ⟨fn, tmps, assign, body, hrun, hR⟩ := hY ρ w hs.base
  have hex : (execOp a.eval o).run P w = .ok (.round ll fn tmps assign body) w := by
    rw [← hrun]
    unfold execOp
    rw [hop]
    simp [resolve, h1, h2, Deferred.ofValue, invoke]
  rw [hex]
  refine ⟨fun h => by simp [Fr, Fence.wide] at h, ?_⟩
  obtain ⟨hF, hR⟩ := hR
  refine ⟨hF, fun c cs hr => ?_⟩
  obtain ⟨e, w', ⟨he, hJ, hk⟩, hsteps⟩ := hR c cs hr
  refine ⟨e, w', ?_, hsteps⟩
  subst he
  have hb : Base ρ (⟨σ.n, σ.env, σ.own, sn', σ.dfs⟩ : St) w' := by
    refine Base.apartB (σ := ⟨σ.n, σ.env, σ.own, sn', σ.dfs⟩) (B := B) ⟨hs.base.own, hs.base.apart, fun p hp => hs.base.keep p (hsub p hp).1⟩ hk (fun k o b h1 h2 => (ho ρ k o b h1 h2).1) fun p hp => (hsub p hp).2
  have hs' : Sat ρ (⟨σ.n, σ.env, σ.own, ((fun b => ¬ T b), w') :: sn', σ.dfs⟩ : St) a w' := ⟨hs.size, hs.defers, hs.env, hb.own, hb.apart, fun p hp => by
    rcases List.mem_cons.1 hp with rfl | hp
    · exact ⟨Keep.refl _ _, fun k o b h1 h2 h3 => absurd (ho ρ k o b h1 h2).2 h3⟩
    · exact hb.keep p hp⟩
  exact k w' hJ ρ _ w' (hs'.put _ _ _ (dOk_lt (σ := ⟨σ.n, σ.env, σ.own, ((fun b => ¬ T b), w') :: sn', σ.dfs⟩) hd) fun _ _ => rfl)
/-- a range over a function that writes nothing: each round leaves own blocks and snapshots (X) behind -/
theorem W.rangeX {g : Operand} {t : Nat} {assign body : Code} {f : FuncId} {caps : Array Value} {X : Type} (m : Nat) (val : Nat → Value) (kp : List Nat) (ow : X → List Own) (sn : X → List ((Nat → Prop) × World)) (I : Nat → X → Prop) (x0 : X) (it : List Own) (ea : Nat → X → List (Nat × SV)) (xa : Nat → X → List Own) {w0 s0 : World} (ds : List Nat)
    (hg : ev σ g = some (.val (.func (.func f) #[] caps))) (hfn : callOk P f = true) (hkb : ∀ p, p ∈ keepE σ.env kp → bnd 0 p.2 = true) (h0 : σ.own = ow x0 ++ it) (hfr : ∀ x o, o ∈ ow x ++ it → freeO o = true) (ht : t < σ.n)
    (hI0 : I 0 x0) (hsn0 : sn x0 = [])
    (hit : ∀ ρ w, Base ρ σ w → ∀ w1, Keep (fun _ => True) w w1 → (∀ b, (∃ (j : Nat) (o : Own), σ.own[j]? = some o ∧ o.num (fun _ => 0) 0 = some b) → b < w.heap.size) → (∀ (i j : Nat) (oi oj : Own) b, σ.own[i]? = some oi → σ.own[j]? = some oj → oi.num (fun _ => 0) 0 = some b → oj.num (fun _ => 0) 0 = some b → i = j) →
      Iter P f caps m val (fun _ => False) (fun b => ofOwn (ow x0) b ∨ w.heap.size ≤ b) w1)
    (hA : ∀ ll k x S s, k < m → WR (some ll) P assign (onN fun τ => Le τ ⟨σ.n, ea k x, ow x ++ xa k x, (S, s) :: (sn x ++ σ.snaps), []⟩) ⟨σ.n, (t, .val (val k)) :: keepE σ.env kp, ow x, (S, s) :: (sn x ++ σ.snaps), []⟩)
    (hB : ∀ ll k x L S s S2 s2, k < m → I k x → (∀ p, p ∈ sn x → ∀ b, p.1 b → L ≤ b) → L ≤ s.heap.size → (∀ b, L ≤ b → ¬ ofOwn (ow x) b → S b) → WR (some ll) P body (onN fun τ => ∃ x', I (k + 1) x' ∧ (∀ p, p ∈ sn x' → ∀ b, p.1 b → L ≤ b) ∧ Le τ ⟨σ.n, [], ow x', (S, s) :: (S2, s2) :: (sn x' ++ σ.snaps), []⟩) ⟨σ.n, ea k x, ow x ++ xa k x, (S, s) :: (S2, s2) :: (sn x ++ σ.snaps), []⟩)
    (hw0 : ((fun _ => True), w0) ∈ σ.snaps) (hs0 : ((fun b => b ∈ ds), s0) ∈ σ.snaps) (hM : Marks ds s0 w0)
    (k : ∀ D s' x, I m x → Marks (D :: ds) s' w0 → Q .normal ⟨σ.n, keepE σ.env kp, ow x, ((fun b => b ∈ D :: ds), s') :: (sn x ++ σ.snaps), .mk D :: σ.dfs⟩) : W P (.rangeFunc g #[t] assign body) Q σ := fun ρ a w hs => by
  refine wpIn_rangeFunc fun fn _ => ?_
  have hgv := hs.ev hg ρ (Agree.refl _ _)
  simp only [den] at hgv
  obtain ⟨rec, hrec⟩ : ∃ rec : Loop, rec = { state := .ready, pending := none, fn, tmps := a.tmps, params := #[t], assign, body, defers := w.heap.size } := ⟨_, rfl⟩
  obtain ⟨w1, hw1⟩ : ∃ w1, w1 = (w.alloc (.deferred (some []))).alloc (.loop rec) := ⟨_, rfl⟩
  obtain ⟨ll, hll⟩ : ∃ ll, ll = w.heap.size + 1 := ⟨_, rfl⟩
  have hsz1 : w1.heap.size = w.heap.size + 2 := by rw [hw1]; simp
  have hD1 : w1.heap[w.heap.size]? = some (.deferred (some [])) := by
    rw [hw1]; show ((w.heap.push (.deferred (some []))).push (.loop rec))[w.heap.size]? = _; simp [Array.getElem?_push]
  have hl1 : w1.heap[ll]? = some (.loop rec) := by
    have h9 := World.alloc_heap_new (w.alloc (.deferred (some []))) (.loop rec)
    rw [World.size_alloc] at h9
    rw [hw1, hll]; exact h9
  have hk1 : Keep (fun _ => True) w w1 := ⟨by rw [hw1]; rfl, by rw [hw1]; rfl, by rw [hw1]; rfl, by omega, fun b _ hlt => by
    rw [hw1]; show ((w.heap.push (.deferred (some []))).push (.loop rec))[b]? = _; simp [Array.getElem?_push, Nat.ne_of_lt hlt, Nat.ne_of_lt (Nat.lt_succ_of_lt hlt)]⟩
  -- the numbers
  have hfr0 : ∀ o, o ∈ σ.own → freeO o = true := fun o ho => hfr x0 o (by rw [← h0]; exact ho)
  have hnlt : ∀ (j : Nat) (o : Own) b, σ.own[j]? = some o → o.num (fun _ => 0) 0 = some b → b < w.heap.size := fun j o b hj hn => by
    refine Own.lt (hs.base.own j o hj ρ (Agree.refl _ _)) ?_
    rw [freeO_num (hfr0 o (List.mem_of_getElem? hj)) ρ (fun _ => 0) j 0]; exact hn
  have hap : ∀ (i j : Nat) (oi oj : Own) b, σ.own[i]? = some oi → σ.own[j]? = some oj → oi.num (fun _ => 0) 0 = some b → oj.num (fun _ => 0) 0 = some b → i = j := fun i j oi oj b hi hj h1 h2 =>
    hs.base.apart i j oi oj b hi hj (by rw [freeO_num (hfr0 oi (List.mem_of_getElem? hi)) ρ (fun _ => 0) i 0]; exact h1) (by rw [freeO_num (hfr0 oj (List.mem_of_getElem? hj)) ρ (fun _ => 0) j 0]; exact h2)
  have hsnlt : ∀ p, p ∈ σ.snaps → p.2.heap.size ≤ w.heap.size := fun p hp => (hs.base.keep p hp).1.size
  have hsnown : ∀ p, p ∈ σ.snaps → ∀ (j : Nat) (o : Own) b, σ.own[j]? = some o → o.num (fun _ => 0) 0 = some b → p.1 b → p.2.heap.size ≤ b := fun p hp j o b hj hn hS =>
    (hs.base.keep p hp).2 j o b hj (by rw [freeO_num (hfr0 o (List.mem_of_getElem? hj)) ρ (fun _ => 0) j 0]; exact hn) hS
  have hnum0 : ∀ b, ofOwn (ow x0) b → b < w.heap.size := fun b ⟨j, o, h1, h2⟩ => hnlt j o b (by rw [h0, List.getElem?_append_left (List.getElem?_eq_some_iff.1 h1).1]; exact h1) h2
  -- between two rounds
  obtain ⟨J, hJ⟩ : ∃ J : Nat → World → Prop, J = fun k W => ∃ x, I k x ∧ (∀ p, p ∈ sn x → ∀ b, p.1 b → ll + 1 ≤ b) ∧ (∀ b, ofOwn (ow x) b → ofOwn (ow x0) b ∨ ll + 1 ≤ b) ∧ Base ρ ⟨σ.n, [], ow x, sn x ++ σ.snaps, []⟩ W ∧ W.heap[w.heap.size]? = some (.deferred (some [])) ∧ W.heap[ll]? = some (.loop rec) := ⟨_, rfl⟩
  have hJst : ∀ k W W', J k W → Keep (fun b => ¬ (fun _ => False) b) W W' → J k W' := fun k W W' hj hkp => by
    rw [hJ] at hj ⊢
    obtain ⟨x, gI, gL, gN, g1, g2, g3⟩ := hj
    refine ⟨x, gI, gL, gN, g1.apartB (B := fun _ => False) hkp (fun _ _ _ _ _ h => h) (fun _ _ _ _ _ h => h), ?_, ?_⟩
    · rw [hkp.block _ (fun h => h) (Array.getElem?_eq_some_iff.1 g2).1]; exact g2
    · rw [hkp.block _ (fun h => h) (Array.getElem?_eq_some_iff.1 g3).1]; exact g3
  have hJ0 : J 0 w1 := by
    rw [hJ]
    refine ⟨x0, hI0, fun p hp => (by rw [hsn0] at hp; cases hp), fun b hb => .inl hb, ?_, hD1, hl1⟩
    have hb1 := hs.base.apartB (B := fun _ => False) (w' := w1) ⟨hk1.os, hk1.tape, hk1.output, hk1.size, fun b _ hlt => hk1.block b trivial hlt⟩ (fun _ _ _ _ _ h => h) fun _ _ _ _ _ h => h
    have hpre : ∀ (j : Nat) (o : Own), (ow x0)[j]? = some o → σ.own[j]? = some o := fun j o hj => by rw [h0, List.getElem?_append_left (List.getElem?_eq_some_iff.1 hj).1]; exact hj
    rw [hsn0]
    exact ⟨fun j o hj ρ' _ => freeO_holds (hfr x0 o (by simp [List.mem_of_getElem? hj])) (hb1.own j o (hpre j o hj) ρ (Agree.refl _ _)), fun i j oi oj b h1 h2 => hb1.apart i j oi oj b (hpre _ _ h1) (hpre _ _ h2), fun p hp => ⟨(hb1.keep p hp).1, fun j o b hj => (hb1.keep p hp).2 j o b (hpre j o hj)⟩⟩
  have hround : ∀ k W, k < m → J k W → YieldAt (Fr none) 0 P ll #[val k] W fun e W' => e = .returned (.bool true) ∧ J (k + 1) W' ∧ Keep (fun b => ¬ (ofOwn (ow x0) b ∨ w.heap.size ≤ b)) W W' := fun k W hkm hj => by
    rw [hJ] at hj ⊢
    obtain ⟨x, gI, gL, gN, g1, g2, g3⟩ := hj
    have hwl : w.heap.size ≤ W.heap.size := by have := (Array.getElem?_eq_some_iff.1 g3).1; omega
    have hllW : ll < W.heap.size := (Array.getElem?_eq_some_iff.1 g3).1
    refine ⟨_, _, _, _, run_yield g3 (by rw [hrec]; rfl), roundIn_of_wpIn (n := 0) trivial ?_⟩
    have hof : ∀ x (j : Nat) (o : Own) b ρ' j', (ow x)[j]? = some o → o.num ρ' j' = some b → ofOwn (ow x) b := fun x j o b ρ' j' hjo hn => ⟨j, o, hjo, by rw [freeO_num (hfr x o (by simp [List.mem_of_getElem? hjo])) (fun _ => 0) ρ' 0 j']; exact hn⟩
    have hne : ∀ b, (ofOwn (ow x0) b ∨ ll + 1 ≤ b) → b ≠ w.heap.size ∧ b ≠ ll := fun b hb => by
      rcases hb with h | h
      · have := hnum0 b h; omega
      · omega
    obtain ⟨S, hS⟩ : ∃ S : Nat → Prop, S = fun b => ¬ ofOwn (ow x) b := ⟨_, rfl⟩
    have hSno : ∀ (j : Nat) (o : Own) b ρ' j', (ow x)[j]? = some o → o.num ρ' j' = some b → ¬ S b := fun j o b ρ' j' hjo hn hSb => by
      rw [hS] at hSb
      exact hSb (hof x j o b ρ' j' hjo hn)
    have hSll : S ll := by rw [hS]; exact fun h => (hne ll (gN ll h)).2 rfl
    have hSw : S w.heap.size := by rw [hS]; exact fun h => (hne _ (gN _ h)).1 rfl
    have hsat1 : Sat ρ ⟨σ.n, (t, .val (val k)) :: keepE σ.env kp, ow x, (S, W) :: (sn x ++ σ.snaps), []⟩ { tmps := a.tmps.setIfInBounds t (val k), defers := [] } W := by
      refine ⟨by simpa using hs.size, rfl, fun i s hi => ?_, ⟨g1.own, g1.apart, fun p hp => ?_⟩⟩
      · simp only [getE] at hi
        split at hi
        · rename_i he; subst he
          obtain rfl := Option.some.inj hi
          refine ⟨ht, fun ρ' _ => ?_⟩
          rw [Array.getElem?_setIfInBounds_self_of_lt (by rw [hs.size]; exact ht)]; rfl
        · rename_i he
          have h5 := keepE_mem (getE_mem hi)
          have h6 := hs.env i s h5
          refine ⟨h6.1, fun ρ' _ => ?_⟩
          rw [Array.getElem?_setIfInBounds_ne he, den_agree (m := 0) (ρ := ρ) (fun i hi => by omega) s (hkb _ (getE_mem hi))]
          exact h6.2 ρ (Agree.refl _ _)
      · rcases List.mem_cons.1 hp with rfl | hp
        · exact ⟨Keep.refl _ _, fun j o b hjo hn hSb => absurd hSb (hSno j o b ρ j hjo hn)⟩
        · exact g1.keep p hp
    have htm : (Array.foldl (fun tmps (x : Tmp × Value) => tmps.setIfInBounds x.1 x.2) rec.tmps (rec.params.zip #[val k])) = a.tmps.setIfInBounds t (val k) := by rw [hrec]; simp
    rw [show (rec.params.zip #[val k]).foldl (fun tmps (t, a) => tmps.setIfInBounds t a) rec.tmps = a.tmps.setIfInBounds t (val k) from htm]
    have hasg : rec.assign = assign := by rw [hrec]
    have hbdy : rec.body = body := by rw [hrec]
    have hst : rec.state = .ready := by rw [hrec]
    rw [hasg, hbdy]
    refine wpIn_mono (hA ll k x S W hkm ρ _ W hsat1) ?_
    rintro e a1 W1 ⟨ρ1, τ, hs1, hq1⟩
    obtain ⟨rfl, hle1⟩ := onN_and hq1
    have hs1 := hs1.le hle1
    have hkW1 : Keep S W W1 := (hs1.base.keep (S, W) (by simp)).1
    have hl2 : W1.heap[ll]? = some (.loop rec) := by rw [hkW1.block ll hSll hllW]; exact g3
    refine ⟨_, run_beginRound hl2 hst, ?_⟩
    have hput : ∀ x, (∀ p, p ∈ sn x → ∀ b, p.1 b → ll + 1 ≤ b) → ∀ p, p ∈ sn x ++ σ.snaps → p.2.heap.size ≤ ll ∨ ¬ p.1 ll := fun x hL p hp => by
      rcases List.mem_append.1 hp with hp | hp
      · exact .inr fun h => by have := hL p hp ll h; omega
      · have := hsnlt p hp; exact .inl (by omega)
    have hllW1 : ll < W1.heap.size := (Array.getElem?_eq_some_iff.1 hl2).1
    have hnum1 : ∀ (j : Nat) (o : Own) b, (ow x ++ xa k x)[j]? = some o → o.num ρ1 j = some b → b ≠ ll ∧ b ≠ w.heap.size := fun j o b hjo hn => by
      by_cases hSb : S b
      · have := (hs1.base.keep (S, W) (by simp)).2 j o b hjo hn hSb
        simp only at this; omega
      · rw [hS] at hSb
        have := hne b (gN b (Classical.not_not.1 hSb))
        exact ⟨this.2, this.1⟩
    obtain ⟨S1, hS1⟩ : ∃ S1 : Nat → Prop, S1 = fun b => ¬ ofOwn (ow x) b ∧ b ≠ ll := ⟨_, rfl⟩
    obtain ⟨S2, hS2⟩ : ∃ S2 : Nat → Prop, S2 = fun b => b = ll ∨ b = w.heap.size := ⟨_, rfl⟩
    have hS1S : ∀ b, S1 b → S b := fun b h => by rw [hS1] at h; rw [hS]; exact h.1
    have hb1 : Base ρ1 ⟨σ.n, [], ow x ++ xa k x, (S1, W) :: (sn x ++ σ.snaps), []⟩ W1 := ⟨hs1.base.own, hs1.base.apart, fun p hp => by
      rcases List.mem_cons.1 hp with rfl | hp
      · have h9 := hs1.base.keep (S, W) List.mem_cons_self
        exact ⟨h9.1.mono fun b hb _ => hS1S b hb, fun j o b h1 h2 h3 => h9.2 j o b h1 h2 (hS1S b h3)⟩
      · exact hs1.base.keep p (List.mem_cons_of_mem _ hp)⟩
    have hb2 : Base ρ1 ⟨σ.n, [], ow x ++ xa k x, (S1, W) :: (sn x ++ σ.snaps), []⟩ (W1.putObj ll (.loop { rec with state := .busy })) := by
      refine Base.putObj hb1 (fun j o b hjo hn he => (hnum1 j o b hjo hn).1 he) fun p hp => ?_
      rcases List.mem_cons.1 hp with rfl | hp
      · exact .inr fun h => by simp only [hS1] at h; exact h.2 rfl
      · exact hput x gL p hp
    have hsat2 : Sat ρ1 ⟨σ.n, ea k x, ow x ++ xa k x, (S1, W) :: (S2, W1.putObj ll (.loop { rec with state := .busy })) :: (sn x ++ σ.snaps), []⟩ a1 (W1.putObj ll (.loop { rec with state := .busy })) :=
      ⟨hs1.size, hs1.defers, hs1.env, hb2.own, hb2.apart, fun p hp => by
        rcases List.mem_cons.1 hp with rfl | hp
        · exact hb2.keep _ List.mem_cons_self
        rcases List.mem_cons.1 hp with rfl | hp
        · refine ⟨Keep.refl _ _, fun j o b hjo hn hSb => ?_⟩
          have := hnum1 j o b hjo hn
          simp only [hS2] at hSb; omega
        · exact hb2.keep p (List.mem_cons_of_mem _ hp)⟩
    refine wpIn_mono (hB ll k x (ll + 1) S1 W S2 _ hkm gI gL (by omega) (fun b hb9 hb => by rw [hS1]; exact ⟨hb, by omega⟩) ρ1 a1 _ hsat2) ?_
    rintro e a3 W3 ⟨ρ3, τ3, hs3, hq3⟩
    obtain ⟨rfl, x', hI', hL', hle3⟩ := onN_and hq3
    have hs3 := hs3.le hle3
    have hkW3 : Keep S1 W W3 := (hs3.base.keep (S1, _) List.mem_cons_self).1
    have hkL3 : Keep S2 (W1.putObj ll (.loop { rec with state := .busy })) W3 := (hs3.base.keep (S2, _) (List.mem_cons_of_mem _ List.mem_cons_self)).1
    have hS2ll : S2 ll := by rw [hS2]; exact .inl rfl
    have hS2w : S2 w.heap.size := by rw [hS2]; exact .inr rfl
    have hN' : ∀ b, ofOwn (ow x') b → ofOwn (ow x0) b ∨ ll + 1 ≤ b := fun b hb => by
      apply Classical.byContradiction
      intro hno
      obtain ⟨j, o, h1, h2⟩ := hb
      have h2' : o.num ρ3 j = some b := by rw [freeO_num (hfr x' o (by simp [List.mem_of_getElem? h1])) ρ3 (fun _ => 0) j 0]; exact h2
      have hbll : b ≠ ll := fun he => by
        subst he
        have h3 := (hs3.base.keep (S2, _) (List.mem_cons_of_mem _ List.mem_cons_self)).2 j o _ h1 h2' hS2ll
        simp at h3; omega
      have hSb : S1 b := by rw [hS1]; exact ⟨fun h => hno (gN b h), hbll⟩
      have h3 := (hs3.base.keep (S1, _) List.mem_cons_self).2 j o b h1 h2' hSb
      simp only at h3
      exact hno (.inr (by omega))
    have hl3 : W3.heap[ll]? = some (.loop { rec with state := .busy }) := by
      rw [hkL3.block ll hS2ll (by simpa using hllW1)]; exact World.putObj_heap_same hllW1
    have hD3 : W3.heap[w.heap.size]? = some (.deferred (some [])) := by
      rw [hkL3.block w.heap.size hS2w (by simp; omega), World.putObj_heap_other (by omega), hkW1.block _ hSw (Array.getElem?_eq_some_iff.1 g2).1]; exact g2
    refine ⟨_, _, run_endRound none hl3, ?_⟩
    have hrr : ({ ({ rec with state := .busy } : Loop) with state := if (none : Option Code).isNone then .ready else .done, pending := none } : Loop) = rec := by rw [hrec]; rfl
    rw [hrr]
    have hl3lt : ll < W3.heap.size := (Array.getElem?_eq_some_iff.1 hl3).1
    refine ⟨rfl, ⟨x', hI', hL', hN', ?_, ?_, World.putObj_heap_same hl3lt⟩, ?_⟩
    · have hb3 : Base ρ3 ⟨σ.n, [], ow x', sn x' ++ σ.snaps, []⟩ W3 := ⟨hs3.base.own, hs3.base.apart, fun p hp => hs3.base.keep p (List.mem_cons_of_mem _ (List.mem_cons_of_mem _ hp))⟩
      refine Base.free (ρ := ρ3) (Base.putObj hb3 (fun j o b hjo hn he => ?_) (hput x' hL')) (fun o ho => hfr x' o (by simp [ho]))
      exact (hne b (hN' b (hof x' j o b ρ3 j hjo hn))).2 he
    · rw [World.putObj_heap_other (by omega)]; exact hD3
    · have hno : ¬ (fun b => ¬ (ofOwn (ow x0) b ∨ w.heap.size ≤ b)) ll := fun h => h (.inr (by omega))
      have hsub : ∀ b, ¬ (ofOwn (ow x0) b ∨ w.heap.size ≤ b) → S1 b := fun b hb => by
        rw [hS1]
        exact ⟨fun h => hb ((gN b h).imp id fun h => by omega), fun he => hb (.inr (by omega))⟩
      exact (hkW3.mono fun b hb _ => hsub b hb).trans (putObj_keep _ hno)
  have hcall := hit ρ w hs.base w1 hk1 (fun b ⟨j, o, h1, h2⟩ => hnlt j o b h1 h2) hap ll J hJst hround hJ0
  refine ⟨ll, [{ target := .collected w.heap.size, args := #[] }], w1, { target := .fn (.func f) caps, args := #[.func (.yield ll) #[] #[]] }, w1, f, #[.func (.yield ll) #[] #[]] ++ caps, w1, ?_, ?_, fun _ _ => trivial, ?_, fun h => by simp [Fr, Fence.wide] at h, ?_⟩
  · rw [hw1, hll, hrec]
    exact run_enterLoop_outer fn a.tmps #[t] assign body
  · show (Deferred.ofValue (a.eval g) (#[Operand.const (.func (.yield ll) #[] #[])].map a.eval)).run P w1 = _
    rw [hgv]; simp [Deferred.ofValue, Act.eval]
  · show (invoke (.fn (.func f) caps) #[.func (.yield ll) #[] #[]]).run P w1 = _
    simp only [invoke]
    exact run_callFunc hfn
  · refine hcall.mono ?_
    rintro e W' ⟨⟨v, rfl⟩, hj⟩
    rw [hJ] at hj
    obtain ⟨x, gI, gL, gN, g1, g2, g3⟩ := hj
    have hst : rec.state ≠ .busy := by rw [hrec]; simp
    have hpd : rec.pending = none := by rw [hrec]
    refine ⟨none, _, by rw [← hpd]; exact run_endLoop g3 hst, ?_⟩
    have hllt : ll < W'.heap.size := (Array.getElem?_eq_some_iff.1 g3).1
    have hof : ∀ (j : Nat) (o : Own) b, (ow x)[j]? = some o → o.num ρ j = some b → ofOwn (ow x0) b ∨ ll + 1 ≤ b := fun j o b hjo hn => gN b ⟨j, o, hjo, by rw [freeO_num (hfr x o (by simp [List.mem_of_getElem? hjo])) (fun _ => 0) ρ 0 j]; exact hn⟩
    have hb5 : Base ρ ⟨σ.n, [], ow x, sn x ++ σ.snaps, []⟩ (W'.putObj ll (.loop { rec with state := .exhausted })) := Base.putObj g1 (fun j o b hjo hn he => by
      rcases hof j o b hjo hn with h | h
      · have := hnum0 b h; omega
      · omega) fun p hp => by
      rcases List.mem_append.1 hp with hp | hp
      · exact .inr fun h => by have := gL p hp ll h; omega
      · have := hsnlt p hp; exact .inl (by omega)
    have hks0 := (hb5.keep _ (List.mem_append_right _ hs0)).1
    have hMk : Marks (w.heap.size :: ds) (W'.putObj ll (.loop { rec with state := .exhausted })) w0 := by
      refine ⟨List.nodup_cons.2 ⟨fun hm => ?_, hM.1⟩, fun d hd => ?_⟩
      · have := (hM.2 _ hm).2.1
        have := hsnlt _ hs0
        simp only at this; omega
      · rcases List.mem_cons.1 hd with rfl | hd
        · refine ⟨(hs.base.keep _ hw0).1.size, by simp; omega, ?_⟩
          rw [World.putObj_heap_other (by omega)]; exact g2
        · obtain ⟨q1, q2, q3⟩ := hM.2 d hd
          exact ⟨q1, Nat.lt_of_lt_of_le q2 hks0.size, by rw [hks0.block d hd q2]; exact q3⟩
    refine ⟨ρ, ⟨σ.n, keepE σ.env kp, ow x, ((fun b => b ∈ w.heap.size :: ds), W'.putObj ll (.loop { rec with state := .exhausted })) :: (sn x ++ σ.snaps), .mk w.heap.size :: σ.dfs⟩, ⟨hs.size, ?_, fun i s hi => ?_, ?_⟩, k w.heap.size _ x gI hMk⟩
    · show [{ target := .collected w.heap.size, args := #[] }] ++ a.defers = _
      rw [hs.defers]; rfl
    · have h5 := keepE_mem (getE_mem hi)
      have h6 := hs.env i s h5
      refine ⟨h6.1, fun ρ' _ => ?_⟩
      rw [den_agree (m := 0) (ρ := ρ) (fun i hi => by omega) s (hkb _ (getE_mem hi))]
      exact h6.2 ρ (Agree.refl _ _)
    · refine ⟨hb5.own, hb5.apart, fun p hp => ?_⟩
      rcases List.mem_cons.1 hp with rfl | hp
      · refine ⟨Keep.refl _ _, fun j o b hjo hn hSb => ?_⟩
        have hq := hof j o b hjo hn
        rcases List.mem_cons.1 hSb with rfl | hSb
        · rcases hq with h | h
          · have := hnum0 _ h; omega
          · omega
        · have h9 := (hM.2 b hSb).2.1
          have h8 := hsnlt _ hs0
          simp only at h8
          rcases hq with ⟨j9, o9, h1, h2⟩ | h
          · have := hsnown _ hs0 j9 o9 b (by rw [h0, List.getElem?_append_left (List.getElem?_eq_some_iff.1 h1).1]; exact h1) h2 hSb
            simp only at *; omega
          · simp only at *; omega
      · exact hb5.keep p hp
end
end Go.SX
set_option linter.unusedVariables false
set_option linter.unusedSimpArgs false
set_option maxHeartbeats 1000000
namespace Go.Proofs.YtolmeekbjonbcaaGreat
open Int renaming reduceEq → q1, reduceLT → q2, reduceBEq → q3, reduceBNe → q4
open Nat renaming reduceAdd → q5, reduceSub → q6, reduceMul → q7, reduceLT → q8, reduceLeDiff → q9, reduceEqDiff → qa
open List renaming reduceReplicate → qb
open Go Go.SX Go.RowKit
/-- function 37 -/
theorem without_spec {S : Nat → Prop} {w : World} {p : Option Addr} {n c : Nat} {l : List DE} {id : Int} (hl : rDEs.rd S w [.slice p n c] l) (hn : l.length = n) (hpos : 0 < n) (h12 : n ≤ 12) : Gives Tryz.prog 37 #[.slice p n c, .int .i64 id] w fun r w' =>
    ∃ x : Option Addr × Nat, r = .slice x.1 (filtF id l).length x.2 ∧ rDEs.rd (fun b => w.heap.size ≤ b) w' [.slice x.1 (filtF id l).length x.2] (filtF id l) := by
  have hl : (Rp.slice rDE).rd (fun _ => True) w _ l := Rp.any hl
  have hfl := filtF_le id l
  refine gives_of [.val (.slice p n c), .val (.int .i64 id)] 9 [.tmp 4] Tryz.func37 rfl rfl rfl (by simp) rfl rfl ?_
  refine W.pure (ds := []) rfl fun K1 hK1 => ?_
  simp only [sx, ty, q1, q2, q5, q6, q7, q8, q9, qa, qb, reduceIte, sy, q3, q4]; with_reducible refine hK1 _ ?_; clear hK1
  refine W.seqK fun K2 hK2 => W.region ?_
  refine WO.go 1 (ds := []) rfl ?_
  simp only [sx, ty, q1, q2, q5, q6, q7, q8, q9, qa, qb, reduceIte, sy, q3, q4]
  refine WO.callO (fun x : Option Addr × Nat => .slice x.1 n x.2) (fun x => ODN n l x) (ds := []) rfl rfl rfl rfl co63 (fun x T cs h => by cases h) (fun ρ w1 hb => clone_spec (Rp.now hl (hb.first (by simp))) hpos h12) fun x => ?_
  obtain ⟨p5, c5⟩ := x
  refine WO.go 1 (ds := []) rfl ?_
  simp only [sx, ty, q1, q2, q5, q6, q7, q8, q9, qa, qb, reduceIte, sy, q3, q4]
  refine WO.callL (own := [ODN n l (p5, c5)]) [1] (fun _ : List Value => .slice p5 (filtF id l).length c5) (fun ys => [.slice 41 4 (.slice p5 n c5) n ys]) (fun _ ys _ => ys.take ((filtF id l).length * 4) = desV (filtF id l)) (ds := []) rfl rfl rfl rfl co62 ⟨rfl, trivial⟩ (by decide) rfl (fun _ => rfl) (fun _ => rfl) (fun ρ w1 hb hlie1 => ?_) fun ys lo s8 hys => ?_
  · have h9 := deleteD_spec (a := ⟨ρ 0, 0, none⟩) (id := id) hn hpos h12 (own_cells (k := 0) hb rfl 0).1 (own_cells (k := 0) hb rfl 0).2 (other_own (j := 0) (ks := [1]) (own' := [ODN n l (p5, c5)]) hb ⟨rfl, trivial⟩ rfl (by decide) rfl rfl) hlie1
    exact Calls.mono h9 fun e w2 ⟨v, he, hk, ys, h1, h2, h3⟩ => ⟨v, he, hk, ys, h1, h2, h3⟩
  refine WO.go 1 (ds := []) rfl ?_
  simp only [sx, ty, q1, q2, q5, q6, q7, q8, q9, qa, qb, reduceIte, sy, q3, q4]
  with_reducible refine WO.nil ?_
  refine hK2 _ ?_; clear hK2
  refine W.ret ⟨by simp, _, rfl, fun ρ w1 hb => ?_⟩
  exact ⟨(p5, c5), rfl, part_read hb (k := 1) rfl hys rfl (by omega) (fun b hb' => own_new hb (by simp) (k := 1) rfl hb')⟩
/-- function 37 -/
theorem withoutO_spec {S : Nat → Prop} {w : World} {p : Option Addr} {n c : Nat} {l : List DE} {id : Int} (hl : rDEs.rd S w [.slice p n c] l) (hn : l.length = n) (hpos : 0 < n) (h12 : n ≤ 12) : Gives Tryz.prog 37 #[.slice p n c, .int .i64 id] w fun r w' =>
    ∃ x : {x : List Value × Option Addr × Nat // x.1.take ((filtF id l).length * 4) = desV (filtF id l)}, r = .slice x.1.2.1 (filtF id l).length x.1.2.2 ∧ (∀ ρ' k, ((.slice 41 4 (.slice x.1.2.1 n x.1.2.2) n x.1.1) : SX.Own).holds ρ' k w') ∧ ∀ ρ' k b, ((.slice 41 4 (.slice x.1.2.1 n x.1.2.2) n x.1.1) : SX.Own).num ρ' k = some b → w.heap.size ≤ b := by
  have hl : (Rp.slice rDE).rd (fun _ => True) w _ l := Rp.any hl
  have hfl := filtF_le id l
  refine gives_of [.val (.slice p n c), .val (.int .i64 id)] 9 [.tmp 4] Tryz.func37 rfl rfl rfl (by simp) rfl rfl ?_
  refine W.pure (ds := []) rfl fun K1 hK1 => ?_
  simp only [sx, ty, q1, q2, q5, q6, q7, q8, q9, qa, qb, reduceIte, sy, q3, q4]; with_reducible refine hK1 _ ?_; clear hK1
  refine W.seqK fun K2 hK2 => W.region ?_
  refine WO.go 1 (ds := []) rfl ?_
  simp only [sx, ty, q1, q2, q5, q6, q7, q8, q9, qa, qb, reduceIte, sy, q3, q4]
  refine WO.callO (fun x : Option Addr × Nat => .slice x.1 n x.2) (fun x => ODN n l x) (ds := []) rfl rfl rfl rfl co63 (fun x T cs h => by cases h) (fun ρ w1 hb => clone_spec (Rp.now hl (hb.first (by simp))) hpos h12) fun x => ?_
  obtain ⟨p5, c5⟩ := x
  refine WO.go 1 (ds := []) rfl ?_
  simp only [sx, ty, q1, q2, q5, q6, q7, q8, q9, qa, qb, reduceIte, sy, q3, q4]
  refine WO.callL (own := [ODN n l (p5, c5)]) [1] (fun _ : List Value => .slice p5 (filtF id l).length c5) (fun ys => [.slice 41 4 (.slice p5 n c5) n ys]) (fun _ ys _ => ys.take ((filtF id l).length * 4) = desV (filtF id l)) (ds := []) rfl rfl rfl rfl co62 ⟨rfl, trivial⟩ (by decide) rfl (fun _ => rfl) (fun _ => rfl) (fun ρ w1 hb hlie1 => ?_) fun ys lo s8 hys => ?_
  · have h9 := deleteD_spec (a := ⟨ρ 0, 0, none⟩) (id := id) hn hpos h12 (own_cells (k := 0) hb rfl 0).1 (own_cells (k := 0) hb rfl 0).2 (other_own (j := 0) (ks := [1]) (own' := [ODN n l (p5, c5)]) hb ⟨rfl, trivial⟩ rfl (by decide) rfl rfl) hlie1
    exact Calls.mono h9 fun e w2 ⟨v, he, hk, ys, h1, h2, h3⟩ => ⟨v, he, hk, ys, h1, h2, h3⟩
  refine WO.go 1 (ds := []) rfl ?_
  simp only [sx, ty, q1, q2, q5, q6, q7, q8, q9, qa, qb, reduceIte, sy, q3, q4]
  with_reducible refine WO.nil ?_
  refine hK2 _ ?_; clear hK2
  refine W.ret ⟨by simp, _, rfl, fun ρ w1 hb => ?_⟩
  refine ⟨⟨(ys, p5, c5), hys⟩, rfl, fun ρ' k => ?_, fun ρ' k b' h => ?_⟩
  · exact freeO_holds rfl (hb.own 1 _ rfl ρ (Agree.refl _ _))
  · exact own_new (k := 1) (o := .slice 41 4 (.slice p5 n c5) n ys) hb (by simp) rfl h
/-- function 41 -/
theorem falling_spec {S : Nat → Prop} {w : World} {p : Option Addr} {n c : Nat} {l : List DE} (hl : rDEs.rd S w [.slice p n c] l) (hn : l.length = n) (hpos : 0 < n) (h12 : n ≤ 12) (hid : ∀ x, x ∈ l → 1 ≤ x.1.1 ∧ x.1.1 ≤ 1000000) : Gives Tryz.prog 41 #[.slice p n c] w fun r w' =>
    ∃ x : List DE × Nat × Option Addr × Nat, r = .func (.func 78) #[] #[.pointer (some ⟨x.2.1, 0, none⟩)] ∧ (x.1.Perm l ∧ ∀ a b, a < b → b < n → idA x.1 b ≤ idA x.1 a) ∧
      (∀ (j : Nat) (o : SX.Own), [ODN n x.1 x.2.2, boxO 22 x.2.1 [.slice x.2.2.1 n x.2.2.2]][j]? = some o → o.holds (fun _ => 0) 0 w' ∧ ∀ b, o.num (fun _ => 0) 0 = some b → w.heap.size ≤ b) ∧
      ∀ (i j : Nat) (oi oj : SX.Own) b, [ODN n x.1 x.2.2, boxO 22 x.2.1 [.slice x.2.2.1 n x.2.2.2]][i]? = some oi → [ODN n x.1 x.2.2, boxO 22 x.2.1 [.slice x.2.2.1 n x.2.2.2]][j]? = some oj → oi.num (fun _ => 0) 0 = some b → oj.num (fun _ => 0) 0 = some b → i = j := by
  have hl : (Rp.slice rDE).rd (fun _ => True) w _ l := Rp.any hl
  refine gives_of [.val (.slice p n c)] 10 [.tmp 2] Tryz.func41 rfl rfl rfl (by simp) rfl rfl ?_
  refine W.pure (ds := []) rfl fun K1 hK1 => ?_
  simp only [sx, ty, q1, q2, q5, q6, q7, q8, q9, qa, qb, reduceIte, sy, q3, q4]; with_reducible refine hK1 _ ?_; clear hK1
  refine W.seqK fun K2 hK2 => W.region ?_
  refine WO.go 1 (ds := []) rfl ?_
  simp only [sx, ty, q1, q2, q5, q6, q7, q8, q9, qa, qb, reduceIte, sy, q3, q4]
  refine WO.callO (fun x : Option Addr × Nat => .slice x.1 n x.2) (fun x => ODN n l x) (ds := []) rfl rfl rfl rfl co63 (fun x T cs h => by cases h) (fun ρ w1 hb => clone_spec (Rp.now hl (hb.first (by simp))) hpos h12) fun x => ?_
  obtain ⟨p5, c5⟩ := x
  refine WO.go 1 (ds := []) rfl ?_
  simp only [sx, ty, q1, q2, q5, q6, q7, q8, q9, qa, qb, reduceIte, sy, q3, q4]
  with_reducible refine WO.nil ?_
  refine hK2 _ ?_; clear hK2
  refine W.seqK fun K3 hK3 => W.region ?_
  refine WO.go 1 (ds := []) rfl ?_
  simp only [sx, ty, q1, q2, q5, q6, q7, q8, q9, qa, qb, reduceIte, sy, q3, q4]
  refine WO.callL (own := [ODN n l (p5, c5)]) [0] (fun _ : List DE => .tuple #[]) (fun l' => [ODN n l' (p5, c5)]) (fun _ l' _ => l'.Perm l ∧ ∀ a b, a < b → b < n → idA l' b ≤ idA l' a) (ds := []) rfl rfl rfl rfl co66 ⟨rfl, trivial⟩ (by decide) rfl (fun _ => rfl) (fun _ => rfl) (fun ρ w1 hb hlie => Calls.mono (sortD_spec hn h12 hid hlie) fun e w2 ⟨v, he, hk, l', h1, h2, h3⟩ => ⟨v, he, hk, l', h1, h2, h3⟩) fun l' lo s8 hl' => ?_
  simp only [sx, ty, q1, q2, q5, q6, q7, q8, q9, qa, qb, reduceIte, sy, q3, q4]
  with_reducible refine WO.nil ?_
  refine hK3 _ ?_; clear hK3
  refine W.seqK fun K4 hK4 => W.region ?_
  refine WO.go 1 (ds := []) rfl ?_
  simp only [sx, ty, q1, q2, q5, q6, q7, q8, q9, qa, qb, reduceIte, sy, q3, q4]
  refine WO.callO (fun b : Nat => .func (.func 78) #[] #[.pointer (some ⟨b, 0, none⟩)]) (fun b => boxO 22 b [.slice p5 n c5]) (ds := []) rfl rfl rfl rfl co68 (fun x T cs h => by cases h) (fun ρ w1 hb => values_spec w1 p5 n c5) fun b => ?_
  refine WO.go 1 (ds := []) rfl ?_
  simp only [sx, ty, q1, q2, q5, q6, q7, q8, q9, qa, qb, reduceIte, sy, q3, q4]
  with_reducible refine WO.nil ?_
  refine hK4 _ ?_; clear hK4
  refine W.ret ⟨by simp, _, rfl, fun ρ w1 hb => ?_⟩
  exact ⟨(l', b, p5, c5), rfl, hl', newsB_of hb (by simp) [ODN n l' (p5, c5), boxO 22 b [.slice p5 n c5]] rfl rfl⟩
def valD (xs : List DE) (k : Nat) : Value := deA (xs.getD k ((0, 0, 0, []), none, 0))
theorem valD_at {xs : List DE} {k : Nat} {y : DE} (h : xs[k]? = some y) : valD xs k = deA y := by unfold valD; rw [List.getD_eq_getElem?_getD, h]; rfl
/-- function 78 -/
theorem values1_iter {S : Nat → Prop} {w : World} {b1 : Nat} {p0 : Option Addr} {n c0 : Nat} {xs : List DE} {B : Nat → Prop} (h1 : At w ⟨b1, 0, none⟩ [.slice p0 n c0]) (hb1l : b1 < w.heap.size) (hl : rDEs.rd S w [.slice p0 n c0] xs) (hS : ∀ b, S b → b < w.heap.size → ¬ B b) (hb1 : ¬ B b1) (hn : xs.length = n) (h12 : n ≤ 12) :
    Iter Tryz.prog 78 #[.pointer (some ⟨b1, 0, none⟩)] n (valD xs) (fun _ => False) B w := by
  intro ll J hst hY hJ0
  have hlS : (Rp.slice rDE).rd (fun b => ¬ B b ∧ ¬ b ∈ []) w [.slice p0 n c0] xs := Rp.mono _ hl fun b hb hlt => ⟨hS b hb hlt, by simp⟩
  have hb1' : (fun b => ¬ B b ∧ ¬ b ∈ ([] : List Nat)) b1 := ⟨hb1, by simp⟩
  refine iter_of (R := J n) [] [.val (.func (.yield ll) #[] #[]), .val (.pointer (some ⟨b1, 0, none⟩))] 16 B Tryz.func78 rfl rfl rfl (by simp) rfl rfl (by simp) (by simp) ?_
  show W Tryz.prog _ _ ⟨16, initE 0 _, [], [((fun b => ¬ b ∈ []), w), ((fun b => ¬ B b ∧ ¬ b ∈ []), w)], []⟩
  refine W.sub (τ := ⟨16, initE 0 [.val (.func (.yield ll) #[] #[]), .val (.pointer (some ⟨b1, 0, none⟩))], [], [((fun b => ¬ False), w), ((fun b => ¬ B b ∧ ¬ b ∈ []), w)], []⟩) (fun ρ a w9 h => ⟨ρ, h.size, h.defers, h.env, h.base.own, h.base.apart, fun p hp => by
    rcases List.mem_cons.1 hp with rfl | hp
    · have h9 := h.base.keep ((fun b => ¬ b ∈ ([] : List Nat)), w) (by simp)
      exact ⟨h9.1.mono fun b _ _ => by simp, fun k o b hk => by simp at hk⟩
    · exact h.base.keep p (List.mem_cons_of_mem _ hp)⟩) ?_
  refine W.seqK fun K1 hK1 => W.region ?_
  refine WO.load [.slice p0 n c0] false (ds := []) rfl rfl rfl rfl rfl agg22 sz22 (.inr rfl) (fun ρ w1 hb => h1.frame ((hb.at (S := fun b => ¬ B b ∧ ¬ b ∈ []) (s := w) (by simp [St.put, initE])).block _ hb1' hb1l)) ?_
  refine WO.go 2 (ds := []) rfl ?_
  simp only [sx, ty, q1, q2, q5, q6, q7, q8, q9, qa, qb, reduceIte, sy, q3, q4]
  with_reducible refine WO.nil ?_
  refine hK1 _ ?_; clear hK1
  refine W.block ?_
  refine W.loopO (X := Nat × World) [0, 5, 6] (fun x9 => [(7, .val (.int .i64 (x9.1 : Int)))]) (fun x9 => []) (fun x9 => [((fun b => ¬ False), x9.2), ((fun b => ¬ B b ∧ ¬ b ∈ []), w)]) (fun x9 => x9.1 ≤ n ∧ J x9.1 x9.2) (fun x9 => n - x9.1) (0, w) ?_ ?_ ?_
  · exact ⟨rfl, by simp [getE, bnd, keepE], ⟨[], by simp⟩, by simp [Own.bnd, bndL, bnd, boxO], by simp⟩
  · skip
    exact ⟨Nat.zero_le _, hJ0⟩
  · rintro ⟨i, sw⟩ ⟨hi, hJi⟩
    simp only at hi hJi
    simp only [sx, ty, q1, q2, q5, q6, q7, q8, q9, qa, qb, reduceIte, sxk, sy, q3, q4]
    refine W.pure (ds := []) rfl fun K2 hK2 => ?_
    simp only [sx, ty, q1, q2, q5, q6, q7, q8, q9, qa, qb, reduceIte, sy, q3, q4]; with_reducible refine hK2 _ ?_; clear hK2
    refine W.seqK fun K3 hK3 => ?_
    refine W.cond rfl rfl (fun hc => ?_) (fun hc => ?_)
    · skip
      have hlt : i < n := by simpa using hc
      obtain ⟨y, hy⟩ := len_lt hn hlt
      have hvd := valD_at hy
      have hYi := hY i
      rw [hvd] at hYi
      refine W.skip (hK3 _ ?_)
      refine W.seqK fun K4 hK4 => ?_
      refine W.block ?_
      refine W.seqK fun K5 hK5 => W.region ?_
      refine WO.elem (y := y) hlS (by simp [St.put]) (ds := []) rfl rfl rfl (by simp [St.put]) (fun _ => rfl) rfl rfl rfl rfl rfl el22 agg41 sz41 (.inl rfl) (by omega) (hy) fun p ces hces => ?_
      have hces : ces = deV y := hces
      subst hces
      simp only [deV]
      refine WO.go 2 (ds := []) rfl ?_
      simp only [sx, ty, q1, q2, q5, q6, q7, q8, q9, qa, qb, reduceIte, sy, q3, q4]
      with_reducible refine WO.nil ?_
      refine hK5 _ ?_; clear hK5
      refine W.seqK fun K6 hK6 => ?_
      refine WI.region ?_
      refine WI.pre 2 ?_
      simp only [List.take_succ_cons, List.take_zero, List.drop_succ_cons, List.drop_zero, List.toList_toArray]
      refine WO.go 2 (ds := []) rfl ?_
      simp only [sx, ty, q1, q2, q5, q6, q7, q8, q9, qa, qb, reduceIte, sy, q3, q4]
      with_reducible refine WO.nil ?_
      refine ⟨rfl, ?_⟩
      refine WI.fresh [0, 5, 6, 7, 11, 12] rfl ?_
      simp only [sx, ty, q1, q2, q5, q6, q7, q8, q9, qa, qb, reduceIte, sxk, sy, q3, q4]
      refine WI.yieldA (v := deA y) (B := B) (J' := J (i + 1)) [((fun b => ¬ B b ∧ ¬ b ∈ []), w)] (fun b => False) (ds := []) rfl rfl rfl rfl rfl rfl (fun _ => rfl) (fun ρ w1 hb => ?_) (fun p hp => ?_) (fun ρ k o b hk hn => ?_) fun s2 hJ2 => ?_
      · exact hYi w1 hlt (hst i sw w1 hJi ((hb.at (S := fun b => ¬ False) (s := sw) (by simp [St.put]))))
      · rw [List.mem_singleton] at hp; subst hp; exact ⟨by simp [St.put], fun b h _ => h.1⟩
      · simp at hk
      simp only [sx, ty, q1, q2, q5, q6, q7, q8, q9, qa, qb, reduceIte, sy, q3, q4]
      refine WI.pre 1 ?_
      simp only [List.take_succ_cons, List.take_zero, List.drop_succ_cons, List.drop_zero, List.toList_toArray]
      refine WO.go 1 (ds := []) rfl ?_
      simp only [sx, ty, q1, q2, q5, q6, q7, q8, q9, qa, qb, reduceIte, sy, q3, q4]
      with_reducible refine WO.nil ?_
      refine ⟨rfl, WI.nil ?_⟩
      refine hK6 _ ?_; clear hK6
      refine W.cond rfl rfl (fun hc => ?_) (fun hc => ?_)
      · skip
        simp at hc
      · skip
        refine W.skip (hK4 _ ?_)
        refine W.region ?_
        refine WO.go 2 (ds := []) rfl ?_
        simp only [sx, ty, q1, q2, q5, q6, q7, q8, q9, qa, qb, reduceIte, sy, q3, q4]
        with_reducible refine WO.nil ?_
        refine ⟨(i + 1, s2), ?_, by first | omega | (simp; omega), rfl, by simp [getE, bnd, keepE, wrap_succ (show i + 1 ≤ 9223372036854775807 by omega)], ⟨_, rfl⟩, by simp [Own.bnd, bndL, bnd, boxO], by simp⟩
        exact ⟨hlt, hJ2⟩
    · skip
      have hJe : J n sw := by
        have h9 : i = n := Nat.le_antisymm hi (by simpa using hc)
        rw [← h9]; exact hJi
      refine W.exit ?_
      refine ⟨by simp, rfl, ?_⟩
      try simp only [sx, ty, q1, q2, q5, q6, q7, q8, q9, qa, qb, reduceIte, sxr, sy, q3, q4]
      intro ρ w1 hb
      exact hst _ _ _ hJe (hb.at (S := fun b => ¬ False) (by simp))
end Go.Proofs.YtolmeekbjonbcaaGreat
set_option linter.unusedVariables false
set_option linter.unusedSimpArgs false
set_option maxHeartbeats 1000000
namespace Go.Proofs.YtolmeekbjonbcaaGreat
open Int renaming reduceEq → q1, reduceLT → q2, reduceBEq → q3, reduceBNe → q4
open Nat renaming reduceAdd → q5, reduceSub → q6, reduceMul → q7, reduceLT → q8, reduceLeDiff → q9, reduceEqDiff → qa
open List renaming reduceReplicate → qb
open Go Go.SX Go.RowKit
/-- the first i and the last i have changed places -/
def revF (l : List Int) (i : Nat) : List Int := tab l.length fun k => if k < i ∨ l.length < k + 1 + i then l.getD (l.length - 1 - k) 0 else l.getD k 0
theorem revF_zero (l : List Int) : revF l 0 = l := by
  apply List.ext_getElem
  · simp [revF, tab]
  · intro k h1 h2
    simp only [revF, tab, List.getElem_map, List.getElem_range, Nat.not_lt_zero, false_or, Nat.add_zero]
    rw [if_neg (by omega), List.getD_eq_getElem?_getD, List.getElem?_eq_getElem h2]; rfl
theorem revF_len (l : List Int) (i : Nat) : (revF l i).length = l.length := by simp [revF, tab]
theorem revF_at {l : List Int} {i k : Nat} (hk : k < l.length) : (revF l i)[k]? = some (if k < i ∨ l.length < k + 1 + i then l.getD (l.length - 1 - k) 0 else l.getD k 0) := tab_getE hk rfl
theorem revF_end {l : List Int} {i : Nat} (h : l.length ≤ 2 * i + 1) : revF l i = l.reverse := by
  apply List.ext_getElem?
  intro k
  by_cases hk : k < l.length
  · rw [revF_at hk, List.getElem?_reverse hk, List.getD_eq_getElem?_getD, List.getD_eq_getElem?_getD, List.getElem?_eq_getElem (show l.length - 1 - k < l.length by omega), List.getElem?_eq_getElem hk]
    simp only [Option.getD_some]
    split
    · rfl
    · rename_i h2
      congr 1
      have : l.length - 1 - k = k := by omega
      simp only [this]
  · rw [List.getElem?_eq_none (by rw [revF_len]; omega), List.getElem?_eq_none (by simp; omega)]
theorem revF_step {l : List Int} {i : Nat} (h : 2 * i + 1 < l.length) : ((revF l i).set i (l.getD (l.length - 1 - i) 0)).set (l.length - 1 - i) (l.getD i 0) = revF l (i + 1) := by
  apply List.ext_getElem?
  intro k
  by_cases hk : k < l.length
  · rw [revF_at hk]
    by_cases h1 : l.length - 1 - i = k
    · subst h1
      rw [List.getElem?_set_self (by simp [revF_len]; omega), if_pos (.inr (by omega))]
      congr 2; omega
    · rw [List.getElem?_set_ne h1]
      by_cases h2 : i = k
      · subst h2
        rw [List.getElem?_set_self (by rw [revF_len]; omega), if_pos (.inl (by omega))]
      · rw [List.getElem?_set_ne h2, revF_at hk]
        congr 1
        by_cases h3 : k < i ∨ l.length < k + 1 + i
        · rw [if_pos h3, if_pos (by omega)]
        · rw [if_neg h3, if_neg (by omega)]
  · rw [List.getElem?_eq_none (by simp [revF_len]; omega), List.getElem?_eq_none (by rw [revF_len]; omega)]
/-- function 42 -/
theorem reverse_spec {w : World} {l : List Int} {n c : Nat} {q : Option Addr} (hn : l.length = n) (hpos : 0 < n) (hn2 : n ≤ 1000) (hlie : Lie [OIN n l (q, c)] w) : GivesB Tryz.prog 42 #[.slice q n c] w (ofOwn [OIN n l (q, c)]) fun r w' => r = .tuple #[] ∧ TurnL [OIN n l (q, c)] [OIN n l.reverse (q, c)] w w' := by
  have hw1 : IntKind.i64.wrap ((n : Int) - 1) = (n : Int) - 1 := wrap_id (by omega) (by omega)
  refine givesL_of [OIN n l (q, c)] [.val (.slice q n c)] 28 [] Tryz.func42 rfl rfl rfl (by simp) rfl rfl rfl hlie ?_
  refine W.pure (ds := []) rfl fun K1 hK1 => ?_
  simp only [sx, ty, q1, q2, q5, q6, q7, q8, q9, qa, qb, reduceIte, sy, q3, q4]; with_reducible refine hK1 _ ?_; clear hK1
  refine W.block ?_
  refine W.loopO (X := Nat) [0] (fun x => [(2, .val (.int .i64 (x : Int))), (3, .val (.int .i64 ((n : Int) - 1 - (x : Int))))]) (fun x => [OIN n (revF l x) (q, c)]) (fun x => [((fun b => ¬ ofOwn [OIN n l (q, c)] b), w)]) (fun x => x ≤ n) (fun x => n - x) 0 ?_ ?_ ?_
  · exact ⟨rfl, by simp [getE, bnd, keepE, hw1], ⟨[], by simp [revF_zero]⟩, by simp [Own.bnd, bndL, bnd, boxO, OIN], by simp⟩
  · skip
    exact Nat.zero_le _
  · rintro i hi
    simp only [sx, ty, q1, q2, q5, q6, q7, q8, q9, qa, qb, reduceIte, sxk, sy, q3, q4]
    refine W.seqK fun K2 hK2 => ?_
    refine W.pure (ds := []) rfl fun K3 hK3 => ?_
    simp only [sx, ty, q1, q2, q5, q6, q7, q8, q9, qa, qb, reduceIte, sy, q3, q4]; with_reducible refine hK3 _ ?_; clear hK3
    refine W.cond rfl rfl (fun hc => ?_) (fun hc => ?_)
    · skip
      have hlt : 2 * i + 1 < n := by simp at hc; omega
      have hj1 : (n : Int) - 1 - (i : Int) = ((n - 1 - i : Nat) : Int) := by omega
      have hy : (revF l i)[i]? = some (l.getD i 0) := by rw [revF_at (by omega), if_neg (by omega)]
      have hz : (revF l i)[n - 1 - i]? = some (l.getD (n - 1 - i) 0) := by rw [revF_at (by omega), if_neg (by omega)]
      refine W.skip (hK2 _ ?_)
      refine W.seqK fun K4 hK4 => ?_
      refine W.block ?_
      refine W.ownAddr (k := 0) rfl (by omega) fun b2 hb2 => ?_
      simp only at hb2
      subst hb2
      refine W.regionT' 13 [2, 3] [0, 1, 4, 5, 6, 7, 8, 9, 10, 11, 12] mixed (by kernel_rfl) ?_
      simp only [sx, ty, q1, q2, q5, q6, q7, q8, q9, qa, qb, reduceIte, sxt, List.toList_toArray, sy, q3, q4, hj1]
      refine WQ.go 4 (ds := []) rfl ?_
      simp only [sx, ty, q1, q2, q5, q6, q7, q8, q9, qa, qb, reduceIte, sxq, sy, q3, q4, hj1]
      refine WQ.q (ds := []) rfl rfl rfl (QR.idx rfl rfl rfl el27 (by omega) (by omega)) ?_
      refine WQ.q (ds := []) rfl rfl rfl (QR.load [Value.int .i64 (l.getD (n - 1 - i) 0)] false rfl rfl agg3 sz3 (.inr rfl) (fun ρ w1 hb => own_elem_at (k := 0) (i := (n - 1 - i)) hb rfl (map_get (Value.int .i64) hz))) ?_
      simp only [List.drop_succ_cons, List.drop_zero, List.take_succ_cons, List.take_zero, ofCells, Bool.false_eq_true, if_false, List.headD_cons]
      refine WQ.go 2 (ds := []) rfl ?_
      simp only [sx, ty, q1, q2, q5, q6, q7, q8, q9, qa, qb, reduceIte, sxq, sy, q3, q4, hj1]
      refine WQ.q (ds := []) rfl rfl rfl (QR.idx rfl rfl rfl el27 (by omega) (by omega)) ?_
      refine WQ.q (ds := []) rfl rfl rfl (QR.load [Value.int .i64 (l.getD i 0)] false rfl rfl agg3 sz3 (.inr rfl) (fun ρ w1 hb => own_elem_at (k := 0) (i := i) hb rfl (map_get (Value.int .i64) hy))) ?_
      simp only [List.drop_succ_cons, List.drop_zero, List.take_succ_cons, List.take_zero, ofCells, Bool.false_eq_true, if_false, List.headD_cons]
      simp only [sx, ty, q1, q2, q5, q6, q7, q8, q9, qa, qb, reduceIte, sy, q3, q4, hj1]
      refine WQ.q (ds := []) rfl rfl rfl (QR.idx rfl rfl rfl el27 (by omega) (by omega)) ?_
      simp only [sx, ty, q1, q2, q5, q6, q7, q8, q9, qa, qb, reduceIte, sy, q3, q4, hj1]
      with_reducible refine WQ.nil ?_
      refine WO.storeOwn (k := 0) (i := i) (ds := []) rfl rfl rfl rfl rfl rfl rfl (by omega) rfl rfl sz3 ?_
      rw [show (((revF l i).map (Value.int .i64)).set (i) (.int .i64 (l.getD (n - 1 - i) 0))) = ((revF l i).set (i) (l.getD (n - 1 - i) 0)).map (.int .i64) by simp only [List.map_set]]
      simp only [sx, ty, q1, q2, q5, q6, q7, q8, q9, qa, qb, reduceIte, sy, q3, q4, hj1]
      refine WO.q (ds := []) rfl rfl rfl (QR.idx rfl rfl rfl el27 (by omega) (by omega)) ?_
      simp only [sx, ty, q1, q2, q5, q6, q7, q8, q9, qa, qb, reduceIte, sy, q3, q4, hj1]
      refine WO.storeOwn (k := 0) (i := n - 1 - i) (ds := []) rfl rfl rfl rfl rfl rfl rfl (by omega) rfl rfl sz3 ?_
      rw [show ((((revF l i).set i (l.getD (n - 1 - i) 0)).map (Value.int .i64)).set (n - 1 - i) (.int .i64 (l.getD i 0))) = (((revF l i).set i (l.getD (n - 1 - i) 0)).set (n - 1 - i) (l.getD i 0)).map (.int .i64) by simp only [List.map_set]]
      simp only [sx, ty, q1, q2, q5, q6, q7, q8, q9, qa, qb, reduceIte, sy, q3, q4, hj1]
      with_reducible refine WO.nil ?_
      refine hK4 _ ?_
      refine W.region ?_
      refine WO.go 6 (ds := []) rfl ?_
      simp only [sx, ty, q1, q2, q5, q6, q7, q8, q9, qa, qb, reduceIte, sy, q3, q4, hj1]
      with_reducible refine WO.nil ?_
      refine ⟨i + 1, by omega, by omega, rfl, by simp [getE, bnd, keepE, wrap_succ (show i + 1 ≤ 9223372036854775807 by omega)]; rw [wrap_id (by omega) (by omega)]; omega, ⟨[], by simp [OIN, ← revF_step (show 2 * i + 1 < l.length by omega), hn]⟩, by simp [Own.bnd, bndL, bnd, OIN], by simp⟩
    · skip
      have hge : n ≤ 2 * i + 1 := by simp at hc; omega
      refine W.exit ?_
      refine ⟨by simp, ?_⟩
      simp only [sx, ty, q1, q2, q5, q6, q7, q8, q9, qa, qb, reduceIte, sxr, sy, q3, q4]
      intro ρ w1 hb
      refine ⟨rfl, ?_⟩
      rw [← revF_end (i := i) (by omega)]
      exact turnL_of hb (by simp) rfl rfl
end Go.Proofs.YtolmeekbjonbcaaGreat
set_option linter.unusedVariables false
set_option linter.unusedSimpArgs false
set_option maxHeartbeats 2000000
namespace Go.Proofs.YtolmeekbjonbcaaGreat
open Int renaming reduceEq → q1, reduceLT → q2, reduceBEq → q3, reduceBNe → q4
open Nat renaming reduceAdd → q5, reduceSub → q6, reduceMul → q7, reduceLT → q8, reduceLeDiff → q9, reduceEqDiff → qa
open List renaming reduceReplicate → qb
open Go Go.SX Go.RowKit
theorem meet_nil (cs : List Cop) : MeetL [] cs := ⟨fun _ => 0, fun x hx => absurd hx (by simp), fun x y hx => absurd hx (by simp)⟩
theorem valid_sub {ds ds' : List Dem} {cs : List Cop} (hv : valid ds cs = true) (hs : ds'.Sublist ds) : valid ds' cs = true := by
  obtain ⟨h1, h2, h3, h4, h5, h6⟩ := valid_mem hv
  have h7 := hs.length_le
  simp only [valid, validDs, validCs, Bool.and_eq_true, decide_eq_true_eq, List.all_eq_true]
  exact ⟨⟨⟨by omega, fun x hx => h2 x (hs.subset hx)⟩, h3.sublist (hs.map _)⟩, ⟨h4, h5⟩, h6⟩
theorem valid_id {ds : List Dem} {cs : List Cop} (hv : valid ds cs = true) {d : Dem} (hd : d ∈ ds) : 1 ≤ d.1 ∧ d.1 ≤ 1000000 := by
  have h := (valid_mem hv).2.1 d hd
  simp only [validD, Bool.and_eq_true, within, decide_eq_true_eq] at h
  omega
theorem apart_of {own own0 it : List SX.Own} {sz : Nat} (he : own = own0 ++ it) (hlt : ∀ b, (∃ (j : Nat) (o : SX.Own), own[j]? = some o ∧ o.num (fun _ => 0) 0 = some b) → b < sz) (hap : ∀ (i j : Nat) (oi oj : SX.Own) b, own[i]? = some oi → own[j]? = some oj → oi.num (fun _ => 0) 0 = some b → oj.num (fun _ => 0) 0 = some b → i = j) {j : Nat} {o : SX.Own} {b : Nat} (hj : own[j]? = some o) (hge : own0.length ≤ j) (hn : o.num (fun _ => 0) 0 = some b) : ¬ (ofOwn own0 b ∨ sz ≤ b) := by
  rintro (⟨i, o', h1, h2⟩ | h)
  · have h3 := (List.getElem?_eq_some_iff.1 h1).1
    have := hap i j o' o b (by rw [he, List.getElem?_append_left h3]; exact h1) hj h2 hn
    omega
  · have := hlt b ⟨j, o, hj, hn⟩; omega
/-- what is known when k demands have been looked at -/
def RefI (w : World) (ds : List Dem) (cs : List Cop) (xs l1 : List DE) (k : Nat) (x : List DE × Option Addr × Nat × List ((Nat → Prop) × World)) : Prop :=
  RI ds cs ((l1.take k).map (·.1.1)) (x.1.map (·.1)) ∧ (∀ y, y ∈ x.1 → y ∈ xs) ∧ ∃ S s, (S, s) ∈ x.2.2.2 ++ [((fun _ => True), w)] ∧ rDEs.rd S s [.slice x.2.1 x.1.length x.2.2.1] x.1
theorem met_de {S1 : Nat → Prop} {S2 : Nat → Prop} {S3 : Nat → Prop} {w : World} {p0 p2 : Option Addr} {c0 c2 : Nat} {l : List DE} {cs : List Cop} {hall : Int} (hl : rDEs.rd S1 w [.slice p0 l.length c0] l) (he : ∀ x, x ∈ l → OkE S2 w x) (hl2 : rCops.rd S3 w [.slice p2 cs.length c2] cs) (hv : valid (l.map (·.1)) cs = true) (hh : within 0 99 hall = true) (h11 : cs.length ≤ 11) :
    Gives Tryz.prog 23 #[.agg #[.slice p2 cs.length c2, .int .i64 hall], .slice p0 l.length c0] w fun r _ => ∃ x : (Option Addr × Nat) × (Nat × Option Addr × Nat) × Bool, r = .tuple #[.slice x.1.1 l.length x.1.2, .slice x.2.1.2.1 x.2.1.1 x.2.1.2.2, .bool x.2.2] ∧ (x.2.2 = true ↔ MeetL (l.map (·.1)) cs) := by
  have h1 := close_des hl he
  have h9 := met_spec (p0 := p0) (c0 := c0) (ds := l.map (·.1)) (by rw [List.length_map]; exact h1) hl2 hv hh h11
  simpa only [List.length_map] using h9
/-- function 24 -/
theorem refusal_spec {S S2 : Nat → Prop} {w : World} {p0 p2 : Option Addr} {c0 c2 : Nat} {ds : List Dem} {cs : List Cop} {hall : Int} (hl : rDems.rd S w [.slice p0 ds.length c0] ds) (hl2 : rCops.rd S2 w [.slice p2 cs.length c2] cs) (hv : valid ds cs = true) (hh : within 0 99 hall = true) (h11 : cs.length ≤ 11) (hd12 : ds.length ≤ 12) (hno : ¬ MeetL ds cs) : Gives Tryz.prog 24 #[.agg #[.slice p2 cs.length c2, .int .i64 hall], .slice p0 ds.length c0] w fun r w' =>
    ∃ x : List Int × Option Addr × Nat, r = .slice x.2.1 x.1.length x.2.2 ∧ RefP ds cs x.1 ∧ rInts.rd (fun b => w.heap.size ≤ b) w' [.slice x.2.1 x.1.length x.2.2] x.1 := by
  have hl2 : (Rp.slice rCop).rd (fun _ => True) w _ cs := Rp.any hl2
  obtain ⟨xs, hxm, hls, hxe⟩ := open_des hl
  have hls : (Rp.slice rDE).rd (fun _ => True) w _ xs := Rp.any hls
  have hM : Marks [] w w := ⟨List.nodup_nil, fun d hd => by cases hd⟩
  obtain ⟨n, hn⟩ : ∃ n, ds.length = n := ⟨_, rfl⟩
  have hxn : xs.length = n := by rw [← hn, ← hxm]; simp
  have hpos : 0 < n := by
    rcases Nat.eq_zero_or_pos n with h | h
    · exact absurd (by rw [List.length_eq_zero_iff.1 (hn.trans h)]; exact meet_nil cs) hno
    · exact h
  have hid : ∀ x, x ∈ xs → 1 ≤ x.1.1 ∧ x.1.1 ≤ 1000000 := fun x hx => valid_id hv (by rw [← hxm]; exact List.mem_map.2 ⟨x, hx, rfl⟩)
  rw [hn] at hls ⊢
  rw [hn] at hd12
  refine gives_of_marks [.val (.agg #[.slice p2 cs.length c2, .int .i64 hall]), .val (.slice p0 n c0)] 42 [.tmp 4] Tryz.func24 rfl rfl rfl (by simp) rfl rfl ?_
  refine W.pure (ds := []) rfl fun K1 hK1 => ?_
  simp only [sx, ty, q1, q2, q5, q6, q7, q8, q9, qa, qb, reduceIte, sy, q3, q4]; with_reducible refine hK1 _ ?_; clear hK1
  refine W.pure (ds := []) rfl fun K2 hK2 => ?_
  simp only [sx, ty, q1, q2, q5, q6, q7, q8, q9, qa, qb, reduceIte, sy, q3, q4]; with_reducible refine hK2 _ ?_; clear hK2
  refine W.seqK fun K3 hK3 => ?_
  refine W.seqK fun K4 hK4 => W.region ?_
  refine WO.go 1 (ds := []) rfl ?_
  simp only [sx, ty, q1, q2, q5, q6, q7, q8, q9, qa, qb, reduceIte, sy, q3, q4]
  refine WO.callN (fun x : List DE × Nat × Option Addr × Nat => .func (.func 78) #[] #[.pointer (some ⟨x.2.1, 0, none⟩)]) (fun x => [ODN n x.1 x.2.2, boxO 22 x.2.1 [.slice x.2.2.1 n x.2.2.2]]) (fun x => x.1.Perm xs ∧ ∀ a b, a < b → b < n → idA x.1 b ≤ idA x.1 a) (ds := []) rfl rfl rfl rfl co41 (by intro x o ho; simp at ho; rcases ho with rfl | rfl <;> rfl) (fun ρ w1 hb => falling_spec (Rp.now hls (hb.first (by simp))) hxn hpos hd12 hid) fun x hp1 => ?_
  obtain ⟨l1, bF, qF, cF9⟩ := x
  simp only at hp1
  obtain ⟨hp1, hs1⟩ := hp1
  have hl1n : l1.length = n := by rw [hp1.length_eq, hxn]
  simp only [sx, ty, q1, q2, q5, q6, q7, q8, q9, qa, qb, reduceIte, sy, q3, q4]
  with_reducible refine WO.nil ?_
  refine hK4 _ ?_; clear hK4
  refine W.block ?_
  refine W.pinA (by simp [smallO, boxO, ODN]) fun β => ?_
  obtain ⟨b0, hb0⟩ : ∃ b0, β 0 = b0 := ⟨_, rfl⟩
  obtain ⟨b1, hb1⟩ : ∃ b1, β 1 = b1 := ⟨_, rfl⟩
  simp only [pinEn, pinOw, pinOw_box, den, denL, Nat.zero_add, Nat.reduceAdd, hb0, hb1]
  refine W.rangeX (X := List DE × Option Addr × Nat × List ((Nat → Prop) × World)) (w0 := w) (s0 := w) n (valD l1) [2, 5] (fun x => [boxO 61 b0 [.slice p2 cs.length c2, .int .i64 hall], boxO 22 b1 [.slice x.2.1 x.1.length x.2.2.1]]) (fun x => x.2.2.2) (RefI w ds cs xs l1) (xs, p0, c0, []) [ODN n l1 (qF, cF9), boxO 22 bF [.slice qF n cF9]] (fun k x => [(6, .loc 2 0), (2, .val (.pointer (some ⟨b0, 0, none⟩))), (5, .val (.pointer (some ⟨b1, 0, none⟩)))]) (fun k x => [.cells 41 [.val (.int .i64 (l1.getD k ((0, 0, 0, []), none, 0)).1.1), .val (.int .i64 (l1.getD k ((0, 0, 0, []), none, 0)).1.2.1), .val (.int .i64 (l1.getD k ((0, 0, 0, []), none, 0)).1.2.2.1), .val (.slice (l1.getD k ((0, 0, 0, []), none, 0)).2.1 (l1.getD k ((0, 0, 0, []), none, 0)).1.2.2.2.length (l1.getD k ((0, 0, 0, []), none, 0)).2.2)]]) [] rfl (by kernel_rfl) (by simp [keepE, getE, kp2, bnd]) (by simp only [hxn]; rfl) ?_ (by show 16 < 42; decide) ?_ rfl ?_ ?_ ?_ (by simp) (by simp) hM ?_
  · intro x o ho; simp only [List.cons_append, List.nil_append, List.mem_cons, List.not_mem_nil, or_false] at ho
    rcases ho with rfl | rfl | rfl | rfl <;> rfl
  · exact ⟨by simp only [List.take_zero, List.map_nil]; rw [hxm]; exact RI.start hno, fun y hy => hy, (fun _ => True), w, by simp, by simp only [hxn]; exact hls⟩
  · intro ρ w1 hb w2 hk hlt hap
    have hq9 : rDEs.rd (fun b => (ODN n l1 (qF, cF9)).num ρ 2 = some b) w1 [.slice qF n cF9] l1 := own_slice (A := rDE) (k := 2) hb rfl hl1n.symm (fun b h => h) (des_read l1)
    refine values1_iter (S := fun b => (ODN n l1 (qF, cF9)).num ρ 2 = some b) ((box_at (k := 3) (b := bF) hb rfl).frame (hk.block bF trivial (own_old (j := 3) hb rfl rfl))) (Nat.lt_of_lt_of_le (own_old (j := 3) hb rfl rfl) hk.size) (Rp.now hq9 hk) (fun b9 hS9 _ => apart_of (own0 := [boxO 61 b0 [.slice p2 cs.length c2, .int .i64 hall], boxO 22 b1 [.slice p0 xs.length c0]]) (it := [ODN n l1 (qF, cF9), boxO 22 bF [.slice qF n cF9]]) (by first | rfl | (simp only [hxn]; rfl)) hlt hap (j := 2) (o := ODN n l1 (qF, cF9)) rfl (Nat.le_refl _) (by rw [freeO_num rfl (fun _ => 0) ρ 0 2]; exact hS9)) (apart_of (own0 := [boxO 61 b0 [.slice p2 cs.length c2, .int .i64 hall], boxO 22 b1 [.slice p0 xs.length c0]]) (it := [ODN n l1 (qF, cF9), boxO 22 bF [.slice qF n cF9]]) (by first | rfl | (simp only [hxn]; rfl)) hlt hap (j := 3) (o := boxO 22 bF [.slice qF n cF9]) rfl (by simp) rfl) hl1n (by omega)
  · intro ll k x S sw hk
    simp only [valD, deA]
    refine W.region ?_
    refine WO.go 2 (ds := []) rfl ?_
    simp only [sx, ty, q1, q2, q5, q6, q7, q8, q9, qa, qb, reduceIte, sxk, sy, q3, q4]
    with_reducible refine WO.nil ?_
    exact ⟨rfl, by simp [getE, bnd, keepE, kp2], ⟨[], by simp⟩, by simp [Own.bnd, bndL, bnd, boxO], by simp⟩
  · intro ll k x L S s S2 s2 hk hIx hsL hLs hLS
    obtain ⟨left, pL, cL, snx⟩ := x
    simp only at hsL hLS
    obtain ⟨hRI, hmem, Sx, sX, hmx, hrd⟩ := hIx
    simp only at hRI hmem hmx hrd
    obtain ⟨y, hy⟩ := len_lt hl1n hk
    have hyd : l1.getD k ((0, 0, 0, []), none, 0) = y := by rw [List.getD_eq_getElem?_getD, hy]; rfl
    simp only [hyd]
    have hleft : (left.map (·.1)).length ≤ ds.length := hRI.sub.length_le
    rw [List.length_map] at hleft
    have hlpos : 0 < left.length := by
      rcases Nat.eq_zero_or_pos left.length with h | h
      · exact absurd (by rw [List.length_eq_zero_iff.1 h]; exact meet_nil cs) hRI.no
      · exact h
    have hvl : valid ((filtF y.1.1 left).map (·.1)) cs = true := by rw [filtF_map]; exact valid_sub hv (List.Sublist.trans List.filter_sublist hRI.sub)
    have hdone : (l1.take (k + 1)).map (fun z : DE => z.1.1) = (l1.take k).map (fun z : DE => z.1.1) ++ [y.1.1] := take_map_snoc (fun z : DE => z.1.1) l1 hy
    have hfm := filtF_map y.1.1 left
    have hmx2 : (Sx, sX) ∈ snx ++ [((fun b => b ∈ ([] : List Nat)), w), ((fun _ => True), w)] := by
      rcases List.mem_append.1 hmx with h | h
      · exact List.mem_append_left _ h
      · exact List.mem_append_right _ (List.mem_cons_of_mem _ h)
    have hKr5 : ∀ t, (∃ x', RefI w ds cs xs l1 (k + 1) x' ∧ (∀ p, p ∈ x'.2.2.2 → ∀ b, p.1 b → L ≤ b) ∧ Le t ⟨42, [], [boxO 61 b0 [.slice p2 cs.length c2, .int .i64 hall], boxO 22 b1 [.slice x'.2.1 x'.1.length x'.2.2.1]], (S, s) :: (S2, s2) :: (x'.2.2.2 ++ [((fun b => b ∈ ([] : List Nat)), w), ((fun _ => True), w)]), []⟩) → (onN fun t => (∃ x', RefI w ds cs xs l1 (k + 1) x' ∧ (∀ p, p ∈ x'.2.2.2 → ∀ b, p.1 b → L ≤ b) ∧ Le t ⟨42, [], [boxO 61 b0 [.slice p2 cs.length c2, .int .i64 hall], boxO 22 b1 [.slice x'.2.1 x'.1.length x'.2.2.1]], (S, s) :: (S2, s2) :: (x'.2.2.2 ++ [((fun b => b ∈ ([] : List Nat)), w), ((fun _ => True), w)]), []⟩)) .normal t := fun t h => h
    refine W.block ?_
    refine W.seqK fun K6 hK6 => W.region ?_
    refine WO.loadBox (k := 1) (i := 0) (sz := 1) rfl (ds := []) rfl rfl rfl rfl rfl (by simp [Addr.add_mid]) (by simp) agg22 sz22 (.inr rfl) ?_
    simp only [List.drop_succ_cons, List.drop_zero, List.take_succ_cons, List.take_zero, ofCells, Bool.false_eq_true, if_false, List.headD_cons, if_true, List.toList_toArray]
    refine WO.go 2 (ds := []) rfl ?_
    simp only [sx, ty, q1, q2, q5, q6, q7, q8, q9, qa, qb, reduceIte, sy, q3, q4]
    refine WO.callM (fun x : Option Addr × Nat => .slice x.1 (filtF y.1.1 left).length x.2) (fun lo x s8 => s.heap.size ≤ lo ∧ rDEs.rd (fun b => lo ≤ b) s8 [.slice x.1 (filtF y.1.1 left).length x.2] (filtF y.1.1 left)) (ds := []) rfl rfl rfl rfl co37 (fun ρ w1 hb => Gives.mono (without_spec (Rp.keep hrd (hb.at (S := Sx) (s := sX) (by simp only [St.put]; exact List.mem_cons_of_mem _ (List.mem_cons_of_mem _ hmx2)))) rfl hlpos (by omega)) fun r w9 _ ⟨x, h1, h2⟩ => ⟨x, h1, (hb.at (S := S) (s := s) (by simp [St.put])).size, h2⟩) fun x lo s8 hx => ?_
    obtain ⟨p7, c7⟩ := x
    obtain ⟨hlo, hx⟩ := hx
    simp only at hx
    refine WO.go 1 (ds := []) rfl ?_
    simp only [sx, ty, q1, q2, q5, q6, q7, q8, q9, qa, qb, reduceIte, sy, q3, q4]
    with_reducible refine WO.nil ?_
    refine hK6 _ ?_; clear hK6
    refine W.seqK fun K7 hK7 => W.region ?_
    refine WO.loadBox (k := 0) (i := 0) (sz := 2) rfl (ds := []) rfl rfl rfl rfl rfl (by simp [Addr.add_mid]) (by simp) agg61 sz61 (.inl rfl) ?_
    simp only [List.drop_succ_cons, List.drop_zero, List.take_succ_cons, List.take_zero, ofCells, Bool.false_eq_true, if_false, List.headD_cons, if_true, List.toList_toArray]
    refine WO.go 1 (ds := []) rfl ?_
    simp only [sx, ty, q1, q2, q5, q6, q7, q8, q9, qa, qb, reduceIte, sy, q3, q4]
    refine WO.callX (fun x : (Option Addr × Nat) × (Nat × Option Addr × Nat) × Bool => .tuple #[.slice x.1.1 (filtF y.1.1 left).length x.1.2, .slice x.2.1.2.1 x.2.1.1 x.2.1.2.2, .bool x.2.2]) (fun x => x.2.2 = true ↔ MeetL ((filtF y.1.1 left).map (fun z : DE => z.1)) cs) (ds := []) rfl rfl rfl rfl co23 (fun ρ w1 hb => met_de (Rp.keep hx (hb.at (by simp [St.put]))) (fun z hz => (hxe z (hmem z (filtF_mem.1 hz).1)).now (hb.at (S := fun _ => True) (s := w) (by simp [St.put]))) (Rp.keep hl2 (hb.at (S := fun _ => True) (s := w) (by simp [St.put]))) hvl hh h11) fun x hx9 => ?_
    obtain ⟨x1, x2, bm⟩ := x
    simp only at hx9
    rw [hfm] at hx9
    refine WO.go 7 (ds := []) rfl ?_
    simp only [sx, ty, q1, q2, q5, q6, q7, q8, q9, qa, qb, reduceIte, sy, q3, q4]
    with_reducible refine WO.nil ?_
    refine hK7 _ ?_; clear hK7
    refine W.pure (ds := []) rfl fun K8 hK8 => ?_
    simp only [sx, ty, q1, q2, q5, q6, q7, q8, q9, qa, qb, reduceIte, sy, q3, q4]; with_reducible refine hK8 _ ?_; clear hK8
    refine W.cond rfl rfl (fun hc => ?_) (fun hc => ?_)
    · skip
      have hnm : ¬ MeetL (withoutF (left.map (·.1)) y.1.1) cs := fun h => by rw [hx9.2 h] at hc; simp at hc
      refine W.region ?_
      refine WO.go 1 (ds := []) rfl ?_
      simp only [sx, ty, q1, q2, q5, q6, q7, q8, q9, qa, qb, reduceIte, sy, q3, q4]
      refine WO.storeBox (k := 1) (i := 0) rfl (ds := []) rfl rfl rfl rfl rfl (by simp [Addr.add_mid]) (by simp) rfl rfl sz22 ?_
      simp only [sx, ty, q1, q2, q5, q6, q7, q8, q9, qa, qb, reduceIte, sy, q3, q4]
      with_reducible refine WO.nil ?_
      refine hKr5 _ ?_
      refine ⟨(filtF y.1.1 left, p7, c7, [((fun b => lo ≤ b), s8)]), ⟨by simp only; rw [hdone, hfm]; exact hRI.cut hnm, fun z hz => hmem z (filtF_mem.1 hz).1, (fun b => lo ≤ b), s8, by simp, hx⟩, fun p hp b hb => ?_, ⟨rfl, by simp, ⟨_, by simp; rfl⟩, by simp [Own.bnd, bndL, bnd, boxO], fun p hp => by simp only [List.mem_cons, List.mem_append, List.not_mem_nil, or_false] at hp ⊢; rcases hp with h | h | h | h | h <;> simp [h]⟩⟩
      simp only [List.mem_singleton] at hp
      subst hp
      simp only at hb; omega
    · skip
      have hym : MeetL (withoutF (left.map (·.1)) y.1.1) cs := hx9.1 (by simpa using hc)
      refine W.skip (hKr5 _ ?_)
      refine ⟨(left, pL, cL, snx), ⟨by simp only; rw [hdone]; exact hRI.yes hym, hmem, Sx, sX, hmx, hrd⟩, hsL, ⟨rfl, by simp, ⟨_, by simp; rfl⟩, by simp [Own.bnd, bndL, bnd, boxO], fun p hp => by simp only [List.mem_cons, List.mem_append, List.not_mem_nil, or_false] at hp ⊢; rcases hp with h | h | h | h | h <;> simp [h]⟩⟩
  intro D1 s2 x hIx hM1
  obtain ⟨left, pL, cL, snx⟩ := x
  obtain ⟨hRI, hmem, Sx, sX, hmx, hrd⟩ := hIx
  simp only at hRI hmem hmx hrd
  refine hK3 _ ?_
  simp only [sx, ty, q1, q2, q5, q6, q7, q8, q9, qa, qb, reduceIte, sxk, sy, q3, q4]
  have hleft : (left.map (·.1)).length ≤ ds.length := hRI.sub.length_le
  rw [List.length_map] at hleft
  have hlpos : 0 < left.length := by
    rcases Nat.eq_zero_or_pos left.length with h | h
    · exact absurd (by rw [List.length_eq_zero_iff.1 h]; exact meet_nil cs) hRI.no
    · exact h
  have hmx2 : (Sx, sX) ∈ snx ++ [((fun b => b ∈ ([] : List Nat)), w), ((fun _ => True), w)] := by
    rcases List.mem_append.1 hmx with h | h
    · exact List.mem_append_left _ h
    · exact List.mem_append_right _ (List.mem_cons_of_mem _ h)
  have hid2 : ∀ x, x ∈ left → 1 ≤ x.1.1 ∧ x.1.1 ≤ 1000000 := fun x hx => hid x (hmem x hx)
  refine W.pure (ds := []) rfl fun K9 hK9 => ?_
  simp only [sx, ty, q1, q2, q5, q6, q7, q8, q9, qa, qb, reduceIte, sy, q3, q4]; with_reducible refine hK9 _ ?_; clear hK9
  refine W.seqK fun K10 hK10 => ?_
  refine W.ownNil 3 1 ?_
  simp only [sx, ty, Bool.false_eq_true, q1, q2, q5, q6, q7, q8, q9, qa, qb, reduceIte, St.pushO, List.cons_append, List.nil_append]
  refine W.seqK fun K11 hK11 => W.region ?_
  refine WO.loadBox (k := 1) (i := 0) (sz := 1) rfl (ds := []) rfl rfl rfl rfl rfl (by simp [Addr.add_mid]) (by simp) agg22 sz22 (.inr rfl) ?_
  simp only [List.drop_succ_cons, List.drop_zero, List.take_succ_cons, List.take_zero, ofCells, Bool.false_eq_true, if_false, List.headD_cons, if_true, List.toList_toArray]
  simp only [sx, ty, q1, q2, q5, q6, q7, q8, q9, qa, qb, reduceIte, sy, q3, q4]
  refine WO.callN (fun x : List DE × Nat × Option Addr × Nat => .func (.func 78) #[] #[.pointer (some ⟨x.2.1, 0, none⟩)]) (fun x => [ODN left.length x.1 x.2.2, boxO 22 x.2.1 [.slice x.2.2.1 left.length x.2.2.2]]) (fun x => x.1.Perm left ∧ ∀ a b, a < b → b < left.length → idA x.1 b ≤ idA x.1 a) (ds := []) rfl rfl rfl rfl co41 (by intro x o ho; simp at ho; rcases ho with rfl | rfl <;> rfl) (fun ρ w1 hb => falling_spec (Rp.keep hrd (hb.at (S := Sx) (s := sX) (by simp only [St.put]; exact List.mem_cons_of_mem _ hmx2))) rfl hlpos (by omega) hid2) fun x hp2 => ?_
  obtain ⟨l2, bG, qG, cG9⟩ := x
  simp only at hp2
  obtain ⟨hp2, hs2⟩ := hp2
  have hl2n : l2.length = left.length := hp2.length_eq
  simp only [sx, ty, q1, q2, q5, q6, q7, q8, q9, qa, qb, reduceIte, sy, q3, q4]
  with_reducible refine WO.nil ?_
  refine hK11 _ ?_; clear hK11
  refine W.block ?_
  refine W.pinA (by simp [smallO, boxO, ODN]) fun β2 => ?_
  obtain ⟨b2, hb2⟩ : ∃ b2, β2 2 = b2 := ⟨_, rfl⟩
  simp only [pinEn, pinOw, pinOw_box, den, denL, Nat.zero_add, Nat.reduceAdd, hb2]
  refine W.rangeX (X := List Int × Option Addr × Nat) (w0 := w) (s0 := s2) left.length (valD l2) [11] (fun x => [boxO 61 b0 [.slice p2 cs.length c2, .int .i64 hall], boxO 22 b1 [.slice pL left.length cL], boxO 27 b2 [.slice x.2.1 x.1.length x.2.2], OI x.1 x.2]) (fun x => []) (fun k x => x.1 = (l2.take k).map (fun z : DE => z.1.1)) ([], none, 0) [ODN left.length l2 (qG, cG9), boxO 22 bG [.slice qG left.length cG9]] (fun k x => [(12, .loc 4 0), (11, .val (.pointer (some ⟨b2, 0, none⟩)))]) (fun k x => [.cells 41 [.val (.int .i64 (l2.getD k ((0, 0, 0, []), none, 0)).1.1), .val (.int .i64 (l2.getD k ((0, 0, 0, []), none, 0)).1.2.1), .val (.int .i64 (l2.getD k ((0, 0, 0, []), none, 0)).1.2.2.1), .val (.slice (l2.getD k ((0, 0, 0, []), none, 0)).2.1 (l2.getD k ((0, 0, 0, []), none, 0)).1.2.2.2.length (l2.getD k ((0, 0, 0, []), none, 0)).2.2)]]) [D1] rfl (by kernel_rfl) (by simp [keepE, getE, kp2, bnd]) rfl ?_ (by show 33 < 42; decide) rfl rfl ?_ ?_ ?_ (by simp) (by simp) hM1 ?_
  · intro x o ho; simp only [List.cons_append, List.nil_append, List.mem_cons, List.not_mem_nil, or_false] at ho
    rcases ho with rfl | rfl | rfl | rfl | rfl | rfl <;> rfl
  · intro ρ w1 hb w2 hk hlt hap
    have hq9 : rDEs.rd (fun b => (ODN left.length l2 (qG, cG9)).num ρ 4 = some b) w1 [.slice qG left.length cG9] l2 := own_slice (A := rDE) (k := 4) hb rfl hl2n.symm (fun b h => h) (des_read l2)
    refine values1_iter (S := fun b => (ODN left.length l2 (qG, cG9)).num ρ 4 = some b) ((box_at (k := 5) (b := bG) hb rfl).frame (hk.block bG trivial (own_old (j := 5) hb rfl rfl))) (Nat.lt_of_lt_of_le (own_old (j := 5) hb rfl rfl) hk.size) (Rp.now hq9 hk) (fun b9 hS9 _ => apart_of (own0 := [boxO 61 b0 [.slice p2 cs.length c2, .int .i64 hall], boxO 22 b1 [.slice pL left.length cL], boxO 27 b2 [.slice none 0 0], OI [] (none, 0)]) (it := [ODN left.length l2 (qG, cG9), boxO 22 bG [.slice qG left.length cG9]]) (by first | rfl | (simp only [hxn]; rfl)) hlt hap (j := 4) (o := ODN left.length l2 (qG, cG9)) rfl (Nat.le_refl _) (by rw [freeO_num rfl (fun _ => 0) ρ 0 4]; exact hS9)) (apart_of (own0 := [boxO 61 b0 [.slice p2 cs.length c2, .int .i64 hall], boxO 22 b1 [.slice pL left.length cL], boxO 27 b2 [.slice none 0 0], OI [] (none, 0)]) (it := [ODN left.length l2 (qG, cG9), boxO 22 bG [.slice qG left.length cG9]]) (by first | rfl | (simp only [hxn]; rfl)) hlt hap (j := 5) (o := boxO 22 bG [.slice qG left.length cG9]) rfl (by simp) rfl) hl2n (by omega)
  · intro ll k x S sw hk
    simp only [valD, deA]
    refine W.region ?_
    refine WO.go 2 (ds := []) rfl ?_
    simp only [sx, ty, q1, q2, q5, q6, q7, q8, q9, qa, qb, reduceIte, sxk, sy, q3, q4]
    with_reducible refine WO.nil ?_
    exact ⟨rfl, by simp [getE, bnd, keepE, kp2], ⟨[], by simp⟩, by simp [Own.bnd, bndL, bnd, boxO, OI], by simp⟩
  · intro ll k x L S s S2 s20 hk hIx hsL hLs hLS
    obtain ⟨ids, pI, cI⟩ := x
    simp only at hIx hLS
    obtain ⟨y, hy⟩ := len_lt hl2n hk
    have hyd : l2.getD k ((0, 0, 0, []), none, 0) = y := by rw [List.getD_eq_getElem?_getD, hy]; rfl
    simp only [hyd]
    have hidl : ids.length ≤ 12 := by rw [hIx]; simp; omega
    have hdone : (l2.take (k + 1)).map (fun z : DE => z.1.1) = (l2.take k).map (fun z : DE => z.1.1) ++ [y.1.1] := take_map_snoc (fun z : DE => z.1.1) l2 hy
    have hKr12 : ∀ t, (∃ x' : List Int × Option Addr × Nat, (fun k x => x.1 = (l2.take k).map (fun z : DE => z.1.1)) (k + 1) x' ∧ (∀ p, p ∈ ([] : List ((Nat → Prop) × World)) → ∀ b, p.1 b → L ≤ b) ∧ Le t ⟨42, [], [boxO 61 b0 [.slice p2 cs.length c2, .int .i64 hall], boxO 22 b1 [.slice pL left.length cL], boxO 27 b2 [.slice x'.2.1 x'.1.length x'.2.2], OI x'.1 x'.2], (S, s) :: (S2, s20) :: ([] ++ (((fun b => b ∈ [D1]), s2) :: (snx ++ [((fun b => b ∈ ([] : List Nat)), w), ((fun _ => True), w)]))), []⟩) → (onN fun t => (∃ x' : List Int × Option Addr × Nat, (fun k x => x.1 = (l2.take k).map (fun z : DE => z.1.1)) (k + 1) x' ∧ (∀ p, p ∈ ([] : List ((Nat → Prop) × World)) → ∀ b, p.1 b → L ≤ b) ∧ Le t ⟨42, [], [boxO 61 b0 [.slice p2 cs.length c2, .int .i64 hall], boxO 22 b1 [.slice pL left.length cL], boxO 27 b2 [.slice x'.2.1 x'.1.length x'.2.2], OI x'.1 x'.2], (S, s) :: (S2, s20) :: ([] ++ (((fun b => b ∈ [D1]), s2) :: (snx ++ [((fun b => b ∈ ([] : List Nat)), w), ((fun _ => True), w)]))), []⟩)) .normal t := fun t h => h
    refine W.block ?_
    refine W.region ?_
    refine WO.loadBox (k := 2) (i := 0) (sz := 1) rfl (ds := []) rfl rfl rfl rfl rfl (by simp [Addr.add_mid]) (by simp) agg27 sz27 (.inr rfl) ?_
    simp only [List.drop_succ_cons, List.drop_zero, List.take_succ_cons, List.take_zero, ofCells, Bool.false_eq_true, if_false, List.headD_cons, if_true, List.toList_toArray]
    refine WO.go 3 (ds := []) rfl ?_
    simp only [sx, ty, q1, q2, q5, q6, q7, q8, q9, qa, qb, reduceIte, sy, q3, q4]
    refine WO.append (k := 3) (m := 1) [.int .i64 y.1.1] (ds := []) rfl rfl rfl rfl rfl rfl rfl ek27 (news_own (k2 := 5) rfl fun _ => rfl) rfl (by simp [Value.oneCell']) (by rw [maxLen_eq]; omega) (by omega) fun p6 c6 => ?_
    simp only [sx, ty, q1, q2, q5, q6, q7, q8, q9, qa, qb, reduceIte, sy, q3, q4]
    refine WO.storeBox (k := 2) (i := 0) rfl (ds := []) rfl rfl rfl rfl rfl (by simp [Addr.add_mid]) (by simp) rfl rfl sz27 ?_
    simp only [sx, ty, q1, q2, q5, q6, q7, q8, q9, qa, qb, reduceIte, sy, q3, q4]
    with_reducible refine WO.nil ?_
    refine hKr12 _ ?_
    refine ⟨(ids ++ [y.1.1], p6, c6), by simp only; rw [hdone, hIx], (fun p hp => by cases hp), ⟨rfl, by simp, ⟨_, by simp [OI]; rfl⟩, by simp [Own.bnd, bndL, bnd, boxO, OI], fun p hp => by simp only [List.nil_append] at hp ⊢; exact hp⟩⟩
  intro D2 s3 x hIx hM2
  obtain ⟨ids, pI, cI⟩ := x
  simp only at hIx
  refine hK10 _ ?_
  simp only [sx, ty, q1, q2, q5, q6, q7, q8, q9, qa, qb, reduceIte, sxk, sy, q3, q4]
  rw [← hl2n, List.take_length] at hIx
  have hidl : ids.length = left.length := by rw [hIx]; simp [hl2n]
  refine W.seqK fun K13 hK13 => W.region ?_
  refine WO.loadBox (k := 2) (i := 0) (sz := 1) rfl (ds := []) rfl rfl rfl rfl rfl (by simp [Addr.add_mid]) (by simp) agg27 sz27 (.inr rfl) ?_
  simp only [List.drop_succ_cons, List.drop_zero, List.take_succ_cons, List.take_zero, ofCells, Bool.false_eq_true, if_false, List.headD_cons, if_true, List.toList_toArray]
  simp only [sx, ty, q1, q2, q5, q6, q7, q8, q9, qa, qb, reduceIte, sy, q3, q4]
  refine WO.callL (own := [OIN ids.length ids (pI, cI)]) [3] (fun _ : Unit => .tuple #[]) (fun _ => [OIN ids.length ids.reverse (pI, cI)]) (fun _ _ _ => True) (ds := []) rfl rfl rfl rfl co42 ⟨rfl, trivial⟩ (by decide) rfl (fun _ => rfl) (fun _ => rfl) (fun ρ w1 hb hlie => Calls.mono (reverse_spec rfl (by omega) (by omega) hlie) fun e w2 ⟨v, he, hk, h1, h2⟩ => ⟨v, he, hk, (), h1, trivial, h2⟩) fun _ lo s8 _ => ?_
  simp only [sx, ty, q1, q2, q5, q6, q7, q8, q9, qa, qb, reduceIte, sy, q3, q4]
  with_reducible refine WO.nil ?_
  refine hK13 _ ?_; clear hK13
  refine W.seqK fun K14 hK14 => W.region ?_
  refine WO.loadBox (k := 2) (i := 0) (sz := 1) rfl (ds := []) rfl rfl rfl rfl rfl (by simp [Addr.add_mid]) (by simp) agg27 sz27 (.inr rfl) ?_
  simp only [List.drop_succ_cons, List.drop_zero, List.take_succ_cons, List.take_zero, ofCells, Bool.false_eq_true, if_false, List.headD_cons, if_true, List.toList_toArray]
  refine WO.go 1 (ds := []) rfl ?_
  simp only [sx, ty, q1, q2, q5, q6, q7, q8, q9, qa, qb, reduceIte, sy, q3, q4]
  with_reducible refine WO.nil ?_
  refine hK14 _ ?_; clear hK14
  refine W.ret ?_
  refine ⟨by simp, ⟨[D2, D1], s3, rfl, by simp, hM2⟩, RunR.ex ?_⟩
  simp only [sx, ty, q1, q2, q5, q6, q7, q8, q9, qa, qb, reduceIte, sxr, sy, q3, q4]
  intro ρ w1 hb
  refine ⟨(ids.reverse, pI, cI), by simp only [den, List.length_reverse], ?_, ?_⟩
  · refine RI.done hRI (fun x hx => ?_) ?_ ?_
    · rw [← hxm] at hx
      obtain ⟨z, hz, rfl⟩ := List.mem_map.1 hx
      rw [← hl1n, List.take_length]
      exact List.mem_map.2 ⟨z, hp1.mem_iff.2 hz, rfl⟩
    · rw [List.pairwise_reverse, hIx]
      refine sorted_all (fun a b h1 h2 => hs2 a b h1 (by omega)) ?_
      refine ((hp2.map _).nodup_iff).2 ?_
      have h9 := (valid_mem hv).2.2.1.sublist (hRI.sub.map _)
      simpa [Function.comp_def] using h9
    · refine (List.reverse_perm ids).trans ?_
      rw [hIx, List.map_map]
      exact hp2.map _
  · simp only [List.length_reverse]
    exact own_slice (A := rInt) (k := 3) (n := ids.length) hb rfl (by simp) (fun b hb' => own_new hb (by simp) (k := 3) rfl hb') (ints_read ids.reverse)
end Go.Proofs.YtolmeekbjonbcaaGreat
set_option linter.unusedVariables false
set_option linter.unusedSimpArgs false
set_option maxHeartbeats 1000000
namespace Go.Proofs.YtolmeekbjonbcaaGreat
open Int renaming reduceEq → q1, reduceLT → q2, reduceBEq → q3, reduceBNe → q4
open Nat renaming reduceAdd → q5, reduceSub → q6, reduceMul → q7, reduceLT → q8, reduceLeDiff → q9, reduceEqDiff → qa
open List renaming reduceReplicate → qb
open Go Go.SX Go.RowKit
/-- what a demand is given: Demand, Copy, Cost -/
abbrev Giv := Int × Int × Int
def rGiv : Rp Giv := Rp.pair rInt (Rp.pair rInt rInt)
abbrev rGivs : Rp (List Giv) := Rp.slice rGiv
theorem rGiv_open {S : Nat → Prop} {w : World} {ces : List Value} {d : Giv} (h : rGiv.rd S w ces d) : ces = [.int .i64 d.1, .int .i64 d.2.1, .int .i64 d.2.2] := by
  obtain ⟨c1, c2, rfl, h1, d1, d2, rfl, h2, h3⟩ := h
  have h1 : c1 = [.int .i64 d.1] := h1
  have h2 : d1 = [.int .i64 d.2.1] := h2
  have h3 : d2 = [.int .i64 d.2.2] := h3
  subst h1; subst h2; subst h3
  rfl
def gV (g : Giv) : List Value := [.int .i64 g.1, .int .i64 g.2.1, .int .i64 g.2.2]
def gsV (l : List Giv) : List Value := l.flatMap gV
theorem gsV_app (a b : List Giv) : gsV (a ++ b) = gsV a ++ gsV b := List.flatMap_append
theorem gsV_at : ∀ (xs : List Giv) (i : Nat) (y : Giv), xs[i]? = some y → ((gsV xs).drop (i * 3)).take 3 = gV y
  | [], i, y, h => by simp at h
  | x :: xs, 0, y, h => by
    simp only [List.getElem?_cons_zero, Option.some.injEq] at h
    subst h
    rfl
  | x :: xs, i + 1, y, h => by
    have h1 := gsV_at xs i y (by simpa using h)
    have h2 : (gsV (x :: xs)).drop ((i + 1) * 3) = (gsV xs).drop (i * 3) := by
      show (gV x ++ gsV xs).drop _ = _
      rw [List.drop_append, List.drop_eq_nil_of_le (by simp [gV]; omega), List.nil_append]
      congr 1
      simp [gV]; omega
    rw [h2, h1]
theorem gs_read {S : Nat → Prop} {w : World} (xs : List Giv) : ∀ i y, xs[i]? = some y → rGiv.rd S w (((gsV xs).drop (i * rGiv.sz)).take rGiv.sz) y := fun i y hy => by
  have h := gsV_at xs i y hy
  show rGiv.rd S w (((gsV xs).drop (i * 3)).take 3) y
  rw [h]
  exact ⟨[_], _, rfl, rfl, [_], _, rfl, rfl, rfl⟩
/-- what is given to the demand at i -/
def givF (ds : List Dem) (cs : List Cop) (hall : Int) (at' : List Nat) (i : Nat) : Giv := ((ds.getD i (0, 0, 0, [])).1, (cs.getD (at'.getD i 0) (0, 0, 0, 0)).1, CF ds cs hall i (at'.getD i 0))
def planL (ds : List Dem) (cs : List Cop) (hall : Int) (at' : List Nat) (k : Nat) : List Giv := (List.range k).map (givF ds cs hall at')
theorem planL_len (ds : List Dem) (cs : List Cop) (hall : Int) (at' : List Nat) (k : Nat) : (planL ds cs hall at' k).length = k := by simp [planL]
theorem planL_succ (ds : List Dem) (cs : List Cop) (hall : Int) (at' : List Nat) (k : Nat) : planL ds cs hall at' (k + 1) = planL ds cs hall at' k ++ [givF ds cs hall at' k] := by simp [planL, List.range_succ]
/-- function 8 -/
theorem plan_no {S S2 : Nat → Prop} {w : World} {p0 p2 : Option Addr} {c0 c2 : Nat} {ds : List Dem} {cs : List Cop} {hall : Int} (hl : rDems.rd S w [.slice p0 ds.length c0] ds) (hl2 : rCops.rd S2 w [.slice p2 cs.length c2] cs) (hv : valid ds cs = true) (hh : within 0 99 hall = true) (h11 : cs.length ≤ 11) (hd12 : ds.length ≤ 12) (hno : ¬ MeetL ds cs) : Gives Tryz.prog 8 #[.slice p0 ds.length c0, .slice p2 cs.length c2, .int .i64 hall] w fun r w' => ∃ x : List Int × Option Addr × Nat, r = .tuple #[.slice none 0 0, .slice x.2.1 x.1.length x.2.2, .bool false, .int .i64 0] ∧ RefP ds cs x.1 ∧ rInts.rd (fun b => w.heap.size ≤ b) w' [.slice x.2.1 x.1.length x.2.2] x.1 := by
  have hl : (Rp.slice rDem).rd (fun _ => True) w _ ds := Rp.any hl
  have hl2 : (Rp.slice rCop).rd (fun _ => True) w _ cs := Rp.any hl2
  refine gives_of [.val (.slice p0 ds.length c0), .val (.slice p2 cs.length c2), .val (.int .i64 hall)] 74 [.tmp 6, .tmp 7, .tmp 8, .tmp 9] Tryz.func8 rfl rfl rfl (by simp) rfl rfl ?_
  refine W.pure (ds := []) rfl fun K1 hK1 => ?_
  simp only [sx, ty, q1, q2, q5, q6, q7, q8, q9, qa, qb, reduceIte, sy, q3, q4]; with_reducible refine hK1 _ ?_; clear hK1
  refine W.seqK fun K2 hK2 => ?_
  refine W.seqK fun K3 hK3 => W.region ?_
  refine WO.go 3 (ds := []) rfl ?_
  simp only [sx, ty, q1, q2, q5, q6, q7, q8, q9, qa, qb, reduceIte, sy, q3, q4]
  refine WO.callX (fun x : Option Addr × Nat => .tuple #[.slice x.1 ds.length x.2, .int .i64 0]) (fun _ => True) (ds := []) rfl rfl rfl rfl co13 (fun ρ w1 hb => Gives.mono (costs2_spec (Rp.now hl (hb.first (by simp))) (Rp.now hl2 (hb.first (by simp))) hv hh) fun r w9 _ ⟨x, h1, _⟩ => ⟨x, h1, trivial⟩) fun x _ => ?_
  refine WO.go 5 (ds := []) rfl ?_
  simp only [sx, ty, q1, q2, q5, q6, q7, q8, q9, qa, qb, reduceIte, sy, q3, q4]
  with_reducible refine WO.nil ?_
  refine hK3 _ ?_; clear hK3
  refine W.pure (ds := []) rfl fun K4 hK4 => ?_
  simp only [sx, ty, q1, q2, q5, q6, q7, q8, q9, qa, qb, reduceIte, sy, q3, q4]; with_reducible refine hK4 _ ?_; clear hK4
  refine W.cond rfl rfl (fun hc => ?_) (fun hc => ?_)
  · skip
    simp at hc
  · skip
    refine W.skip (hK2 _ ?_)
    refine W.pure (ds := []) rfl fun K5 hK5 => ?_
    simp only [sx, ty, q1, q2, q5, q6, q7, q8, q9, qa, qb, reduceIte, sy, q3, q4]; with_reducible refine hK5 _ ?_; clear hK5
    refine W.seqK fun K6 hK6 => W.region ?_
    refine WO.go 2 (ds := []) rfl ?_
    simp only [sx, ty, q1, q2, q5, q6, q7, q8, q9, qa, qb, reduceIte, sy, q3, q4]
    refine WO.callX (fun x : Option Addr × Nat => .tuple #[.slice x.1 ds.length x.2, .slice none 0 0, .bool false]) (fun _ => True) (ds := []) rfl rfl rfl rfl co23 (fun ρ w1 hb => Gives.mono (met_none (Rp.now hl (hb.first (by simp [St.put]))) (Rp.now hl2 (hb.first (by simp [St.put]))) hv hh h11 hno) fun r w9 _ ⟨x, h1⟩ => ⟨x, h1, trivial⟩) fun x _ => ?_
    refine WO.go 7 (ds := []) rfl ?_
    simp only [sx, ty, q1, q2, q5, q6, q7, q8, q9, qa, qb, reduceIte, sy, q3, q4]
    with_reducible refine WO.nil ?_
    refine hK6 _ ?_; clear hK6
    refine W.seqK fun K7 hK7 => ?_
    refine W.pure (ds := []) rfl fun K8 hK8 => ?_
    simp only [sx, ty, q1, q2, q5, q6, q7, q8, q9, qa, qb, reduceIte, sy, q3, q4]; with_reducible refine hK8 _ ?_; clear hK8
    refine W.cond rfl rfl (fun hc => ?_) (fun hc => ?_)
    rotate_left
    · skip
      simp at hc
    · skip
      refine W.seqK fun K9 hK9 => W.region ?_
      refine WO.go 2 (ds := []) rfl ?_
      simp only [sx, ty, q1, q2, q5, q6, q7, q8, q9, qa, qb, reduceIte, sy, q3, q4]
      refine WO.callM (fun x : List Int × Option Addr × Nat => .slice x.2.1 x.1.length x.2.2) (fun lo x s8 => w.heap.size ≤ lo ∧ RefP ds cs x.1 ∧ rInts.rd (fun b => lo ≤ b) s8 [.slice x.2.1 x.1.length x.2.2] x.1) (ds := []) rfl rfl rfl rfl co24 (fun ρ w1 hb => Gives.mono (refusal_spec (Rp.now hl (hb.first (by simp [St.put]))) (Rp.now hl2 (hb.first (by simp [St.put]))) hv hh h11 hd12 hno) fun r w9 _ ⟨x, h1, h2, h3⟩ => ⟨x, h1, (hb.at (S := fun _ => True) (s := w) (by simp [St.put])).size, h2, h3⟩) fun x lo s8 hx => ?_
      obtain ⟨hlo, hx1, hx2⟩ := hx
      refine WO.go 4 (ds := []) rfl ?_
      simp only [sx, ty, q1, q2, q5, q6, q7, q8, q9, qa, qb, reduceIte, sy, q3, q4]
      with_reducible refine WO.nil ?_
      refine hK9 _ ?_; clear hK9
      refine W.ret ⟨by simp, _, rfl, fun ρ w1 hb => ?_⟩
      exact ⟨x, rfl, hx1, Rp.mono _ (Rp.keep hx2 (hb.at (by simp [St.put]))) fun b h _ => by omega⟩
/-- function 8 -/
theorem plan_yes {S S2 : Nat → Prop} {w : World} {p0 p2 : Option Addr} {c0 c2 : Nat} {ds : List Dem} {cs : List Cop} {hall : Int} (hl : rDems.rd S w [.slice p0 ds.length c0] ds) (hl2 : rCops.rd S2 w [.slice p2 cs.length c2] cs) (hv : valid ds cs = true) (hh : within 0 99 hall = true) (h11 : cs.length ≤ 11) (hd12 : ds.length ≤ 12) (hm : MeetL ds cs) : Gives Tryz.prog 8 #[.slice p0 ds.length c0, .slice p2 cs.length c2, .int .i64 hall] w fun r w' => ∃ x : List Nat × Option Addr × Nat, r = .tuple #[.slice x.2.1 ds.length x.2.2, .slice none 0 0, .bool true, .int .i64 0] ∧ BP ds cs hall x.1 ∧ rGivs.rd (fun b => w.heap.size ≤ b) w' [.slice x.2.1 ds.length x.2.2] (planL ds cs hall x.1 ds.length) := by
  have hl : (Rp.slice rDem).rd (fun _ => True) w _ ds := Rp.any hl
  have hl2 : (Rp.slice rCop).rd (fun _ => True) w _ cs := Rp.any hl2
  refine gives_of [.val (.slice p0 ds.length c0), .val (.slice p2 cs.length c2), .val (.int .i64 hall)] 74 [.tmp 6, .tmp 7, .tmp 8, .tmp 9] Tryz.func8 rfl rfl rfl (by simp) rfl rfl ?_
  refine W.pure (ds := []) rfl fun K1 hK1 => ?_
  simp only [sx, ty, q1, q2, q5, q6, q7, q8, q9, qa, qb, reduceIte, sy, q3, q4]; with_reducible refine hK1 _ ?_; clear hK1
  refine W.seqK fun K2 hK2 => ?_
  refine W.seqK fun K3 hK3 => W.region ?_
  refine WO.go 3 (ds := []) rfl ?_
  simp only [sx, ty, q1, q2, q5, q6, q7, q8, q9, qa, qb, reduceIte, sy, q3, q4]
  refine WO.callX (fun x : Option Addr × Nat => .tuple #[.slice x.1 ds.length x.2, .int .i64 0]) (fun _ => True) (ds := []) rfl rfl rfl rfl co13 (fun ρ w1 hb => Gives.mono (costs2_spec (Rp.now hl (hb.first (by simp))) (Rp.now hl2 (hb.first (by simp))) hv hh) fun r w9 _ ⟨x, h1, _⟩ => ⟨x, h1, trivial⟩) fun x _ => ?_
  refine WO.go 5 (ds := []) rfl ?_
  simp only [sx, ty, q1, q2, q5, q6, q7, q8, q9, qa, qb, reduceIte, sy, q3, q4]
  with_reducible refine WO.nil ?_
  refine hK3 _ ?_; clear hK3
  refine W.pure (ds := []) rfl fun K4 hK4 => ?_
  simp only [sx, ty, q1, q2, q5, q6, q7, q8, q9, qa, qb, reduceIte, sy, q3, q4]; with_reducible refine hK4 _ ?_; clear hK4
  refine W.cond rfl rfl (fun hc => ?_) (fun hc => ?_)
  · skip
    simp at hc
  · skip
    refine W.skip (hK2 _ ?_)
    refine W.pure (ds := []) rfl fun K5 hK5 => ?_
    simp only [sx, ty, q1, q2, q5, q6, q7, q8, q9, qa, qb, reduceIte, sy, q3, q4]; with_reducible refine hK5 _ ?_; clear hK5
    refine W.seqK fun K6 hK6 => W.region ?_
    refine WO.go 2 (ds := []) rfl ?_
    simp only [sx, ty, q1, q2, q5, q6, q7, q8, q9, qa, qb, reduceIte, sy, q3, q4]
    refine WO.callM (fun x : List Nat × (Option Addr × Nat) × Option Addr × Nat => .tuple #[.slice x.2.1.1 ds.length x.2.1.2, .slice x.2.2.1 ds.length x.2.2.2, .bool true]) (fun lo x s8 => w.heap.size ≤ lo ∧ BP ds cs hall x.1 ∧ rRows.rd (fun b => lo ≤ b) s8 [.slice x.2.1.1 ds.length x.2.1.2] (costsF ds cs hall) ∧ rInts.rd (fun b => lo ≤ b) s8 [.slice x.2.2.1 ds.length x.2.2.2] (x.1.map Int.ofNat)) (ds := []) rfl rfl rfl rfl co23 (fun ρ w1 hb => Gives.mono (met_some (Rp.now hl (hb.first (by simp [St.put]))) (Rp.now hl2 (hb.first (by simp [St.put]))) hv hh h11 hm) fun r w9 _ ⟨x, h1, h2, h3, h4⟩ => ⟨x, h1, (hb.at (S := fun _ => True) (s := w) (by simp [St.put])).size, h2, h3, h4⟩) fun x lo s8 hx => ?_
    obtain ⟨at9, ⟨px, cx⟩, py, cy⟩ := x
    obtain ⟨hlo, hB, hx, hy⟩ := hx
    simp only at hB hx hy
    have hr2 := (valid_mem hv).1
    refine WO.go 7 (ds := []) rfl ?_
    simp only [sx, ty, q1, q2, q5, q6, q7, q8, q9, qa, qb, reduceIte, sy, q3, q4]
    with_reducible refine WO.nil ?_
    refine hK6 _ ?_; clear hK6
    refine W.seqK fun K7 hK7 => ?_
    refine W.pure (ds := []) rfl fun K8 hK8 => ?_
    simp only [sx, ty, q1, q2, q5, q6, q7, q8, q9, qa, qb, reduceIte, sy, q3, q4]; with_reducible refine hK8 _ ?_; clear hK8
    refine W.cond rfl rfl (fun hc => ?_) (fun hc => ?_)
    · skip
      simp at hc
    · skip
      refine W.skip (hK7 _ ?_)
      refine W.seqK fun K9 hK9 => ?_
      refine W.pure (ds := []) rfl fun K10 hK10 => ?_
      simp only [sx, ty, q1, q2, q5, q6, q7, q8, q9, qa, qb, reduceIte, sy, q3, q4]; with_reducible refine hK10 _ ?_; clear hK10
      refine W.block ?_
      refine W.ownNil 39 3 ?_
      simp only [sx, ty, Bool.false_eq_true, q1, q2, q5, q6, q7, q8, q9, qa, qb, reduceIte, St.pushO, List.cons_append, List.nil_append]
      refine W.loopO (X := Nat × Option Addr × Nat) [1, 13, 14, 41, 42] (fun x => [(6, .val (.slice x.2.1 x.1 x.2.2)), (43, .val (.int .i64 (x.1 : Int)))]) (fun x => [.cells 61 [.val (.slice p2 cs.length c2), .val (.int .i64 hall)], .slice 39 3 (.slice x.2.1 x.1 x.2.2) x.1 (gsV (planL ds cs hall at9 x.1))]) (fun x => [((fun b => lo ≤ b), s8), ((fun _ => True), w)]) (fun x => x.1 ≤ ds.length) (fun x => ds.length - x.1) (0, none, 0) ?_ ?_ ?_
      · exact ⟨rfl, by simp [getE, bnd, keepE], ⟨[], by simp [planL, gsV]⟩, by simp [Own.bnd, bndL, bnd, boxO], by simp⟩
      · skip
        exact Nat.zero_le _
      · rintro ⟨i, pq, cq⟩ hi
        simp only at hi
        simp only [sx, ty, q1, q2, q5, q6, q7, q8, q9, qa, qb, reduceIte, sxk, sy, q3, q4]
        refine W.pure (ds := []) rfl fun K11 hK11 => ?_
        simp only [sx, ty, q1, q2, q5, q6, q7, q8, q9, qa, qb, reduceIte, sy, q3, q4]; with_reducible refine hK11 _ ?_; clear hK11
        refine W.seqK fun K12 hK12 => ?_
        refine W.cond rfl rfl (fun hc => ?_) (fun hc => ?_)
        · skip
          have hlt : i < ds.length := by simpa using hc
          obtain ⟨d, hd⟩ := len_lt (rfl : ds.length = _) hlt
          obtain ⟨k, hk⟩ : ∃ k, at9.getD i 0 = k := ⟨_, rfl⟩
          have hkm := hB.mat.lt i hlt
          simp only [hk] at hkm
          rw [costs_wide (by rintro rfl; simp at hlt)] at hkm
          obtain ⟨c, hcc⟩ := len_lt (rfl : cs.length = _) hkm
          have hgk := at_get hB.len hlt
          rw [hk] at hgk
          have hrow : (costsF ds cs hall)[i]? = some (cs.map fun c => costF d c hall) := by simp [costsF, hd]
          have hent : (cs.map fun c => costF d c hall)[k]? = some (costF d c hall) := by simp [hcc]
          have hgiv : givF ds cs hall at9 i = (d.1, c.1, costF d c hall) := by
            unfold givF
            rw [hk, getD_some hd, getD_some hcc, show CF ds cs hall i k = costF d c hall from cF_costs hd hcc]
          refine W.skip (hK12 _ ?_)
          refine W.seqK fun K13 hK13 => ?_
          refine W.block ?_
          refine W.seqK fun K14 hK14 => W.region ?_
          refine WO.go 1 (ds := []) rfl ?_
          simp only [sx, ty, q1, q2, q5, q6, q7, q8, q9, qa, qb, reduceIte, sy, q3, q4]
          refine WO.elem (y := d) hl (by simp [St.put]) (ds := []) rfl rfl rfl (by simp [St.put]) (fun _ => rfl) rfl rfl rfl rfl rfl el22 agg41 sz41 (.inl rfl) (by omega) (hd) fun p ces hces => ?_
          obtain ⟨p5, c5, rfl, hed, hel⟩ := rDem_open hces
          clear hces
          refine WO.go 3 (ds := []) rfl ?_
          simp only [sx, ty, q1, q2, q5, q6, q7, q8, q9, qa, qb, reduceIte, sy, q3, q4]
          with_reducible refine WO.nil ?_
          refine hK14 _ ?_; clear hK14
          refine W.regionT' 22 [0] [1, 2, 3, 4, 5, 6, 7, 8, 9, 10, 11, 12, 13, 14, 15, 16, 17, 18, 19, 20, 21] mixed (by kernel_rfl) ?_
          simp only [sx, ty, q1, q2, q5, q6, q7, q8, q9, qa, qb, reduceIte, sxt, List.toList_toArray, sy, q3, q4]
          refine WQ.go 5 (ds := []) rfl ?_
          simp only [sx, ty, q1, q2, q5, q6, q7, q8, q9, qa, qb, reduceIte, sxq, sy, q3, q4]
          refine WQ.elem (y := (k : Int)) hy (by simp [St.put]) (ds := []) rfl rfl rfl (by simp [St.put]) (fun _ => rfl) rfl rfl rfl rfl rfl el27 agg3 sz3 (.inr rfl) (by omega) (hgk) fun p ces hces => ?_
          obtain rfl := rInt_open hces
          clear hces
          simp only [sx, ty, q1, q2, q5, q6, q7, q8, q9, qa, qb, reduceIte, sy, q3, q4]
          refine WQ.elemF (y := c) hl2 (by simp [St.put]) (ds := []) rfl rfl rfl (by simp [St.put]) (fun _ => rfl) rfl (by simp [St.put]) (fun _ _ => rfl) rfl rfl rfl rfl rfl rfl el23 fo45_0 agg3 sz3 (by decide) (.inr rfl) (by omega) (hcc) fun p q ces hces => ?_
          obtain rfl := rCop_open hces
          clear hces
          refine WQ.go 2 (ds := []) rfl ?_
          simp only [sx, ty, q1, q2, q5, q6, q7, q8, q9, qa, qb, reduceIte, sxq, sy, q3, q4]
          refine WQ.elem (y := (cs.map fun c => costF d c hall)) hx (by simp [St.put]) (ds := []) rfl rfl rfl (by simp [St.put]) (fun _ => rfl) rfl rfl rfl rfl rfl el36 agg27 sz27 (.inr rfl) (by omega) (hrow) fun p ces hces => ?_
          obtain ⟨p9, c9, rfl, hc5, hc6⟩ := rInts_open hces
          have hces1 := hces
          clear hces
          simp only [List.length_map] at hc5 hces1 ⊢
          refine WQ.go 2 (ds := []) rfl ?_
          simp only [sx, ty, q1, q2, q5, q6, q7, q8, q9, qa, qb, reduceIte, sxq, sy, q3, q4]
          refine WQ.elem (y := (k : Int)) hy (by simp [St.put]) (ds := []) rfl rfl rfl (by simp [St.put]) (fun _ => rfl) rfl rfl rfl rfl rfl el27 agg3 sz3 (.inr rfl) (by omega) (hgk) fun p ces hces => ?_
          obtain rfl := rInt_open hces
          clear hces
          simp only [sx, ty, q1, q2, q5, q6, q7, q8, q9, qa, qb, reduceIte, sy, q3, q4]
          refine WQ.elem (y := (costF d c hall)) hces1 (by simp [St.put]) (ds := []) rfl rfl rfl (by simp [St.put]) (fun _ => rfl) rfl rfl rfl rfl rfl el27 agg3 sz3 (.inr rfl) (by omega) (hent) fun p ces hces => ?_
          obtain rfl := rInt_open hces
          clear hces
          refine WQ.go 1 (ds := []) rfl ?_
          simp only [sx, ty, q1, q2, q5, q6, q7, q8, q9, qa, qb, reduceIte, sxq, sy, q3, q4]
          with_reducible refine WQ.nil ?_
          refine WO.go 1 (ds := []) rfl ?_
          simp only [sx, ty, q1, q2, q5, q6, q7, q8, q9, qa, qb, reduceIte, sy, q3, q4]
          refine WO.append (k := 1) (m := 1) [.int .i64 d.1, .int .i64 c.1, .int .i64 (costF d c hall)] (ds := []) rfl rfl rfl rfl rfl rfl rfl ek26 (news_own (k2 := 3) rfl fun _ => rfl) rfl (by simp [Value.oneCell']) (by rw [maxLen_eq]; omega) (by omega) fun p6 c6 => ?_
          refine WO.go 1 (ds := []) rfl ?_
          simp only [sx, ty, q1, q2, q5, q6, q7, q8, q9, qa, qb, reduceIte, sy, q3, q4]
          with_reducible refine WO.nil ?_
          refine hK13 _ ?_
          refine W.region ?_
          refine WO.go 2 (ds := []) rfl ?_
          simp only [sx, ty, q1, q2, q5, q6, q7, q8, q9, qa, qb, reduceIte, sy, q3, q4]
          with_reducible refine WO.nil ?_
          refine ⟨(i + 1, p6, c6), by simp only; omega, by simp only; omega, rfl, by simp [getE, bnd, keepE, wrap_succ (show i + 1 ≤ 9223372036854775807 by omega)], ⟨_, by simp only [planL_succ, gsV_app, hgiv]; rfl⟩, by simp [Own.bnd, bndL, bnd], by simp⟩
        · skip
          have hin : i = ds.length := Nat.le_antisymm hi (by simpa using hc)
          subst hin
          refine W.exit (hK9 _ ?_)
          refine W.pure (ds := []) rfl fun K15 hK15 => ?_
          simp only [sx, ty, q1, q2, q5, q6, q7, q8, q9, qa, qb, reduceIte, sy, q3, q4]; with_reducible refine hK15 _ ?_; clear hK15
          refine W.ret ⟨by simp, _, rfl, fun ρ w1 hb => ?_⟩
          exact ⟨(at9, pq, cq), rfl, hB, own_slice (A := rGiv) (k := 1) (n := ds.length) hb rfl (by rw [planL_len]) (fun b hb' => own_new hb (by simp) (k := 1) rfl hb') (gs_read _)⟩
end Go.Proofs.YtolmeekbjonbcaaGreat
set_option linter.unusedVariables false
set_option linter.unusedSimpArgs false
set_option maxHeartbeats 1000000
namespace Go.Proofs.YtolmeekbjonbcaaGreat
open Int renaming reduceEq → q1, reduceLT → q2, reduceBEq → q3, reduceBNe → q4
open Nat renaming reduceAdd → q5, reduceSub → q6, reduceMul → q7, reduceLT → q8, reduceLeDiff → q9, reduceEqDiff → qa
open List renaming reduceReplicate → qb
open Go Go.SX Go.RowKit
def few36 (ds : List Dem) (cs : List Cop) : Bool := few ds cs && (decide (ds.length ≤ 7) && decide (cs.length ≤ 8))
/-- function 6 -/
theorem few36_spec {S S2 : Nat → Prop} {w : World} {v u : Value} {ds : List Dem} {cs : List Cop} (hl : rDems.rd S w [v] ds) (hl2 : rCops.rd S2 w [u] cs) : Gives Tryz.prog 6 #[v, u] w fun r _ => r = .bool (few36 ds cs) := by
  obtain ⟨p, c, rfl, hc1, hc2⟩ := Rp.slice_val hl
  obtain ⟨p2, c2, rfl, hc3, hc4⟩ := Rp.slice_val hl2
  have hl : (Rp.slice rDem).rd (fun _ => True) w _ ds := Rp.any hl
  have hl2 : (Rp.slice rCop).rd (fun _ => True) w _ cs := Rp.any hl2
  have e7 : ∀ n : Nat, decide ((n : Int) ≤ 7) = decide (n ≤ 7) := fun n => decide_eq_decide.2 (by omega)
  have e8 : ∀ n : Nat, decide ((n : Int) ≤ 8) = decide (n ≤ 8) := fun n => decide_eq_decide.2 (by omega)
  refine gives_of [.val (.slice p ds.length c), .val (.slice p2 cs.length c2)] 18 [.tmp 4] Tryz.func6 rfl rfl rfl (by simp) rfl rfl ?_
  refine W.pure (ds := []) rfl fun K1 hK1 => ?_
  simp only [sx, ty, q1, q2, q5, q6, q7, q8, q9, qa, qb, reduceIte, sy, q3, q4]; with_reducible refine hK1 _ ?_; clear hK1
  refine W.join 4 (.val (.bool (few36 ds cs))) [] (W.region ?_) ?_
  · skip
    refine WO.go 2 (ds := [some 5, some 6, some 7, some 8, some 9, some 10, some 11, some 12, some 13, some 14, some 15, some 16, some 17, some 4]) rfl ?_
    simp only [sx, ty, q1, q2, q5, q6, q7, q8, q9, qa, qb, reduceIte, sy, q3, q4]
    refine WO.call (.bool (few ds cs)) (ds := [some 5, some 6, some 7, some 8, some 9, some 10, some 11, some 12, some 13, some 14, some 15, some 16, some 17, some 4]) rfl rfl rfl rfl co21 (fun ρ w1 hb => few_spec (Rp.now hl (hb.first (by simp))) (Rp.now hl2 (hb.first (by simp)))) ?_
    refine WO.go 1 (ds := [some 5, some 6, some 7, some 8, some 9, some 10, some 11, some 12, some 13, some 14, some 15, some 16, some 17, some 4]) rfl ?_
    simp only [sx, ty, q1, q2, q5, q6, q7, q8, q9, qa, qb, reduceIte, sy, q3, q4]
    refine WO.cases 8 _ rfl (fun hg8 => ?_) (fun hg8 => ?_)
    · skip
      refine WO.go 5 (ds := [some 5, some 6, some 7, some 8, some 9, some 10, some 11, some 12, some 13, some 14, some 15, some 16, some 17, some 4]) rfl ?_
      simp only [sx, ty, q1, q2, q5, q6, q7, q8, q9, qa, qb, reduceIte, sy, q3, q4]
      refine WO.cases 13 _ rfl (fun hg13 => ?_) (fun hg13 => ?_)
      · skip
        refine WO.go 5 (ds := [some 5, some 6, some 7, some 8, some 9, some 10, some 11, some 12, some 13, some 14, some 15, some 16, some 17, some 4]) rfl ?_
        simp only [sx, ty, q1, q2, q5, q6, q7, q8, q9, qa, qb, reduceIte, sy, q3, q4]
        with_reducible refine WO.nil ?_
        refine ⟨rfl, ?_, ⟨_, rfl⟩, by simp [Own.bnd, bndL, bnd, boxO], by simp⟩
        try rw [hg8]
        try rw [hg13]
        try simp [getE, bnd, keepE, few36, hg8, e7, e8]
        try (rw [e7] at hg13; simp [getE, bnd, keepE, few36, hg8, hg13, e7, e8])
        try (have h9 := of_decide_eq_true hg13; intro; omega)
        try (have h9 := of_decide_eq_false hg13; intro; omega)
      · skip
        refine WO.go 5 (ds := [some 5, some 6, some 7, some 8, some 9, some 10, some 11, some 12, some 13, some 14, some 15, some 16, some 17, some 4]) rfl ?_
        simp only [sx, ty, q1, q2, q5, q6, q7, q8, q9, qa, qb, reduceIte, sy, q3, q4]
        with_reducible refine WO.nil ?_
        refine ⟨rfl, ?_, ⟨_, rfl⟩, by simp [Own.bnd, bndL, bnd, boxO], by simp⟩
        try rw [hg8]
        try rw [hg13]
        try simp [getE, bnd, keepE, few36, hg8, e7, e8]
        try (rw [e7] at hg13; simp [getE, bnd, keepE, few36, hg8, hg13, e7, e8])
        try (have h9 := of_decide_eq_true hg13; intro; omega)
        try (have h9 := of_decide_eq_false hg13; intro; omega)
    · skip
      refine WO.go 10 (ds := [some 5, some 6, some 7, some 8, some 9, some 10, some 11, some 12, some 13, some 14, some 15, some 16, some 17, some 4]) rfl ?_
      simp only [sx, ty, q1, q2, q5, q6, q7, q8, q9, qa, qb, reduceIte, sy, q3, q4]
      with_reducible refine WO.nil ?_
      refine ⟨rfl, ?_, ⟨_, rfl⟩, by simp [Own.bnd, bndL, bnd, boxO], by simp⟩
      try rw [hg8]
      try rw [hg13]
      try simp [getE, bnd, keepE, few36, hg8, e7, e8]
      try (rw [e7] at hg13; simp [getE, bnd, keepE, few36, hg8, hg13, e7, e8])
      try (have h9 := of_decide_eq_true hg13; intro; omega)
      try (have h9 := of_decide_eq_false hg13; intro; omega)
  · simp only [sx, ty, q1, q2, q5, q6, q7, q8, q9, qa, qb, reduceIte, sxk, sy, q3, q4]
    refine W.ret ⟨by simp, _, rfl, fun ρ w1 hb => ?_⟩
    rfl
def sumG (gs : List Giv) : Int := (gs.map (·.2.2)).sum
theorem sumG_bound : ∀ {gs : List Giv}, (∀ g, g ∈ gs → 0 ≤ g.2.2 ∧ g.2.2 ≤ 1000000) → 0 ≤ sumG gs ∧ sumG gs ≤ (gs.length : Int) * 1000000
  | [], _ => by simp [sumG]
  | g :: gs, h => by
    obtain ⟨h1, h2⟩ := sumG_bound (gs := gs) fun x hx => h x (List.mem_cons_of_mem _ hx)
    obtain ⟨h3, h4⟩ := h g List.mem_cons_self
    simp only [sumG, List.map_cons, List.sum_cons, List.length_cons] at h1 h2 ⊢
    push_cast
    omega
theorem sumG_take {gs : List Giv} {i : Nat} {g : Giv} (h : gs[i]? = some g) : sumG (gs.take (i + 1)) = sumG (gs.take i) + g.2.2 := by
  unfold sumG
  rw [List.take_add_one, h, List.map_append, List.sum_append]; simp
/-- function 17 -/
theorem wcost_spec {S : Nat → Prop} {w : World} {p : Option Addr} {c : Nat} {gs : List Giv} (hl : rGivs.rd S w [.slice p gs.length c] gs) (hb9 : ∀ g, g ∈ gs → 0 ≤ g.2.2 ∧ g.2.2 ≤ 1000000) (h200 : gs.length ≤ 200) : Gives Tryz.prog 17 #[.slice p gs.length c] w fun r _ => r = .int .i64 (sumG gs) := by
  have hl : (Rp.slice rGiv).rd (fun _ => True) w _ gs := Rp.any hl
  refine gives_of [.val (.slice p gs.length c)] 18 [.tmp 2] Tryz.func17 rfl rfl rfl (by simp) rfl rfl ?_
  refine W.pure (ds := []) rfl fun K1 hK1 => ?_
  simp only [sx, ty, q1, q2, q5, q6, q7, q8, q9, qa, qb, reduceIte, sy, q3, q4]; with_reducible refine hK1 _ ?_; clear hK1
  refine W.pure (ds := []) rfl fun K2 hK2 => ?_
  simp only [sx, ty, q1, q2, q5, q6, q7, q8, q9, qa, qb, reduceIte, sy, q3, q4]; with_reducible refine hK2 _ ?_; clear hK2
  refine W.seqK fun K3 hK3 => ?_
  refine W.pure (ds := []) rfl fun K4 hK4 => ?_
  simp only [sx, ty, q1, q2, q5, q6, q7, q8, q9, qa, qb, reduceIte, sy, q3, q4]; with_reducible refine hK4 _ ?_; clear hK4
  refine W.block ?_
  refine W.loopO (X := Nat) [6, 7] (fun x => [(3, .val (.int .i64 (sumG (gs.take x)))), (8, .val (.int .i64 (x : Int)))]) (fun x => []) (fun x => [((fun _ => True), w)]) (fun x => x ≤ gs.length) (fun x => gs.length - x) 0 ?_ ?_ ?_
  · exact ⟨rfl, by simp [getE, bnd, keepE, sumG], ⟨[], by simp⟩, by simp [Own.bnd, bndL, bnd, boxO], by simp⟩
  · skip
    exact Nat.zero_le _
  · rintro i hi
    simp only [sx, ty, q1, q2, q5, q6, q7, q8, q9, qa, qb, reduceIte, sxk, sy, q3, q4]
    refine W.pure (ds := []) rfl fun K5 hK5 => ?_
    simp only [sx, ty, q1, q2, q5, q6, q7, q8, q9, qa, qb, reduceIte, sy, q3, q4]; with_reducible refine hK5 _ ?_; clear hK5
    refine W.seqK fun K6 hK6 => ?_
    refine W.cond rfl rfl (fun hc => ?_) (fun hc => ?_)
    · skip
      have hlt : i < gs.length := by simpa using hc
      obtain ⟨g, hg⟩ := len_lt (rfl : gs.length = _) hlt
      have hgb := hb9 g (List.mem_of_getElem? hg)
      obtain ⟨q1, q2⟩ := sumG_bound (gs := gs.take i) fun x hx => hb9 x (List.mem_of_mem_take hx)
      simp only [List.length_take] at q2
      have hw9 : IntKind.i64.wrap (sumG (gs.take i) + g.2.2) = sumG (gs.take (i + 1)) := by rw [sumG_take hg, wrap_id (by omega) (by omega)]
      refine W.skip (hK6 _ ?_)
      refine W.seqK fun K7 hK7 => ?_
      refine W.block ?_
      refine W.seqK fun K8 hK8 => W.region ?_
      refine WO.elem (y := g) hl (by simp [St.put]) (ds := []) rfl rfl rfl (by simp [St.put]) (fun _ => rfl) rfl rfl rfl rfl rfl el26 agg39 sz39 (.inl rfl) (by omega) (hg) fun p ces hces => ?_
      obtain rfl := rGiv_open hces
      clear hces
      refine WO.go 2 (ds := []) rfl ?_
      simp only [sx, ty, q1, q2, q5, q6, q7, q8, q9, qa, qb, reduceIte, sy, q3, q4]
      with_reducible refine WO.nil ?_
      refine hK8 _ ?_; clear hK8
      refine W.region ?_
      refine WO.go 5 (ds := []) rfl ?_
      simp only [sx, ty, q1, q2, q5, q6, q7, q8, q9, qa, qb, reduceIte, sy, q3, q4]
      with_reducible refine WO.nil ?_
      refine hK7 _ ?_
      refine W.region ?_
      refine WO.go 2 (ds := []) rfl ?_
      simp only [sx, ty, q1, q2, q5, q6, q7, q8, q9, qa, qb, reduceIte, sy, q3, q4]
      with_reducible refine WO.nil ?_
      refine ⟨i + 1, hlt, by omega, rfl, by simp [getE, bnd, keepE, hw9, wrap_succ (show i + 1 ≤ 9223372036854775807 by omega)], ⟨_, by simp; rfl⟩, by simp [Own.bnd, bndL, bnd], by simp⟩
    · skip
      have hin : i = gs.length := Nat.le_antisymm hi (by simpa using hc)
      subst hin
      refine W.exit (hK3 _ ?_)
      refine W.pure (ds := []) rfl fun K9 hK9 => ?_
      simp only [sx, ty, q1, q2, q5, q6, q7, q8, q9, qa, qb, reduceIte, sy, q3, q4]; with_reducible refine hK9 _ ?_; clear hK9
      refine W.ret ⟨by simp, _, rfl, fun ρ w1 hb => ?_⟩
      simp only [den, List.take_length]
end Go.Proofs.YtolmeekbjonbcaaGreat
set_option linter.unusedVariables false
set_option linter.unusedSimpArgs false
namespace Go.SX
open Go Go.RowKit
section
variable {P : Program} {ops : Array Oper} {Q : Exit → St → Prop} {σ : St} {l rest : List Oper} {o : Oper} {ds : List (Option Nat)}
def vmL : Nat → List (Int × Value) → List MapEntry
  | _, [] => []
  | i, k :: ks => ⟨.int .i64 k.1, k.2, i⟩ :: vmL (i + 1) ks
def vmE (ks : List (Int × Value)) : Array MapEntry := (vmL 0 ks).toArray
theorem vmL_append : ∀ (ks : List (Int × Value)) (i : Nat) (k : Int × Value), vmL i (ks ++ [k]) = vmL i ks ++ [⟨.int .i64 k.1, k.2, i + ks.length⟩]
  | [], i, k => by simp [vmL]
  | x :: ks, i, k => by simp [vmL, vmL_append ks (i + 1) k, Nat.add_assoc, Nat.add_comm 1]
theorem vmE_push (ks : List (Int × Value)) (k : Int) (v : Value) : (vmE ks).push ⟨.int .i64 k, v, ks.length⟩ = vmE (ks ++ [(k, v)]) := by
  apply Array.toList_inj.1
  simp [vmE, vmL_append]
def mapInt (P : Program) (t : TypeId) : Bool :=
  match P.underlying t with
  | some (.map k _) => match P.underlying k with
    | some (.int _) => true
    | _ => false
  | _ => false
theorem mapInt_spec {t : TypeId} (h : mapInt P t = true) : ∃ k e kk, P.underlying t = some (.map k e) ∧ P.underlying k = some (.int kk) := by
  unfold mapInt at h
  split at h
  · rename_i k e hu
    split at h
    · rename_i kk h1
      exact ⟨k, e, kk, hu, h1⟩
    · cases h
  · cases h
theorem findNow_vm (kk : IntKind) (x : Int) : ∀ (ks : List (Int × Value)) (i j : Nat), (Instr.findNow (.int kk) (.int .i64 x) (vmL i ks) j = some none ∧ x ∉ ks.map (·.1)) ∨ (∃ n v, Instr.findNow (.int kk) (.int .i64 x) (vmL i ks) j = some (some (n, v)) ∧ (x, v) ∈ ks)
  | [], i, j => .inl ⟨rfl, by simp⟩
  | k :: ks, i, j => by
    by_cases h : x = k.1
    · exact .inr ⟨j, k.2, by simp [vmL, Instr.findNow, Instr.sameNow, h], by rw [h]; simp⟩
    · rcases findNow_vm kk x ks (i + 1) (j + 1) with ⟨h1, h2⟩ | ⟨n, v, h1, h2⟩
      · left
        refine ⟨?_, by simp only [List.map_cons, List.mem_cons]; exact fun hh => hh.elim h h2⟩
        simp only [vmL, Instr.findNow, Instr.sameNow, if_true]
        have : (x == k.1) = false := by simpa using h
        rw [this]; exact h1
      · right
        refine ⟨n, v, ?_, by simp [h2]⟩
        simp only [vmL, Instr.findNow, Instr.sameNow, if_true]
        have : (x == k.1) = false := by simpa using h
        rw [this]; exact h1
theorem WO.makeV {t : TypeId} (hds : dsOk ds ops.toList = true) (hg : gd ds σ o.guard = some true) (hd : dOk σ o.dst = true)
    (hop : o.op = .makeMap t none) (h : ∀ r, WO P ops Q rest ((σ.pushO (.map r (vmE []) ([] : List (Int × Value)).length)).put o.dst (.val (.map (some r))))) : WO P ops Q (o :: rest) σ :=
  WO.makeSet hds hg hd hop h
/-- v, there := m[x], x being there -/
theorem WO.lookupV {t : TypeId} {m x : Operand} {k r : Nat} {ks : List (Int × Value)} {y : Int} (v : Value) (hds : dsOk ds ops.toList = true) (hg : gd ds σ o.guard = some true) (hd : dOk σ o.dst = true)
    (hop : o.op = .lookup t m x true) (hk : nth σ.own k = some (.map r (vmE ks) ks.length)) (hm : ev σ m = some (.val (.map (some r)))) (hx : ev σ x = some (.val (.int .i64 y))) (ht : mapInt P t = true)
    (hin : y ∈ ks.map (·.1)) (hv : ∀ u, (y, u) ∈ ks → u = v) (h : WO P ops Q rest (σ.put o.dst (.val (.tuple #[v, .bool true])))) : WO P ops Q (o :: rest) σ :=
  WO.one hds hg fun ρ a w hs => by
    rw [nth_eq] at hk
    have hown := hs.base.own k _ hk ρ (Agree.refl _ _)
    simp only [Own.holds] at hown
    obtain ⟨kt, et, kk, hu, hkk⟩ := mapInt_spec ht
    refine ⟨ρ, _, .tuple #[v, .bool true], w, .inl ?_, hs.put _ _ _ (dOk_lt hd) (fun _ _ => rfl), h⟩
    unfold execOp
    rw [hop]
    simp only [Sem.run_bind, hs.ev hm ρ (Agree.refl _ _), hs.ev hx ρ (Agree.refl _ _), den, Instr.lookup, run_underlying hu, Result.andThen_ok]
    have hget : (getObj r).run P w = .ok (.map (vmE ks) ks.length) w := by simp [getObj, Sem.run, hown]
    simp only [hget, Result.andThen_ok, Sem.run_bind, Sem.run_pure, run_checkKey hkk, Instr.findKey, run_underlying hkk]
    rcases findNow_vm kk y ks 0 0 with ⟨h1, h2⟩ | ⟨n, u, h1, h2⟩
    · exact absurd hin h2
    · obtain rfl := hv u h2
      simp [vmE, h1]
/-- m[x] = v, x being new -/
theorem WO.addV {t : TypeId} {m x vo : Operand} {k r : Nat} {ks : List (Int × Value)} {y : Int} (v : Value) (hds : dsOk ds ops.toList = true) (hg : gd ds σ o.guard = some true) (hd : dOk σ o.dst = true)
    (hop : o.op = .mapUpdate t m x vo) (hk : nth σ.own k = some (.map r (vmE ks) ks.length)) (hm : ev σ m = some (.val (.map (some r)))) (hx : ev σ x = some (.val (.int .i64 y))) (hv : ∃ s, ev σ vo = some s ∧ ∀ ρ, den ρ s = v) (ht : mapInt P t = true)
    (hnew : y ∉ ks.map (·.1)) (h : WO P ops Q rest ((setOwn σ k (.map r (vmE (ks ++ [(y, v)])) (ks ++ [(y, v)]).length)).put o.dst (.val undef))) : WO P ops Q (o :: rest) σ :=
  WO.one hds hg fun ρ a w hs => by
    rw [nth_eq] at hk
    have hown := hs.base.own k _ hk ρ (Agree.refl _ _)
    simp only [Own.holds] at hown
    obtain ⟨kt, et, kk, hu, hkk⟩ := mapInt_spec ht
    obtain ⟨sv, hsv, hdv⟩ := hv
    have hlt : r < w.heap.size := (Array.getElem?_eq_some_iff.1 hown).1
    have hget : (getObj r).run P w = .ok (.map (vmE ks) ks.length) w := by simp [getObj, Sem.run, hown]
    have hgr : w.grownBy { w with heap := w.heap.setIfInBounds r (.map (vmE (ks ++ [(y, v)])) (ks.length + 1)) } (some r) :=
      ⟨rfl, rfl, rfl, by simp, fun j hj hne => by simp [Array.getElem?_setIfInBounds, show r ≠ j from fun e => hne (by rw [e])]⟩
    refine ⟨ρ, _, undef, _, .inr ⟨?_, rfl⟩, Sat.put (hs.turn (o' := .map r (vmE (ks ++ [(y, v)])) (ks ++ [(y, v)]).length) hk (fun _ _ h => by cases h) hgr ?_ (fun b hb => .inl hb)) _ _ _ ?_ (fun _ _ => rfl), h⟩
    · unfold execOp
      rw [hop]
      simp only [Sem.run_bind, hs.ev hm ρ (Agree.refl _ _), hs.ev hx ρ (Agree.refl _ _), hs.ev hsv ρ (Agree.refl _ _), hdv, den, Instr.mapUpdate, run_underlying hu, Result.andThen_ok]
      simp only [hget, Result.andThen_ok, Sem.run_bind, run_checkKey hkk, Instr.findKey, run_underlying hkk]
      rcases findNow_vm kk y ks 0 0 with ⟨h1, h2⟩ | ⟨n, u, h1, h2⟩
      · have hpush : (vmE ks).push { key := Value.int IntKind.i64 y, val := v, born := ks.length } = vmE (ks ++ [(y, v)]) := vmE_push ks y v
        have hset : (setObj r (.map (vmE (ks ++ [(y, v)])) (ks.length + 1))).run P w = .ok () { w with heap := w.heap.setIfInBounds r (.map (vmE (ks ++ [(y, v)])) (ks.length + 1)) } := by simp [setObj, Sem.run, hown]
        have h1' : Instr.findNow (TypeDesc.int kk) (Value.int IntKind.i64 y) (vmE ks).toList 0 = some none := h1
        rw [h1']
        simp only [Sem.run_pure, Result.andThen_ok, hpush, hset]
      · exact absurd (List.mem_map.2 ⟨_, h2, rfl⟩) hnew
    · simp [Own.holds, hlt]
    · intro j hj; exact dOk_lt (σ := setOwn σ k _) (by rw [dOk_setOwn]; exact hd) j hj
end
end Go.SX
set_option linter.unusedVariables false
set_option linter.unusedSimpArgs false
set_option maxHeartbeats 2000000
namespace Go.Proofs.YtolmeekbjonbcaaGreat
open Int renaming reduceEq → q1, reduceLT → q2, reduceBEq → q3, reduceBNe → q4
open Nat renaming reduceAdd → q5, reduceSub → q6, reduceMul → q7, reduceLT → q8, reduceLeDiff → q9, reduceEqDiff → qa
open List renaming reduceReplicate → qb
open Go Go.SX Go.RowKit
theorem hall0 : within 0 99 0 = true := rfl
/-- function 35 -/
theorem met35_spec {S1 S2 S3 : Nat → Prop} {w : World} {p0 p2 : Option Addr} {c0 c2 : Nat} {l : List DE} {cs : List Cop} {a : Addr} (ha : At w a [.slice p2 cs.length c2, .int .i64 0]) (hal : a.block < w.heap.size) (hl : rDEs.rd S1 w [.slice p0 l.length c0] l) (he : ∀ x, x ∈ l → OkE S2 w x) (hl2 : rCops.rd S3 w [.slice p2 cs.length c2] cs) (hv : valid (l.map (·.1)) cs = true) (h11 : cs.length ≤ 11) (b : Bool) (hb9 : b = true ↔ MeetL (l.map (·.1)) cs) : Gives Tryz.prog 35 #[.slice p0 l.length c0, .pointer (some a)] w fun r _ => r = .bool b := by
  have hl : (Rp.slice rDE).rd (fun _ => True) w _ l := Rp.any hl
  have hl2 : (Rp.slice rCop).rd (fun _ => True) w _ cs := Rp.any hl2
  refine gives_of [.val (.slice p0 l.length c0), .val (.pointer (some a))] 15 [.tmp 3] Tryz.func35 rfl rfl rfl (by simp) rfl rfl ?_
  refine W.pure (ds := []) rfl fun K1 hK1 => ?_
  simp only [sx, ty, q1, q2, q5, q6, q7, q8, q9, qa, qb, reduceIte, sy, q3, q4]; with_reducible refine hK1 _ ?_; clear hK1
  refine W.seqK fun K2 hK2 => W.region ?_
  refine WO.q (ds := []) rfl rfl rfl (QR.load [.slice p2 cs.length c2, .int .i64 0] true rfl rfl agg61 sz61 (.inl rfl) (fun ρ w1 hb => ha.frame ((hb.first (by simp [St.put])).block _ trivial hal))) ?_
  simp only [List.drop_succ_cons, List.drop_zero, List.take_succ_cons, List.take_zero, ofCells, Bool.false_eq_true, if_false, List.headD_cons, if_true, List.toList_toArray]
  refine WO.go 1 (ds := []) rfl ?_
  simp only [sx, ty, q1, q2, q5, q6, q7, q8, q9, qa, qb, reduceIte, sy, q3, q4]
  refine WO.callX (fun x : (Option Addr × Nat) × (Nat × Option Addr × Nat) × Bool => .tuple #[.slice x.1.1 l.length x.1.2, .slice x.2.1.2.1 x.2.1.1 x.2.1.2.2, .bool x.2.2]) (fun x => x.2.2 = true ↔ MeetL (l.map (fun z : DE => z.1)) cs) (ds := []) rfl rfl rfl rfl co23 (fun ρ w1 hb => met_de (Rp.now hl (hb.first (by simp [St.put]))) (fun z hz => (he z hz).now (hb.first (by simp [St.put]))) (Rp.now hl2 (hb.first (by simp [St.put]))) hv hall0 h11) fun x hx9 => ?_
  obtain ⟨x1, x2, bm⟩ := x
  simp only at hx9
  refine WO.go 7 (ds := []) rfl ?_
  simp only [sx, ty, q1, q2, q5, q6, q7, q8, q9, qa, qb, reduceIte, sy, q3, q4]
  with_reducible refine WO.nil ?_
  refine hK2 _ ?_; clear hK2
  refine W.pure (ds := []) rfl fun K3 hK3 => ?_
  simp only [sx, ty, q1, q2, q5, q6, q7, q8, q9, qa, qb, reduceIte, sy, q3, q4]; with_reducible refine hK3 _ ?_; clear hK3
  refine W.ret ⟨by simp, _, rfl, fun ρ w1 hb => ?_⟩
  simp only [den, Value.bool.injEq]
  rw [Bool.eq_iff_iff, hb9, hx9]
/-- function 36 -/
theorem need_spec {S1 S2 S3 : Nat → Prop} {w : World} {p0 p2 : Option Addr} {c0 c2 : Nat} {l : List DE} {cs : List Cop} {a a1 a2 : Addr} (ha : At w a [.slice p2 cs.length c2, .int .i64 0]) (hal : a.block < w.heap.size) (h1 : At w a1 [.func (.func 35) #[] #[.pointer (some a)]]) (h1l : a1.block < w.heap.size) (h2 : At w a2 [.slice p0 l.length c0]) (h2l : a2.block < w.heap.size) (hl : rDEs.rd S1 w [.slice p0 l.length c0] l) (he : ∀ x, x ∈ l → OkE S2 w x) (hl2 : rCops.rd S3 w [.slice p2 cs.length c2] cs) (hv : valid (l.map (·.1)) cs = true) (h11 : cs.length ≤ 11) (h12 : l.length ≤ 12) (hpos : 0 < l.length) (x : DE) (b : Bool) (hb9 : b = true ↔ MeetL (withoutF (l.map (·.1)) x.1.1) cs) : Gives Tryz.prog 36 #[deA x, .pointer (some a1), .pointer (some a2)] w fun r _ => r = .bool b := by
  have hl : (Rp.slice rDE).rd (fun _ => True) w _ l := Rp.any hl
  have hl2 : (Rp.slice rCop).rd (fun _ => True) w _ cs := Rp.any hl2
  have hvl : valid ((filtF x.1.1 l).map (·.1)) cs = true := by rw [filtF_map]; exact valid_sub hv List.filter_sublist
  have hfl := filtF_le x.1.1 l
  have hfm := filtF_map x.1.1 l
  refine gives_of [.val (.agg #[.int .i64 x.1.1, .int .i64 x.1.2.1, .int .i64 x.1.2.2.1, .slice x.2.1 x.1.2.2.2.length x.2.2]), .val (.pointer (some a1)), .val (.pointer (some a2))] 11 [.tmp 4] Tryz.func36 rfl rfl rfl (by simp) rfl rfl ?_
  refine W.pure (ds := []) rfl fun K1 hK1 => ?_
  simp only [sx, ty, q1, q2, q5, q6, q7, q8, q9, qa, qb, reduceIte, sy, q3, q4]; with_reducible refine hK1 _ ?_; clear hK1
  refine W.pinA (by simp [smallO]) fun β => ?_
  obtain ⟨b0, hb0⟩ : ∃ b0, β 0 = b0 := ⟨_, rfl⟩
  simp only [pinEn, pinOw, den, denL, Nat.zero_add, Nat.reduceAdd, hb0]
  refine W.seqK fun K2 hK2 => ?_
  refine W.regionF [0, 1, 2, 3] [4, 5, 6] ([boxO 41 b0 [.int .i64 x.1.1, .int .i64 x.1.2.1, .int .i64 x.1.2.2.1, .slice x.2.1 x.1.2.2.2.length x.2.2]]) mixed (by kernel_rfl) rfl (by simp [keptL, boxO]) rfl (fun _ _ h => h) ?_
  simp only [sx, ty, q1, q2, q5, q6, q7, q8, q9, qa, qb, reduceIte, sxt, List.toList_toArray, RunP, sy, q3, q4]
  refine WF.q rfl rfl (QR.load [.func (.func 35) #[] #[.pointer (some a)]] false rfl rfl agg59 sz59 (.inr rfl) (fun ρ w1 hb => h1.frame ((hb.first (by simp [St.put])).block _ trivial h1l))) ?_
  simp only [List.drop_succ_cons, List.drop_zero, List.take_succ_cons, List.take_zero, ofCells, Bool.false_eq_true, if_false, List.headD_cons, if_true, List.toList_toArray]
  simp only [sx, ty, q1, q2, q5, q6, q7, q8, q9, qa, qb, reduceIte, sxt, List.toList_toArray, RunP, sy, q3, q4]
  refine WF.q rfl rfl (QR.load [.slice p0 l.length c0] false rfl rfl agg22 sz22 (.inr rfl) (fun ρ w1 hb => h2.frame ((hb.first (by simp [St.put])).block _ trivial h2l))) ?_
  simp only [List.drop_succ_cons, List.drop_zero, List.take_succ_cons, List.take_zero, ofCells, Bool.false_eq_true, if_false, List.headD_cons, if_true, List.toList_toArray]
  simp only [sx, ty, q1, q2, q5, q6, q7, q8, q9, qa, qb, reduceIte, sxt, List.toList_toArray, RunP, sy, q3, q4]
  refine WF.go rfl rfl rfl ?_
  simp only [sx, ty, q1, q2, q5, q6, q7, q8, q9, qa, qb, reduceIte, sxt, List.toList_toArray, RunP, sy, q3, q4]
  refine WF.q rfl rfl (QR.load [.int .i64 x.1.1] false rfl rfl agg3 sz3 (.inr rfl) (fun ρ w1 hb => (box_at (k := 0) hb rfl).part 0 1)) ?_
  simp only [List.drop_succ_cons, List.drop_zero, List.take_succ_cons, List.take_zero, ofCells, Bool.false_eq_true, if_false, List.headD_cons]
  simp only [sx, ty, q1, q2, q5, q6, q7, q8, q9, qa, qb, reduceIte, sxt, List.toList_toArray, RunP, sy, q3, q4]
  refine WF.nil ?_
  simp only [sx, ty, q1, q2, q5, q6, q7, q8, q9, qa, qb, reduceIte, sxt, List.toList_toArray, RunP, sy, q3, q4]
  refine WC.one ?_
  refine WO.callO (X := {y : List Value × Option Addr × Nat // y.1.take ((filtF x.1.1 l).length * 4) = desV (filtF x.1.1 l)}) (fun y => .slice y.1.2.1 (filtF x.1.1 l).length y.1.2.2) (fun y => .slice 41 4 (.slice y.1.2.1 l.length y.1.2.2) l.length y.1.1) (ds := []) rfl rfl rfl rfl co37 (fun x T cs h => by cases h) (fun ρ w1 hb => withoutO_spec (Rp.now hl (hb.first (by simp))) rfl hpos h12) fun y => ?_
  obtain ⟨⟨ys, p5, c5⟩, hys⟩ := y
  simp only [sx, ty, q1, q2, q5, q6, q7, q8, q9, qa, qb, reduceIte, List.append_assoc, List.cons_append, List.nil_append, sy, q3, q4]
  with_reducible refine WC.next (by simp [keptL, boxO]) (by simp) ?_
  refine WC.one ?_
  refine WO.call (.bool b) (ds := []) rfl rfl rfl rfl co35 (fun ρ w1 hb => met35_spec (ha.frame ((hb.first (by simp)).block _ trivial hal)) (Nat.lt_of_lt_of_le hal (hb.first (w0 := w) (by simp)).size) (part_read (S := fun _ => True) hb (k := 1) rfl hys rfl hfl (fun _ _ => trivial)) (fun z hz => (he z (filtF_mem.1 hz).1).now (hb.first (by simp))) (Rp.now hl2 (hb.first (by simp))) hvl h11 b (by rw [hfm]; exact hb9)) ?_
  simp only [sx, ty, q1, q2, q5, q6, q7, q8, q9, qa, qb, reduceIte, List.append_assoc, List.cons_append, List.nil_append, sy, q3, q4]
  with_reducible refine WC.next (by simp [keptL, boxO]) (by simp) ?_
  refine WC.one ?_
  refine WO.go 1 (ds := []) rfl ?_
  simp only [sx, ty, q1, q2, q5, q6, q7, q8, q9, qa, qb, reduceIte, List.append_assoc, List.cons_append, List.nil_append, sy, q3, q4]
  with_reducible refine WC.next (by simp [keptL, boxO]) (by simp) ?_
  with_reducible refine WC.nil ?_
  refine hK2 _ ?_; clear hK2
  refine W.ret ⟨by simp, _, rfl, fun ρ w1 hb => ?_⟩
  rfl
/-- function 39 -/
theorem notneed_spec {S1 S2 S3 : Nat → Prop} {w : World} {p0 p2 : Option Addr} {c0 c2 : Nat} {l : List DE} {cs : List Cop} {a a1 a2 a3 : Addr} (h3 : At w a3 [.func (.func 36) #[] #[.pointer (some a1), .pointer (some a2)]]) (h3l : a3.block < w.heap.size) (ha : At w a [.slice p2 cs.length c2, .int .i64 0]) (hal : a.block < w.heap.size) (h1 : At w a1 [.func (.func 35) #[] #[.pointer (some a)]]) (h1l : a1.block < w.heap.size) (h2 : At w a2 [.slice p0 l.length c0]) (h2l : a2.block < w.heap.size) (hl : rDEs.rd S1 w [.slice p0 l.length c0] l) (he : ∀ x, x ∈ l → OkE S2 w x) (hl2 : rCops.rd S3 w [.slice p2 cs.length c2] cs) (hv : valid (l.map (·.1)) cs = true) (h11 : cs.length ≤ 11) (h12 : l.length ≤ 12) (hpos : 0 < l.length) (x : DE) (hb9 : MeetL (withoutF (l.map (·.1)) x.1.1) cs) : Gives Tryz.prog 39 #[deA x, .pointer (some a3)] w fun r _ => r = .bool false := by
  have hl : (Rp.slice rDE).rd (fun _ => True) w _ l := Rp.any hl
  have hl2 : (Rp.slice rCop).rd (fun _ => True) w _ cs := Rp.any hl2
  refine gives_of [.val (.agg #[.int .i64 x.1.1, .int .i64 x.1.2.1, .int .i64 x.1.2.2.1, .slice x.2.1 x.1.2.2.2.length x.2.2]), .val (.pointer (some a3))] 8 [.tmp 3] Tryz.func39 rfl rfl rfl (by simp) rfl rfl ?_
  refine W.pure (ds := []) rfl fun K1 hK1 => ?_
  simp only [sx, ty, q1, q2, q5, q6, q7, q8, q9, qa, qb, reduceIte, sy, q3, q4]; with_reducible refine hK1 _ ?_; clear hK1
  refine W.seqK fun K2 hK2 => W.region ?_
  refine WO.q (ds := []) rfl rfl rfl (QR.load [.func (.func 36) #[] #[.pointer (some a1), .pointer (some a2)]] false rfl rfl agg79 sz79 (.inr rfl) (fun ρ w1 hb => h3.frame ((hb.first (by simp [St.put])).block _ trivial h3l))) ?_
  simp only [List.drop_succ_cons, List.drop_zero, List.take_succ_cons, List.take_zero, ofCells, Bool.false_eq_true, if_false, List.headD_cons, if_true, List.toList_toArray]
  refine WO.go 1 (ds := []) rfl ?_
  simp only [sx, ty, q1, q2, q5, q6, q7, q8, q9, qa, qb, reduceIte, sy, q3, q4]
  refine WO.call (.bool true) (ds := []) rfl rfl rfl rfl co36 (fun ρ w1 hb => need_spec (ha.frame ((hb.first (by simp [St.put])).block _ trivial hal)) (Nat.lt_of_lt_of_le hal (hb.first (w0 := w) (by simp [St.put])).size) (h1.frame ((hb.first (by simp [St.put])).block _ trivial h1l)) (Nat.lt_of_lt_of_le h1l (hb.first (w0 := w) (by simp [St.put])).size) (h2.frame ((hb.first (by simp [St.put])).block _ trivial h2l)) (Nat.lt_of_lt_of_le h2l (hb.first (w0 := w) (by simp [St.put])).size) (Rp.now hl (hb.first (by simp [St.put]))) (fun z hz => (he z hz).now (hb.first (by simp [St.put]))) (Rp.now hl2 (hb.first (by simp [St.put]))) hv h11 h12 hpos x true (by simp [hb9])) ?_
  refine WO.go 2 (ds := []) rfl ?_
  simp only [sx, ty, q1, q2, q5, q6, q7, q8, q9, qa, qb, reduceIte, sy, q3, q4]
  with_reducible refine WO.nil ?_
  refine hK2 _ ?_; clear hK2
  refine W.ret ⟨by simp, _, rfl, fun ρ w1 hb => ?_⟩
  rfl
/-- function 38 -/
theorem containsNo_spec {S : Nat → Prop} {w : World} {p : Option Addr} {n c : Nat} {xs : List DE} (hl : rDEs.rd S w [.slice p n c] xs) (hn : xs.length = n) (h12 : n ≤ 12) (K : FuncId) (caps : Array Value) (hK : callOk Tryz.prog K = true)
    (hq : ∀ w1, Keep (fun _ => True) w w1 → ∀ x, x ∈ xs → Gives Tryz.prog K (#[deA x] ++ caps) w1 fun r _ => r = .bool false) : Gives Tryz.prog 38 #[.slice p n c, .func (.func K) #[] caps] w fun r _ => r = .bool false := by
  have hl : (Rp.slice rDE).rd (fun _ => True) w _ xs := Rp.any hl
  have hf : findD (fun _ => false) xs = -1 := findD_none fun _ _ _ => rfl
  refine gives_of [.val (.slice p n c), .val (.func (.func K) #[] caps)] 9 [.tmp 4] Tryz.func38 rfl rfl rfl (by simp) rfl rfl ?_
  refine W.pure (ds := []) rfl fun K1 hK1 => ?_
  simp only [sx, ty, q1, q2, q5, q6, q7, q8, q9, qa, qb, reduceIte, sy, q3, q4]; with_reducible refine hK1 _ ?_; clear hK1
  refine W.seqK fun K2 hK2 => W.region ?_
  refine WO.go 2 (ds := []) rfl ?_
  simp only [sx, ty, q1, q2, q5, q6, q7, q8, q9, qa, qb, reduceIte, sy, q3, q4]
  refine WO.call (.int .i64 (findD (fun _ => false) xs)) (ds := []) rfl rfl rfl rfl co65 (fun ρ w1 hb => indexDem_spec (Rp.now hl (hb.first (by simp))) hn h12 (fun _ => false) K caps hK fun w2 hk => hq w2 ((hb.first (by simp)).trans hk)) ?_
  refine WO.go 2 (ds := []) rfl ?_
  simp only [sx, ty, q1, q2, q5, q6, q7, q8, q9, qa, qb, reduceIte, sy, q3, q4]
  with_reducible refine WO.nil ?_
  refine hK2 _ ?_; clear hK2
  refine W.ret ⟨by simp, _, rfl, fun ρ w1 hb => ?_⟩
  simp only [den, hf]
  rfl
end Go.Proofs.YtolmeekbjonbcaaGreat
set_option linter.unusedVariables false
set_option linter.unusedSimpArgs false
set_option maxHeartbeats 2000000
namespace Go.Proofs.YtolmeekbjonbcaaGreat
open Int renaming reduceEq → q1, reduceLT → q2, reduceBEq → q3, reduceBNe → q4
open Nat renaming reduceAdd → q5, reduceSub → q6, reduceMul → q7, reduceLT → q8, reduceLeDiff → q9, reduceEqDiff → qa
open List renaming reduceReplicate → qb
open Go Go.SX Go.RowKit
theorem de_one {ds : List DE} (hn : (ds.map (·.1.1)).Nodup) {x y : DE} (hx : x ∈ ds) (hy : y ∈ ds) (he : x.1.1 = y.1.1) : x = y := by
  obtain ⟨i, hi⟩ := List.mem_iff_getElem?.1 hx
  obtain ⟨j, hj⟩ := List.mem_iff_getElem?.1 hy
  have := get_inj hn (x := x.1.1) (i := i) (j := j) (by rw [List.getElem?_map, hi]; rfl) (by rw [List.getElem?_map, hj, he]; rfl)
  subst this
  rw [hi] at hj
  exact Option.some.inj hj
def kvD (xs : List DE) : List (Int × Value) := xs.map fun y => (y.1.1, deA y)
theorem kvD_snoc {xs : List DE} {i : Nat} {y : DE} (h : xs[i]? = some y) : kvD (xs.take i) ++ [(y.1.1, deA y)] = kvD (xs.take (i + 1)) := (take_map_snoc (fun y : DE => (y.1.1, deA y)) xs h).symm
theorem kvD_keys (xs : List DE) : (kvD xs).map (·.1) = xs.map (·.1.1) := by simp [kvD, Function.comp_def]
theorem kvD_one {xs : List DE} (hn : (xs.map (·.1.1)).Nodup) {y : DE} (hy : y ∈ xs) : ∀ u, (y.1.1, u) ∈ kvD xs → u = deA y := fun u hu => by
  obtain ⟨z, hz, he⟩ := List.mem_map.1 hu
  simp only [Prod.mk.injEq] at he
  rw [← he.2, de_one hn hz hy he.1]
theorem key_new {xs : List DE} (hn : (xs.map (·.1.1)).Nodup) {i : Nat} {y : DE} (h : xs[i]? = some y) : y.1.1 ∉ (kvD (xs.take i)).map (·.1) := by
  rw [kvD_keys]
  intro hm
  obtain ⟨z, hz, he⟩ := List.mem_map.1 hm
  obtain ⟨j, hj⟩ := List.mem_iff_getElem?.1 hz
  have hj2 : j < i := by have := (List.getElem?_eq_some_iff.1 hj).1; simp at this; omega
  rw [List.getElem?_take_of_lt hj2] at hj
  have := get_inj hn (x := y.1.1) (i := i) (j := j) (by rw [List.getElem?_map, h]; rfl) (by rw [List.getElem?_map, hj]; exact congrArg some he)
  omega
/-- function 20 -/
theorem refuses_spec {S1 S2 S3 S4 : Nat → Prop} {w : World} {p0 p1 p2 : Option Addr} {n c0 c1 c2 : Nat} {xs nm : List DE} {cs : List Cop} {ids : List Int} (hl : rDEs.rd S1 w [.slice p0 n c0] xs) (hn : xs.length = n) (he : ∀ x, x ∈ xs → OkE S2 w x) (hl2 : rCops.rd S3 w [.slice p2 cs.length c2] cs) (hi : rInts.rd S4 w [.slice p1 ids.length c1] ids)
    (hv : valid (xs.map (·.1)) cs = true) (h11 : cs.length ≤ 11) (h12 : n ≤ 12) (hnm : nm.map (·.1.1) = ids) (hmem : ∀ y, y ∈ nm → y ∈ xs) (hsort : ids.Pairwise (· < ·)) (hvn : valid (nm.map (·.1)) cs = true) (hL : Least (nm.map (·.1)) cs) (hn12 : nm.length ≤ 12) : Gives Tryz.prog 20 #[.slice p0 n c0, .slice p2 cs.length c2, .slice p1 ids.length c1] w fun r _ => r = .tuple #[.bool true, .int .i64 0] := by
  have hl : (Rp.slice rDE).rd (fun _ => True) w _ xs := Rp.any hl
  have hl2 : (Rp.slice rCop).rd (fun _ => True) w _ cs := Rp.any hl2
  have hi : (Rp.slice rInt).rd (fun _ => True) w _ ids := Rp.any hi
  have hnd : (xs.map (·.1.1)).Nodup := by have := (valid_mem hv).2.2.1; simpa [Function.comp_def] using this
  have hil : ids.length = nm.length := by rw [← hnm]; simp
  have hpos : 0 < nm.length := by
    rcases Nat.eq_zero_or_pos nm.length with h | h
    · exact absurd (by rw [List.length_eq_zero_iff.1 h]; exact meet_nil cs) hL.no
    · exact h
  refine gives_of [.val (.slice p0 n c0), .val (.slice p2 cs.length c2), .val (.slice p1 ids.length c1)] 79 [.tmp 6, .tmp 7] Tryz.func20 rfl rfl rfl (by simp) rfl rfl ?_
  refine W.pure (ds := []) rfl fun K1 hK1 => ?_
  simp only [sx, ty, q1, q2, q5, q6, q7, q8, q9, qa, qb, reduceIte, sy, q3, q4]; with_reducible refine hK1 _ ?_; clear hK1
  refine W.seqK fun K2 hK2 => ?_
  refine W.seqK fun K3 hK3 => W.region ?_
  refine WO.go 2 (ds := []) rfl ?_
  simp only [sx, ty, q1, q2, q5, q6, q7, q8, q9, qa, qb, reduceIte, sy, q3, q4]
  refine WO.call (.bool true) (ds := []) rfl rfl rfl rfl co27 (fun ρ w1 hb => by have h9 := valid_spec (close_des (Rp.now hl (hb.first (by simp))) (fun x hx => (he x hx).now (hb.first (by simp)))) (Rp.now hl2 (hb.first (by simp))); rw [hv] at h9; exact h9) ?_
  refine WO.go 1 (ds := []) rfl ?_
  simp only [sx, ty, q1, q2, q5, q6, q7, q8, q9, qa, qb, reduceIte, sy, q3, q4]
  with_reducible refine WO.nil ?_
  refine hK3 _ ?_; clear hK3
  refine W.cond rfl rfl (fun hc => ?_) (fun hc => ?_)
  · skip
    simp at hc
  · skip
    refine W.skip (hK2 _ ?_)
    refine W.seqK fun K4 hK4 => W.region ?_
    refine WO.makeV (ds := []) rfl rfl rfl rfl fun r => ?_
    simp only [St.pushO]
    refine WO.go 1 (ds := []) rfl ?_
    simp only [sx, ty, q1, q2, q5, q6, q7, q8, q9, qa, qb, reduceIte, sy, q3, q4]
    with_reducible refine WO.nil ?_
    refine hK4 _ ?_; clear hK4
    refine W.seqK fun K5 hK5 => ?_
    refine W.pure (ds := []) rfl fun K6 hK6 => ?_
    simp only [sx, ty, q1, q2, q5, q6, q7, q8, q9, qa, qb, reduceIte, sy, q3, q4]; with_reducible refine hK6 _ ?_; clear hK6
    refine W.block ?_
    refine W.loopO (X := Nat) [1, 2, 8, 24, 25] (fun x => [(26, .val (.int .i64 (x : Int)))]) (fun x => [.map r (vmE (kvD (xs.take x))) (kvD (xs.take x)).length]) (fun x => [((fun _ => True), w)]) (fun x => x ≤ n) (fun x => n - x) 0 ?_ ?_ ?_
    · exact ⟨rfl, by simp [getE, bnd, keepE], ⟨[], by simp [kvD]⟩, by simp [Own.bnd, bndL, bnd, boxO], by simp⟩
    · skip
      exact Nat.zero_le _
    · rintro i hic
      simp only [sx, ty, q1, q2, q5, q6, q7, q8, q9, qa, qb, reduceIte, sxk, sy, q3, q4]
      refine W.pure (ds := []) rfl fun K7 hK7 => ?_
      simp only [sx, ty, q1, q2, q5, q6, q7, q8, q9, qa, qb, reduceIte, sy, q3, q4]; with_reducible refine hK7 _ ?_; clear hK7
      refine W.seqK fun K8 hK8 => ?_
      refine W.cond rfl rfl (fun hc => ?_) (fun hc => ?_)
      · skip
        have hlt : i < n := by simpa using hc
        obtain ⟨y, hy⟩ := len_lt hn hlt
        have hnew := key_new hnd hy
        refine W.skip (hK8 _ ?_)
        refine W.seqK fun K9 hK9 => ?_
        refine W.block ?_
        refine W.seqK fun K10 hK10 => W.region ?_
        refine WO.elem (y := y) hl (by simp [St.put]) (ds := []) rfl rfl rfl (by simp [St.put]) (fun _ => rfl) rfl rfl rfl rfl rfl el22 agg41 sz41 (.inl rfl) (by omega) (hy) fun p ces hces => ?_
        have hces : ces = deV y := hces
        subst hces
        simp only [deV]
        refine WO.go 2 (ds := []) rfl ?_
        simp only [sx, ty, q1, q2, q5, q6, q7, q8, q9, qa, qb, reduceIte, sy, q3, q4]
        with_reducible refine WO.nil ?_
        refine hK10 _ ?_; clear hK10
        refine W.region ?_
        refine WO.go 4 (ds := []) rfl ?_
        simp only [sx, ty, q1, q2, q5, q6, q7, q8, q9, qa, qb, reduceIte, sy, q3, q4]
        refine WO.addV (k := 0) (ks := kvD (xs.take i)) (deA y) (ds := []) rfl rfl rfl rfl rfl rfl rfl ⟨_, rfl, fun _ => rfl⟩ (by kernel_rfl) hnew ?_
        rw [kvD_snoc hy]
        simp only [sx, ty, q1, q2, q5, q6, q7, q8, q9, qa, qb, reduceIte, sy, q3, q4]
        with_reducible refine WO.nil ?_
        refine hK9 _ ?_
        refine W.region ?_
        refine WO.go 2 (ds := []) rfl ?_
        simp only [sx, ty, q1, q2, q5, q6, q7, q8, q9, qa, qb, reduceIte, sy, q3, q4]
        with_reducible refine WO.nil ?_
        refine ⟨i + 1, hlt, by omega, rfl, by simp [getE, bnd, keepE, wrap_succ (show i + 1 ≤ 9223372036854775807 by omega)], ⟨_, by simp; rfl⟩, by simp [Own.bnd, bndL, bnd], by simp⟩
      · skip
        have hin : i = n := Nat.le_antisymm hic (by simpa using hc)
        subst i
        simp only [← hn, List.take_length]
        refine W.exit (hK5 _ ?_)
        refine W.pure (ds := []) rfl fun K11 hK11 => ?_
        simp only [sx, ty, q1, q2, q5, q6, q7, q8, q9, qa, qb, reduceIte, sy, q3, q4]; with_reducible refine hK11 _ ?_; clear hK11
        refine W.seqK fun K12 hK12 => ?_
        refine W.pure (ds := []) rfl fun K13 hK13 => ?_
        simp only [sx, ty, q1, q2, q5, q6, q7, q8, q9, qa, qb, reduceIte, sy, q3, q4]; with_reducible refine hK13 _ ?_; clear hK13
        refine W.block ?_
        refine W.ownNil 41 4 ?_
        simp only [sx, ty, Bool.false_eq_true, q1, q2, q5, q6, q7, q8, q9, qa, qb, reduceIte, St.pushO, List.cons_append, List.nil_append]
        refine W.loopO (X := Nat × List DE × Option Addr × Nat) [1, 2, 8, 11, 35, 36] (fun x => [(37, .val (.int .i64 (x.1 : Int)))]) (fun x => [.map r (vmE (kvD xs)) (kvD xs).length, .cells 22 [.val (.slice x.2.2.1 x.2.1.length x.2.2.2)], .slice 41 4 (.slice x.2.2.1 x.2.1.length x.2.2.2) x.2.1.length (desV x.2.1)]) (fun x => [((fun _ => True), w)]) (fun x => x.1 ≤ ids.length ∧ x.2.1 = nm.take x.1) (fun x => ids.length - x.1) (0, [], none, 0) ?_ ?_ ?_
        · exact ⟨rfl, by simp [getE, bnd, keepE], ⟨[], by simp [desV]⟩, by simp [Own.bnd, bndL, bnd, boxO], by simp⟩
        · skip
          exact ⟨Nat.zero_le _, rfl⟩
        · rintro ⟨i, l, pq, cq⟩ ⟨hic, hll⟩
          simp only at hic hll
          have hlle : l.length ≤ 12 := by rw [hll]; simp; omega
          simp only [sx, ty, q1, q2, q5, q6, q7, q8, q9, qa, qb, reduceIte, sxk, sy, q3, q4]
          refine W.pure (ds := []) rfl fun K14 hK14 => ?_
          simp only [sx, ty, q1, q2, q5, q6, q7, q8, q9, qa, qb, reduceIte, sy, q3, q4]; with_reducible refine hK14 _ ?_; clear hK14
          refine W.seqK fun K15 hK15 => ?_
          refine W.cond rfl rfl (fun hc => ?_) (fun hc => ?_)
          · skip
            have hlt : i < ids.length := by simpa using hc
            obtain ⟨y, hy⟩ := len_lt (rfl : nm.length = _) (show i < nm.length by omega)
            have hid : ids[i]? = some y.1.1 := by rw [← hnm, List.getElem?_map, hy]; rfl
            have hyx := hmem y (List.mem_of_getElem? hy)
            have hyk : y.1.1 ∈ (kvD xs).map (·.1) := by rw [kvD_keys]; exact List.mem_map.2 ⟨y, hyx, rfl⟩
            refine W.skip (hK15 _ ?_)
            refine W.seqK fun K16 hK16 => ?_
            refine W.block ?_
            refine W.seqK fun K17 hK17 => W.region ?_
            refine WO.go 1 (ds := []) rfl ?_
            simp only [sx, ty, q1, q2, q5, q6, q7, q8, q9, qa, qb, reduceIte, sy, q3, q4]
            refine WO.elem (y := y.1.1) hi (by simp [St.put]) (ds := []) rfl rfl rfl (by simp [St.put]) (fun _ => rfl) rfl rfl rfl rfl rfl el27 agg3 sz3 (.inr rfl) (by omega) (hid) fun p ces hces => ?_
            obtain rfl := rInt_open hces
            clear hces
            refine WO.go 2 (ds := []) rfl ?_
            simp only [sx, ty, q1, q2, q5, q6, q7, q8, q9, qa, qb, reduceIte, sy, q3, q4]
            with_reducible refine WO.nil ?_
            refine hK17 _ ?_; clear hK17
            refine W.seqK fun K18 hK18 => W.region ?_
            refine WO.go 2 (ds := []) rfl ?_
            simp only [sx, ty, q1, q2, q5, q6, q7, q8, q9, qa, qb, reduceIte, sy, q3, q4]
            refine WO.lookupV (k := 0) (ks := kvD xs) (deA y) (ds := []) rfl rfl rfl rfl rfl rfl rfl (by kernel_rfl) hyk (kvD_one hnd hyx) ?_
            simp only [deA]
            refine WO.go 6 (ds := []) rfl ?_
            simp only [sx, ty, q1, q2, q5, q6, q7, q8, q9, qa, qb, reduceIte, sy, q3, q4]
            with_reducible refine WO.nil ?_
            refine hK18 _ ?_; clear hK18
            refine W.seqK fun K19 hK19 => ?_
            refine W.join 62 (.val (.bool false)) [1, 2, 8, 11, 14, 35, 36, 37] (W.region ?_) ?_
            · skip
              refine WO.go 6 (ds := [some 48, some 49, some 50, some 51, some 52, some 53, some 54, some 55, some 56, some 57, some 58, some 59, some 60, some 61, some 62]) rfl ?_
              simp only [sx, ty, q1, q2, q5, q6, q7, q8, q9, qa, qb, reduceIte, sy, q3, q4]
              refine WO.cases 53 _ rfl (fun hg53 => ?_) (fun hg53 => ?_)
              · skip
                have hi0 : 0 < i := by simpa using hg53
                obtain ⟨id0, hid0⟩ := len_lt (rfl : ids.length = _) (show i - 1 < ids.length by omega)
                have hlt9 : id0 < y.1.1 := by
                  have := List.pairwise_iff_getElem.1 hsort (i - 1) i (by omega) hlt (by omega)
                  rwa [(List.getElem?_eq_some_iff.1 hid0).2, (List.getElem?_eq_some_iff.1 hid).2] at this
                have hj1 : IntKind.i64.wrap ((i : Int) - 1) = ((i - 1 : Nat) : Int) := by rw [wrap_id (by omega) (by omega)]; omega
                refine WO.go 4 (ds := [some 48, some 49, some 50, some 51, some 52, some 53, some 54, some 55, some 56, some 57, some 58, some 59, some 60, some 61, some 62]) rfl ?_
                simp only [sx, ty, q1, q2, q5, q6, q7, q8, q9, qa, qb, reduceIte, sy, q3, q4]
                simp only [hj1]
                refine WO.elem (y := id0) hi (by simp [St.put]) (ds := [some 48, some 49, some 50, some 51, some 52, some 53, some 54, some 55, some 56, some 57, some 58, some 59, some 60, some 61, some 62]) rfl rfl rfl (by simp [St.put]) (fun _ => rfl) rfl rfl rfl rfl rfl el27 agg3 sz3 (.inr rfl) (by omega) hid0 fun p ces hces => ?_
                obtain rfl := rInt_open hces
                clear hces
                simp only [ofCells, Bool.false_eq_true, if_false, List.headD_cons]
                refine WO.go 3 (ds := [some 48, some 49, some 50, some 51, some 52, some 53, some 54, some 55, some 56, some 57, some 58, some 59, some 60, some 61, some 62]) rfl ?_
                simp only [sx, ty, q1, q2, q5, q6, q7, q8, q9, qa, qb, reduceIte, sy, q3, q4]
                with_reducible refine WO.nil ?_
                refine ⟨rfl, ?_, ⟨_, rfl⟩, by simp [Own.bnd, bndL, bnd, boxO], by simp⟩
                try simp [getE, bnd, keepE]
                try omega
              · skip
                refine WO.go 9 (ds := [some 48, some 49, some 50, some 51, some 52, some 53, some 54, some 55, some 56, some 57, some 58, some 59, some 60, some 61, some 62]) rfl ?_
                simp only [sx, ty, q1, q2, q5, q6, q7, q8, q9, qa, qb, reduceIte, sy, q3, q4]
                with_reducible refine WO.nil ?_
                refine ⟨rfl, ?_, ⟨_, rfl⟩, by simp [Own.bnd, bndL, bnd, boxO], by simp⟩
                try simp [getE, bnd, keepE]
                try omega
            · simp only [sx, ty, q1, q2, q5, q6, q7, q8, q9, qa, qb, reduceIte, sxk, sy, q3, q4]
              refine W.cond rfl rfl (fun hc => ?_) (fun hc => ?_)
              · skip
                simp at hc
              · skip
                refine W.skip (hK19 _ ?_)
                refine W.region ?_
                refine WO.go 3 (ds := []) rfl ?_
                simp only [sx, ty, q1, q2, q5, q6, q7, q8, q9, qa, qb, reduceIte, sy, q3, q4]
                refine WO.append (k := 2) (m := 1) (deV y) (ds := []) rfl rfl rfl rfl rfl rfl rfl ek22 (news_own (k2 := 4) rfl fun _ => rfl) rfl (by simp [deV, Value.oneCell']) (by rw [maxLen_eq]; omega) (by omega) fun p6 c6 => ?_
                refine WO.go 1 (ds := []) rfl ?_
                simp only [sx, ty, q1, q2, q5, q6, q7, q8, q9, qa, qb, reduceIte, sy, q3, q4]
                with_reducible refine WO.nil ?_
                refine hK16 _ ?_
                refine W.region ?_
                refine WO.go 2 (ds := []) rfl ?_
                simp only [sx, ty, q1, q2, q5, q6, q7, q8, q9, qa, qb, reduceIte, sy, q3, q4]
                with_reducible refine WO.nil ?_
                refine ⟨(i + 1, l ++ [y], p6, c6), ⟨hlt, by simp only; rw [hll, List.take_add_one, hy]; rfl⟩, by simp only; omega, rfl, by simp [getE, bnd, keepE, wrap_succ (show i + 1 ≤ 9223372036854775807 by omega)], ⟨_, by simp only [desV_app, List.length_append, List.length_singleton]; rfl⟩, by simp [Own.bnd, bndL, bnd], by simp⟩
          · skip
            have him : i = ids.length := Nat.le_antisymm hic (by simpa using hc)
            rw [him, hil, List.take_length] at hll
            subst l
            refine W.exit (hK12 _ ?_)
            refine W.pure (ds := []) rfl fun K21 hK21 => ?_
            simp only [sx, ty, q1, q2, q5, q6, q7, q8, q9, qa, qb, reduceIte, sy, q3, q4]; with_reducible refine hK21 _ ?_; clear hK21
            refine W.pure (ds := []) rfl fun K22 hK22 => ?_
            simp only [sx, ty, q1, q2, q5, q6, q7, q8, q9, qa, qb, reduceIte, sy, q3, q4]; with_reducible refine hK22 _ ?_; clear hK22
            refine W.seqK fun K23 hK23 => ?_
            refine W.pinA (by simp [smallO]) fun β => ?_
            obtain ⟨b1, hb1⟩ : ∃ b1, β 1 = b1 := ⟨_, rfl⟩
            obtain ⟨b3, hb3⟩ : ∃ b3, β 3 = b3 := ⟨_, rfl⟩
            obtain ⟨b4, hb4⟩ : ∃ b4, β 4 = b4 := ⟨_, rfl⟩
            simp only [pinEn, pinOw, den, denL, Nat.zero_add, Nat.reduceAdd, hb1, hb3, hb4]
            refine W.seqK fun K24 hK24 => W.region ?_
            refine WO.loadBox (k := 4) (i := 0) (sz := 1) rfl (ds := []) rfl rfl rfl rfl rfl (by simp [Addr.add_mid]) (by simp) agg59 sz59 (.inr rfl) ?_
            simp only [List.drop_succ_cons, List.drop_zero, List.take_succ_cons, List.take_zero, ofCells, Bool.false_eq_true, if_false, List.headD_cons, if_true, List.toList_toArray]
            simp only [sx, ty, q1, q2, q5, q6, q7, q8, q9, qa, qb, reduceIte, sy, q3, q4]
            refine WO.loadBox (k := 1) (i := 0) (sz := 1) rfl (ds := []) rfl rfl rfl rfl rfl (by simp [Addr.add_mid]) (by simp) agg22 sz22 (.inr rfl) ?_
            simp only [List.drop_succ_cons, List.drop_zero, List.take_succ_cons, List.take_zero, ofCells, Bool.false_eq_true, if_false, List.headD_cons, if_true, List.toList_toArray]
            simp only [sx, ty, q1, q2, q5, q6, q7, q8, q9, qa, qb, reduceIte, sy, q3, q4]
            refine WO.call (.bool false) (ds := []) rfl rfl rfl rfl co35 (fun ρ w1 hb => met35_spec (box_at (k := 3) hb rfl) (own_old (j := 3) hb rfl rfl) (own_slice (A := rDE) (S := fun _ => True) (k := 2) hb rfl rfl (fun _ _ => trivial) (des_read nm)) (fun z hz => (he z (hmem z hz)).now (hb.first (by simp))) (Rp.now hl2 (hb.first (by simp))) hvn h11 false (by simp [hL.no])) ?_
            simp only [sx, ty, q1, q2, q5, q6, q7, q8, q9, qa, qb, reduceIte, sy, q3, q4]
            with_reducible refine WO.nil ?_
            refine hK24 _ ?_; clear hK24
            refine W.cond rfl rfl (fun hc => ?_) (fun hc => ?_)
            · skip
              simp at hc
            · skip
              refine W.skip (hK23 _ ?_)
              refine W.pure (ds := []) rfl fun K25 hK25 => ?_
              simp only [sx, ty, q1, q2, q5, q6, q7, q8, q9, qa, qb, reduceIte, sy, q3, q4]; with_reducible refine hK25 _ ?_; clear hK25
              refine W.seqK fun K26 hK26 => W.region ?_
              refine WO.loadBox (k := 1) (i := 0) (sz := 1) rfl (ds := []) rfl rfl rfl rfl rfl (by simp [Addr.add_mid]) (by simp) agg22 sz22 (.inr rfl) ?_
              simp only [List.drop_succ_cons, List.drop_zero, List.take_succ_cons, List.take_zero, ofCells, Bool.false_eq_true, if_false, List.headD_cons, if_true, List.toList_toArray]
              refine WO.go 1 (ds := []) rfl ?_
              simp only [sx, ty, q1, q2, q5, q6, q7, q8, q9, qa, qb, reduceIte, sy, q3, q4]
              refine WO.call (.bool false) (ds := []) rfl rfl rfl rfl co38 (fun ρ w1 hb => containsNo_spec (own_slice (A := rDE) (S := fun _ => True) (k := 2) hb rfl rfl (fun _ _ => trivial) (des_read nm)) rfl hn12 39 #[.pointer (some ⟨ρ 5, 0, none⟩)] co39 fun w2 hk x hx => notneed_spec ((own_cells (k := 5) hb rfl 0).1.frame (hk.block _ trivial (own_cells (k := 5) hb rfl 0).2)) (Nat.lt_of_lt_of_le (own_cells (k := 5) hb rfl 0).2 hk.size) ((box_at (k := 3) hb rfl).frame (hk.block _ trivial (own_old (j := 3) hb rfl rfl))) (Nat.lt_of_lt_of_le (own_old (j := 3) hb rfl rfl) hk.size) ((box_at (k := 4) hb rfl).frame (hk.block _ trivial (own_old (j := 4) hb rfl rfl))) (Nat.lt_of_lt_of_le (own_old (j := 4) hb rfl rfl) hk.size) ((box_at (k := 1) hb rfl).frame (hk.block _ trivial (own_old (j := 1) hb rfl rfl))) (Nat.lt_of_lt_of_le (own_old (j := 1) hb rfl rfl) hk.size) (Rp.now (own_slice (A := rDE) (S := fun _ => True) (k := 2) hb rfl rfl (fun _ _ => trivial) (des_read nm)) hk) (fun z hz => (he z (hmem z hz)).now ((hb.first (by simp)).trans hk)) (Rp.now hl2 ((hb.first (by simp)).trans hk)) hvn h11 hn12 hpos x (by have := hL.min x.1 (List.mem_map.2 ⟨x, hx, rfl⟩); exact this)) ?_
              refine WO.go 3 (ds := []) rfl ?_
              simp only [sx, ty, q1, q2, q5, q6, q7, q8, q9, qa, qb, reduceIte, sy, q3, q4]
              with_reducible refine WO.nil ?_
              refine hK26 _ ?_; clear hK26
              refine W.ret ⟨by simp, _, rfl, fun ρ w1 hb => ?_⟩
              rfl
end Go.Proofs.YtolmeekbjonbcaaGreat
set_option linter.unusedVariables false
set_option linter.unusedSimpArgs false
set_option maxHeartbeats 2000000
namespace Go.Proofs.YtolmeekbjonbcaaGreat
open Int renaming reduceEq → q1, reduceLT → q2, reduceBEq → q3, reduceBNe → q4
open Nat renaming reduceAdd → q5, reduceSub → q6, reduceMul → q7, reduceLT → q8, reduceLeDiff → q9, reduceEqDiff → qa
open List renaming reduceReplicate → qb
open Go Go.SX Go.RowKit
def d9 (id : Int) : Dem := (id, 7, id, [3])
def cs9 : List Cop := [(5, 7, 3, 0), (6, 7, 3, 1)]
def e9 (id : Int) (b : Nat) : DE := (d9 id, some ⟨b, 0, none⟩, 1)
theorem cost9 : ∀ id, id ∈ [(2 : Int), 1, 4] → costF (d9 id) (5, 7, 3, 0) 0 = 0 ∧ costF (d9 id) (6, 7, 3, 1) 0 = 5 := by decide
theorem valid9 : valid [d9 2, d9 1] cs9 = true := by decide
theorem valid9' : valid [d9 2, d9 1, d9 4] cs9 = true := by decide
theorem meet9 {left : List Dem} (h : ∀ x, x ∈ left → ∃ id, id ∈ [(2 : Int), 1, 4] ∧ x = d9 id) (hl : left.length ≤ 2) : MeetL left cs9 := by
  refine ⟨fun x => left.idxOf x, fun x hx => ?_, fun x y hx hy he => ?_⟩
  · obtain ⟨id, h1, rfl⟩ := h x hx
    have h2 := List.idxOf_lt_length_of_mem hx
    obtain ⟨h3, h4⟩ := cost9 id h1
    show ∃ c, cs9[left.idxOf (d9 id)]? = some c ∧ 0 ≤ costF (d9 id) c 0
    rcases Nat.lt_or_ge (left.idxOf (d9 id)) 1 with h5 | h5
    · rw [show left.idxOf (d9 id) = 0 by omega]
      exact ⟨_, rfl, by rw [h3]; exact Int.le_refl _⟩
    · rw [show left.idxOf (d9 id) = 1 by omega]
      exact ⟨_, rfl, by rw [h4]; decide⟩
  · have h1 := idx_get hx
    have h2 := idx_get hy
    simp only at he
    rw [he, h2] at h1
    exact (Option.some.inj h1).symm
theorem no9 : ¬ MeetL [d9 2, d9 1, d9 4] cs9 := by
  rintro ⟨g, h1, h2⟩
  have hlt : ∀ x, x ∈ [d9 2, d9 1, d9 4] → g x ∈ List.range 2 := fun x hx => by
    obtain ⟨c, hc, _⟩ := h1 x hx
    exact List.mem_range.2 (List.getElem?_eq_some_iff.1 hc).1
  have h3 := nodup_len (l := [d9 2, d9 1, d9 4].map g) (m := List.range 2) (nodup_map (by decide) fun x y hx hy he => h2 x y hx hy he) fun k hk => by
    obtain ⟨x, hx, rfl⟩ := List.mem_map.1 hk
    exact hlt x hx
  simp at h3
theorem mem9 {x : Dem} (h : x ∈ [d9 2, d9 1, d9 4]) : ∃ id, id ∈ [(2 : Int), 1, 4] ∧ x = d9 id := by
  simp only [List.mem_cons, List.not_mem_nil, or_false] at h
  rcases h with rfl | rfl | rfl
  · exact ⟨2, by simp, rfl⟩
  · exact ⟨1, by simp, rfl⟩
  · exact ⟨4, by simp, rfl⟩
theorem least9 : Least [d9 1, d9 2, d9 4] cs9 := by
  have hp : [d9 1, d9 2, d9 4].Perm [d9 2, d9 1, d9 4] := List.Perm.swap ..
  refine Least.perm ⟨no9, fun x hx => meet9 (fun y hy => mem9 (mem_without.1 hy).1) ?_⟩ hp
  obtain ⟨id, h1, rfl⟩ := mem9 hx
  simp only [List.mem_cons, List.not_mem_nil, or_false] at h1
  rcases h1 with rfl | rfl | rfl <;> decide
theorem yes9 : MeetL [d9 2, d9 1] cs9 := meet9 (fun x hx => mem9 (by simp only [List.mem_cons, List.not_mem_nil, or_false] at hx ⊢; rcases hx with h | h <;> simp [h])) (by decide)
theorem ref9 {ids : List Int} (h : RefP [d9 2, d9 1, d9 4] cs9 ids) : ids = [1, 2, 4] := by
  obtain ⟨left, h1, h2, h3, h4⟩ := h
  have h5 : left = [d9 2, d9 1, d9 4] := by
    refine h1.eq_of_length (Nat.le_antisymm h1.length_le ?_)
    rcases Nat.lt_or_ge left.length 3 with h | h
    · exact absurd (meet9 (fun x hx => mem9 (h1.subset hx)) (by omega)) h2.no
    · exact h
  subst h5
  have h6 : ids.Perm [1, 2, 4] := h4.trans (List.Perm.swap ..)
  exact List.Perm.eq_of_pairwise (fun a b _ _ h1 h2 => by omega) h3 (by decide) h6
theorem first9 {at' : List Nat} (h : BP [d9 2, d9 1] cs9 0 at') : at'.getD 0 0 = 0 := by
  have hc0 : ∀ i, i < 2 → CF [d9 2, d9 1] cs9 0 i 0 = 0 ∧ CF [d9 2, d9 1] cs9 0 i 1 = 5 := by decide
  have hm : wideF (costsF [d9 2, d9 1] cs9 0) cs9.length = 2 := by decide
  have h1 := h.mat
  have h2 := h.lex
  rw [hm] at h1 h2
  simp only [List.length_cons, List.length_nil] at h1 h2
  have a0 := h1.lt 0 (by omega)
  have a1 := h1.lt 1 (by omega)
  have a2 := h1.inj 0 1 (by omega) (by omega)
  have hM : Mat (CF [d9 2, d9 1] cs9 0) 2 2 (fun i => i) := ⟨fun i hi => hi, fun i hi => by
    rcases Nat.lt_or_ge i 1 with h | h
    · obtain rfl : i = 0 := by omega
      exact (hc0 0 (by omega)).1 ▸ Int.le_refl _
    · obtain rfl : i = 1 := by omega
      rw [(hc0 1 (by omega)).2]; decide, fun i j _ _ he => he⟩
  rcases Nat.eq_zero_or_pos (at'.getD 0 0) with h3 | h3
  · exact h3
  · have b0 : at'.getD 0 0 = 1 := by omega
    have b1 : at'.getD 1 0 = 0 := by
      rcases Nat.eq_zero_or_pos (at'.getD 1 0) with h4 | h4
      · exact h4
      · have := a2 (by omega); omega
    have h4 := h2 _ hM (by
      simp only [costS, List.range_succ, List.range_zero, List.nil_append, List.cons_append, List.map_cons, List.map_nil, List.sum_cons, List.sum_nil, b0, b1]
      rw [(hc0 0 (by omega)).1, (hc0 1 (by omega)).2, (hc0 0 (by omega)).2, (hc0 1 (by omega)).1]; rfl) 0 (by omega) (fun i hi => by omega)
    omega
/-- function 19 -/
theorem demand_spec (w : World) (id : Int) : Gives Tryz.prog 19 #[.int .i64 id] w fun r w' => ∃ b : Nat, r = deA (e9 id b) ∧ OkE (fun b => w.heap.size ≤ b) w' (e9 id b) := by
  refine gives_of [.val (.int .i64 id)] 7 [.cell 2 41] Tryz.func19 rfl rfl rfl (by simp) rfl rfl ?_
  refine W.pure (ds := []) rfl fun K1 hK1 => ?_
  simp only [sx, ty, q1, q2, q5, q6, q7, q8, q9, qa, qb, reduceIte, sy, q3, q4]; with_reducible refine hK1 _ ?_; clear hK1
  refine W.pure (ds := []) rfl fun K2 hK2 => ?_
  simp only [sx, ty, q1, q2, q5, q6, q7, q8, q9, qa, qb, reduceIte, sy, q3, q4]; with_reducible refine hK2 _ ?_; clear hK2
  refine W.ret ?_
  refine ⟨by simp, RunR.ex ?_⟩
  simp only [sx, ty, q1, q2, q5, q6, q7, q8, q9, qa, qb, reduceIte, sxr, sy, q3, q4]
  intro ρ w1 hb
  exact ⟨ρ 1, rfl, own_listS (A := rInt) (k := 1) (n := 1) (c := 1) (xs := [3]) hb rfl rfl (Nat.le_refl _) (by omega) (own_new (w0 := w) (b := ρ 1) hb (by simp) (k := 1) rfl rfl) (by rintro (_ | i) y hy <;> first | (cases hy; rfl) | simp at hy)⟩
end Go.Proofs.YtolmeekbjonbcaaGreat
set_option linter.unusedVariables false
set_option linter.unusedSimpArgs false
set_option maxHeartbeats 2000000
namespace Go.Proofs.YtolmeekbjonbcaaGreat
open Int renaming reduceEq → q1, reduceLT → q2, reduceBEq → q3, reduceBNe → q4
open Nat renaming reduceAdd → q5, reduceSub → q6, reduceMul → q7, reduceLT → q8, reduceLeDiff → q9, reduceEqDiff → qa
open List renaming reduceReplicate → qb
open Go Go.SX Go.RowKit
set_option maxRecDepth 20000 in
/-- function 5 -/
theorem planned_spec (w : World) : Gives Tryz.prog 5 #[] w fun r _ => r = .bool true := by
  have h22 : (((2 : Nat) : Int) == 2) = true := rfl
  refine gives_of [] 85 [.tmp 0] Tryz.func5 rfl rfl rfl (by simp) rfl rfl ?_
  refine W.pure (ds := []) rfl fun K1 hK1 => ?_
  simp only [sx, ty, q1, q2, q5, q6, q7, q8, q9, qa, qb, reduceIte, sy, q3, q4]; with_reducible refine hK1 _ ?_; clear hK1
  refine W.pure (ds := []) rfl fun K2 hK2 => ?_
  simp only [sx, ty, q1, q2, q5, q6, q7, q8, q9, qa, qb, reduceIte, sy, q3, q4]; with_reducible refine hK2 _ ?_; clear hK2
  refine W.seqK fun K3 hK3 => W.region ?_
  refine WO.callM (fun b : Nat => deA (e9 2 b)) (fun lo b s8 => w.heap.size ≤ lo ∧ OkE (fun x => lo ≤ x) s8 (e9 2 b)) (ds := []) rfl rfl rfl rfl co19 (fun ρ w1 hb => Gives.mono (demand_spec w1 2) fun r w9 _ ⟨b, h1, h2⟩ => ⟨b, h1, (hb.at (S := fun _ => True) (s := w) (by simp [St.put])).size, h2⟩) fun b1 lo1 s1 hx1 => ?_
  obtain ⟨hlo1, hx1⟩ := hx1
  simp only [deA, e9, d9]
  simp only [sx, ty, q1, q2, q5, q6, q7, q8, q9, qa, qb, reduceIte, sy, q3, q4]
  refine WO.callM (fun b : Nat => deA (e9 1 b)) (fun lo b s8 => w.heap.size ≤ lo ∧ OkE (fun x => lo ≤ x) s8 (e9 1 b)) (ds := []) rfl rfl rfl rfl co19 (fun ρ w1 hb => Gives.mono (demand_spec w1 1) fun r w9 _ ⟨b, h1, h2⟩ => ⟨b, h1, (hb.at (S := fun _ => True) (s := w) (by simp [St.put])).size, h2⟩) fun b2 lo2 s2 hx2 => ?_
  obtain ⟨hlo2, hx2⟩ := hx2
  simp only [deA, e9, d9]
  refine WO.go 2 (ds := []) rfl ?_
  simp only [sx, ty, q1, q2, q5, q6, q7, q8, q9, qa, qb, reduceIte, sy, q3, q4]
  refine WO.callM (fun x : List Nat × Option Addr × Nat => .tuple #[.slice x.2.1 2 x.2.2, .slice none 0 0, .bool true, .int .i64 0]) (fun lo x s8 => w.heap.size ≤ lo ∧ BP [d9 2, d9 1] cs9 0 x.1 ∧ rGivs.rd (fun b => lo ≤ b) s8 [.slice x.2.1 2 x.2.2] (planL [d9 2, d9 1] cs9 0 x.1 2)) (ds := []) rfl rfl rfl rfl co8 (fun ρ w1 hb => ?_) fun x lo9 s9 hx9 => ?_
  · have hd := close_des (own_listS (S := fun _ => True) (A := rDE) (k := 1) (n := 2) (c := 2) (xs := [e9 2 b1, e9 1 b2]) hb rfl rfl (Nat.le_refl _) (by omega) trivial (by rintro (_ | _ | _ | i) y hy <;> first | (cases hy; rfl) | simp at hy)) (fun x hx => by
      simp only [List.mem_cons, List.not_mem_nil, or_false] at hx
      rcases hx with rfl | rfl
      · exact Rp.any (Rp.keep hx1 (hb.at (by simp [St.put])))
      · exact Rp.any (Rp.keep hx2 (hb.at (by simp [St.put]))))
    have h9 := plan_yes (ds := [d9 2, d9 1]) (cs := cs9) (hall := 0) hd (own_listS (S := fun _ => True) (A := rCop) (k := 0) (n := 2) (c := 2) (xs := cs9) hb rfl rfl (Nat.le_refl _) (by omega) trivial (by rintro (_ | _ | i) y hy <;> first | (cases hy; exact ⟨[_], _, rfl, rfl, [_], _, rfl, rfl, [_], _, rfl, rfl, rfl⟩) | simp [cs9] at hy)) valid9 rfl (by decide) (by decide) yes9
    exact h9.mono fun r w9 _ ⟨x, h1, h2, h3⟩ => ⟨x, h1, (hb.at (S := fun _ => True) (s := w) (by simp [St.put])).size, h2, h3⟩
  obtain ⟨at9, pg, cg⟩ := x
  obtain ⟨hlo9, hBP, hout⟩ := hx9
  simp only at hBP hout
  refine WO.go 9 (ds := []) rfl ?_
  simp only [sx, ty, q1, q2, q5, q6, q7, q8, q9, qa, qb, reduceIte, sy, q3, q4]
  with_reducible refine WO.nil ?_
  refine hK3 _ ?_; clear hK3
  refine W.seqK fun K4 hK4 => W.region ?_
  refine WO.callM (fun b : Nat => deA (e9 2 b)) (fun lo b s8 => w.heap.size ≤ lo ∧ OkE (fun x => lo ≤ x) s8 (e9 2 b)) (ds := []) rfl rfl rfl rfl co19 (fun ρ w1 hb => Gives.mono (demand_spec w1 2) fun r w9 _ ⟨b, h1, h2⟩ => ⟨b, h1, (hb.at (S := fun _ => True) (s := w) (by simp [St.put])).size, h2⟩) fun b3 lo3 s3 hx3 => ?_
  obtain ⟨hlo3, hx3⟩ := hx3
  simp only [deA, e9, d9]
  simp only [sx, ty, q1, q2, q5, q6, q7, q8, q9, qa, qb, reduceIte, sy, q3, q4]
  refine WO.callM (fun b : Nat => deA (e9 1 b)) (fun lo b s8 => w.heap.size ≤ lo ∧ OkE (fun x => lo ≤ x) s8 (e9 1 b)) (ds := []) rfl rfl rfl rfl co19 (fun ρ w1 hb => Gives.mono (demand_spec w1 1) fun r w9 _ ⟨b, h1, h2⟩ => ⟨b, h1, (hb.at (S := fun _ => True) (s := w) (by simp [St.put])).size, h2⟩) fun b4 lo4 s4 hx4 => ?_
  obtain ⟨hlo4, hx4⟩ := hx4
  simp only [deA, e9, d9]
  simp only [sx, ty, q1, q2, q5, q6, q7, q8, q9, qa, qb, reduceIte, sy, q3, q4]
  refine WO.callM (fun b : Nat => deA (e9 4 b)) (fun lo b s8 => w.heap.size ≤ lo ∧ OkE (fun x => lo ≤ x) s8 (e9 4 b)) (ds := []) rfl rfl rfl rfl co19 (fun ρ w1 hb => Gives.mono (demand_spec w1 4) fun r w9 _ ⟨b, h1, h2⟩ => ⟨b, h1, (hb.at (S := fun _ => True) (s := w) (by simp [St.put])).size, h2⟩) fun b5 lo5 s5 hx5 => ?_
  obtain ⟨hlo5, hx5⟩ := hx5
  simp only [deA, e9, d9]
  refine WO.go 2 (ds := []) rfl ?_
  simp only [sx, ty, q1, q2, q5, q6, q7, q8, q9, qa, qb, reduceIte, sy, q3, q4]
  refine WO.callM (fun x : Option Addr × Nat => .tuple #[.slice none 0 0, .slice x.1 3 x.2, .bool false, .int .i64 0]) (fun lo x s8 => w.heap.size ≤ lo ∧ rInts.rd (fun b => lo ≤ b) s8 [.slice x.1 3 x.2] [1, 2, 4]) (ds := []) rfl rfl rfl rfl co8 (fun ρ w1 hb => ?_) fun x loa sa hxa => ?_
  · have hd := close_des (own_listS (S := fun _ => True) (A := rDE) (k := 2) (n := 3) (c := 3) (xs := [e9 2 b3, e9 1 b4, e9 4 b5]) hb rfl rfl (Nat.le_refl _) (by omega) trivial (by rintro (_ | _ | _ | i) y hy <;> first | (cases hy; rfl) | simp at hy)) (fun x hx => by
      simp only [List.mem_cons, List.not_mem_nil, or_false] at hx
      rcases hx with rfl | rfl | rfl
      · exact Rp.any (Rp.keep hx3 (hb.at (by simp [St.put])))
      · exact Rp.any (Rp.keep hx4 (hb.at (by simp [St.put])))
      · exact Rp.any (Rp.keep hx5 (hb.at (by simp [St.put]))))
    have h9 := plan_no (ds := [d9 2, d9 1, d9 4]) (cs := cs9) (hall := 0) hd (own_listS (S := fun _ => True) (A := rCop) (k := 0) (n := 2) (c := 2) (xs := cs9) hb rfl rfl (Nat.le_refl _) (by omega) trivial (by rintro (_ | _ | i) y hy <;> first | (cases hy; exact ⟨[_], _, rfl, rfl, [_], _, rfl, rfl, [_], _, rfl, rfl, rfl⟩) | simp [cs9] at hy)) valid9' rfl (by decide) (by decide) no9
    exact h9.mono fun r w9 _ ⟨⟨ids, px, cx⟩, h1, h2, h3⟩ => by
      have hi := ref9 h2
      simp only at hi h1 h3
      subst hi
      exact ⟨(px, cx), h1, (hb.at (S := fun _ => True) (s := w) (by simp [St.put])).size, h3⟩
  obtain ⟨pr, cr⟩ := x
  obtain ⟨hloa, hxa⟩ := hxa
  simp only at hxa
  refine WO.go 9 (ds := []) rfl ?_
  simp only [sx, ty, q1, q2, q5, q6, q7, q8, q9, qa, qb, reduceIte, sy, q3, q4]
  with_reducible refine WO.nil ?_
  refine hK4 _ ?_; clear hK4
  refine W.seqK fun K5 hK5 => W.region ?_
  refine WO.callM (fun b : Nat => deA (e9 2 b)) (fun lo b s8 => w.heap.size ≤ lo ∧ OkE (fun x => lo ≤ x) s8 (e9 2 b)) (ds := []) rfl rfl rfl rfl co19 (fun ρ w1 hb => Gives.mono (demand_spec w1 2) fun r w9 _ ⟨b, h1, h2⟩ => ⟨b, h1, (hb.at (S := fun _ => True) (s := w) (by simp [St.put])).size, h2⟩) fun b6 lo6 s6 hx6 => ?_
  obtain ⟨hlo6, hx6⟩ := hx6
  simp only [deA, e9, d9]
  simp only [sx, ty, q1, q2, q5, q6, q7, q8, q9, qa, qb, reduceIte, sy, q3, q4]
  refine WO.callM (fun b : Nat => deA (e9 1 b)) (fun lo b s8 => w.heap.size ≤ lo ∧ OkE (fun x => lo ≤ x) s8 (e9 1 b)) (ds := []) rfl rfl rfl rfl co19 (fun ρ w1 hb => Gives.mono (demand_spec w1 1) fun r w9 _ ⟨b, h1, h2⟩ => ⟨b, h1, (hb.at (S := fun _ => True) (s := w) (by simp [St.put])).size, h2⟩) fun b7 lo7 s7 hx7 => ?_
  obtain ⟨hlo7, hx7⟩ := hx7
  simp only [deA, e9, d9]
  simp only [sx, ty, q1, q2, q5, q6, q7, q8, q9, qa, qb, reduceIte, sy, q3, q4]
  refine WO.callM (fun b : Nat => deA (e9 4 b)) (fun lo b s8 => w.heap.size ≤ lo ∧ OkE (fun x => lo ≤ x) s8 (e9 4 b)) (ds := []) rfl rfl rfl rfl co19 (fun ρ w1 hb => Gives.mono (demand_spec w1 4) fun r w9 _ ⟨b, h1, h2⟩ => ⟨b, h1, (hb.at (S := fun _ => True) (s := w) (by simp [St.put])).size, h2⟩) fun b8 lo8 s8 hx8 => ?_
  obtain ⟨hlo8, hx8⟩ := hx8
  simp only [deA, e9, d9]
  refine WO.go 3 (ds := []) rfl ?_
  simp only [sx, ty, q1, q2, q5, q6, q7, q8, q9, qa, qb, reduceIte, sy, q3, q4]
  refine WO.callX (fun _ : Unit => .tuple #[.bool true, .int .i64 0]) (fun _ => True) (ds := []) rfl rfl rfl rfl co20 (fun ρ w1 hb => ?_) fun _ _ => ?_
  · have h9 := refuses_spec (xs := [e9 2 b6, e9 1 b7, e9 4 b8]) (nm := [e9 1 b7, e9 2 b6, e9 4 b8]) (cs := cs9) (ids := [1, 2, 4]) (own_listS (S := fun _ => True) (A := rDE) (k := 3) (n := 3) (c := 3) (xs := [e9 2 b6, e9 1 b7, e9 4 b8]) hb rfl rfl (Nat.le_refl _) (by omega) trivial (by rintro (_ | _ | _ | i) y hy <;> first | (cases hy; rfl) | simp at hy)) rfl (fun x hx => by
      simp only [List.mem_cons, List.not_mem_nil, or_false] at hx
      rcases hx with rfl | rfl | rfl
      · exact Rp.any (Rp.keep hx6 (hb.at (by simp [St.put])))
      · exact Rp.any (Rp.keep hx7 (hb.at (by simp [St.put])))
      · exact Rp.any (Rp.keep hx8 (hb.at (by simp [St.put])))) (own_listS (S := fun _ => True) (A := rCop) (k := 0) (n := 2) (c := 2) (xs := cs9) hb rfl rfl (Nat.le_refl _) (by omega) trivial (by rintro (_ | _ | i) y hy <;> first | (cases hy; exact ⟨[_], _, rfl, rfl, [_], _, rfl, rfl, [_], _, rfl, rfl, rfl⟩) | simp [cs9] at hy)) (Rp.any (Rp.keep hxa (hb.at (by simp [St.put])))) valid9' (by decide) (by decide) rfl (fun y hy => by
      simp only [List.mem_cons, List.not_mem_nil, or_false] at hy ⊢
      rcases hy with h | h | h <;> simp [h]) (by decide) (show valid [d9 1, d9 2, d9 4] cs9 = true by decide) least9 (by simp)
    exact h9.mono fun r w9 _ h => ⟨(), h, trivial⟩
  refine WO.go 5 (ds := []) rfl ?_
  simp only [sx, ty, q1, q2, q5, q6, q7, q8, q9, qa, qb, reduceIte, sy, q3, q4]
  with_reducible refine WO.nil ?_
  refine hK5 _ ?_; clear hK5
  refine W.join 0 (.val (.bool true)) [] (W.region ?_) ?_
  · skip
    refine WO.go 27 (ds := [some 46, some 47, some 48, some 49, some 50, some 51, some 52, some 53, some 54, some 55, some 56, some 57, some 58, some 59, some 60, some 61, some 62, some 63, some 64, some 65, some 66, some 67, some 68, some 69, some 70, some 71, some 72, some 73, some 74, some 75, some 76, some 77, some 78, some 79, some 80, some 81, some 82, some 83, some 84, some 0]) rfl ?_
    simp only [sx, ty, q1, q2, q5, q6, q7, q8, q9, qa, qb, reduceIte, sy, q3, q4, h22]
    refine WO.elem (y := ((2, 5, 0) : Giv)) hout (by simp [St.put]) (ds := [some 46, some 47, some 48, some 49, some 50, some 51, some 52, some 53, some 54, some 55, some 56, some 57, some 58, some 59, some 60, some 61, some 62, some 63, some 64, some 65, some 66, some 67, some 68, some 69, some 70, some 71, some 72, some 73, some 74, some 75, some 76, some 77, some 78, some 79, some 80, some 81, some 82, some 83, some 84, some 0]) rfl rfl rfl (by simp [St.put]) (fun _ => rfl) rfl rfl rfl rfl rfl el26 agg39 sz39 (.inl rfl) (by omega) ((by simp only [planL, List.range_succ, List.range_zero, List.nil_append, List.cons_append, List.map_cons, givF, first9 hBP]; rfl)) fun p ces hces => ?_
    obtain rfl := rGiv_open hces
    clear hces
    refine WO.go 1 (ds := [some 46, some 47, some 48, some 49, some 50, some 51, some 52, some 53, some 54, some 55, some 56, some 57, some 58, some 59, some 60, some 61, some 62, some 63, some 64, some 65, some 66, some 67, some 68, some 69, some 70, some 71, some 72, some 73, some 74, some 75, some 76, some 77, some 78, some 79, some 80, some 81, some 82, some 83, some 84, some 0]) rfl ?_
    simp only [sx, ty, q1, q2, q5, q6, q7, q8, q9, qa, qb, reduceIte, sy, q3, q4, h22]
    refine WO.aggCmp [2, 5, 0] [2, 5, 0] (ds := [some 46, some 47, some 48, some 49, some 50, some 51, some 52, some 53, some 54, some 55, some 56, some 57, some 58, some 59, some 60, some 61, some 62, some 63, some 64, some 65, some 66, some 67, some 68, some 69, some 70, some 71, some 72, some 73, some 74, some 75, some 76, some 77, some 78, some 79, some 80, some 81, some 82, some 83, some 84, some 0]) rfl rfl rfl rfl ⟨_, rfl, fun _ => rfl⟩ ⟨_, rfl, fun _ => rfl⟩ it39 rfl rfl rfl ?_
    refine WO.go 6 (ds := [some 46, some 47, some 48, some 49, some 50, some 51, some 52, some 53, some 54, some 55, some 56, some 57, some 58, some 59, some 60, some 61, some 62, some 63, some 64, some 65, some 66, some 67, some 68, some 69, some 70, some 71, some 72, some 73, some 74, some 75, some 76, some 77, some 78, some 79, some 80, some 81, some 82, some 83, some 84, some 0]) rfl ?_
    simp only [sx, ty, q1, q2, q5, q6, q7, q8, q9, qa, qb, reduceIte, sy, q3, q4, h22]
    refine WO.call (.bool true) (ds := [some 46, some 47, some 48, some 49, some 50, some 51, some 52, some 53, some 54, some 55, some 56, some 57, some 58, some 59, some 60, some 61, some 62, some 63, some 64, some 65, some 66, some 67, some 68, some 69, some 70, some 71, some 72, some 73, some 74, some 75, some 76, some 77, some 78, some 79, some 80, some 81, some 82, some 83, some 84, some 0]) rfl rfl rfl rfl co11 (fun ρ w1 hb => by
    have q1 := own_listS (S := fun _ => True) (A := rInts) (k := 4) (n := 1) (c := 1) (xs := [[1, 2, 4]]) hb rfl rfl (Nat.le_refl _) (by omega) trivial (Rp.one (Rp.any (Rp.keep hxa (hb.at (by simp [St.put])))))
    have q2 := own_listS (S := fun _ => True) (A := rInts) (k := 6) (n := 1) (c := 1) (xs := [[1, 2, 4]]) hb rfl rfl (Nat.le_refl _) (by omega) trivial (Rp.one (own_listS (S := fun _ => True) (A := rInt) (k := 5) (n := 3) (c := 3) (xs := [1, 2, 4]) hb rfl rfl (Nat.le_refl _) (by omega) trivial (by rintro (_ | _ | _ | i) y hy <;> first | (cases hy; rfl) | simp at hy)))
    exact same_spec q1 q2) ?_
    refine WO.go 2 (ds := [some 46, some 47, some 48, some 49, some 50, some 51, some 52, some 53, some 54, some 55, some 56, some 57, some 58, some 59, some 60, some 61, some 62, some 63, some 64, some 65, some 66, some 67, some 68, some 69, some 70, some 71, some 72, some 73, some 74, some 75, some 76, some 77, some 78, some 79, some 80, some 81, some 82, some 83, some 84, some 0]) rfl ?_
    simp only [sx, ty, q1, q2, q5, q6, q7, q8, q9, qa, qb, reduceIte, sy, q3, q4, h22]
    with_reducible refine WO.nil ?_
    refine ⟨rfl, ?_, ⟨_, rfl⟩, by simp [Own.bnd, bndL, bnd, boxO], by simp⟩
    simp [getE, bnd, keepE]
  · simp only [sx, ty, q1, q2, q5, q6, q7, q8, q9, qa, qb, reduceIte, sxk, sy, q3, q4, h22]
    refine W.ret ⟨by simp, _, rfl, fun ρ w1 hb => ?_⟩
    rfl
end Go.Proofs.YtolmeekbjonbcaaGreat
set_option linter.unusedVariables false
set_option linter.unusedSimpArgs false
namespace Go.SX
open Go Go.RowKit
section
variable {P : Program} {ops : Array Oper} {Q : Exit → St → Prop} {σ : St} {o : Oper} {rest : List Oper} {ds : List (Option Nat)}
theorem QR.slc {t e : TypeId} {sz n c : Nat} {p : Option Addr} {x : Operand} {lo hi : Option Operand} {rl rh : Option (IntKind × Int)}
    (hop : o.op = .slice t x lo hi none) (hx : ev σ x = some (.val (.slice p n c))) (he : elemSz P t = some (e, sz)) (hl : bdS σ lo = some rl) (hh : bdS σ hi = some rh) (h0 : 0 ≤ loS rl) (h1 : loS rl ≤ hiS n rh) (h2 : hiS n rh ≤ c) : QR P o σ (.val (slcV sz p c (loS rl).toNat (hiS n rh).toNat)) := fun ρ a w hs => by
  refine ⟨_, ?_, fun _ _ => rfl⟩
  unfold execOp
  rw [hop]
  simp only [Sem.run_bind, Option.map_none, bdS_ev hs hl, bdS_ev hs hh, hs.ev hx ρ (Agree.refl _ _), den, run_slc he h0 h1 h2, Result.andThen_ok, Sem.run_pure]
  rfl
theorem QR.appendZ {x y : Operand} {t e : TypeId} {sz by' c' : Nat} {zs : List Value} {a : Option Addr} {s : SV} (hop : o.op = .call ⟨.builtin .append, #[x, y], #[t, t]⟩) (hx : ev σ x = some s) (hs9 : ∀ ρ w, Base ρ σ w → ∃ p n c, den ρ s = .slice p n c ∧ n ≤ c) (hsm : ∀ ρ ρ', Agree σ.own.length ρ ρ' → den ρ' s = den ρ s) (hy : ev σ y = some (.val (.slice a 0 c'))) (he : elemK P t = some (e, sz, by', zs)) : QR P o σ s := fun ρ act w hs => by
  obtain ⟨hu, i, z, hi, hz, hsz, hby, hzs, hpos, hzl⟩ := elemK_spec he
  refine ⟨den ρ s, ?_, fun ρ' hρ => (hsm ρ ρ' hρ).symm⟩
  obtain ⟨p, n, c, hden, hnc⟩ := hs9 ρ w hs.base
  unfold execOp
  rw [hop]
  simp only [Sem.run_bind, resolve, List.map_toArray, List.map_cons, List.map_nil, Sem.run_pure, Result.andThen_ok, invoke, builtin]
  rw [hs.ev hx ρ (Agree.refl _ _), hs.ev hy ρ (Agree.refl _ _)]
  simp only [den, hden]
  have hrun : (Builtin.append_ #[t, t] o.type #[.slice p n c, .slice a 0 c']).run P w = .ok (.slice p n c) w := by
    cases p <;> cases a <;> simp [Builtin.append_, run_underlying hu, sizeOf, typeInfo, hi, hsz, Builtin.lenOf, Builtin.firstCells, hnc, loadCells, storeCells, loadCellsFrom]
  rw [hrun]
  rfl
theorem own_cap {ρ : Nat → Nat} {w : World} {k T sz n c : Nat} {q : Option Addr} {xs : List Value} (hb : Base ρ σ w) (hk : nth σ.own k = some (.slice T sz (.slice q n c) n xs)) : n ≤ c := by
  have hown := hb.own k _ (by rw [← nth_eq]; exact hk) ρ (Agree.refl _ _)
  simp only [Own.holds] at hown
  rcases hown.2 with ⟨hv, hn0⟩ | ⟨g, cap, cur, hv, hbg, hcell, hnc, hcm, hcs, htake⟩
  · omega
  · simp only [Value.slice.injEq] at hv
    obtain ⟨_, _, rfl⟩ := hv
    exact hnc
/-- what is left: a slot whose value is read in a snapshot of the end -/
def FZ (σ : St) (i : Nat) (env : List (Nat × SV)) (sn : List ((Nat → Prop) × World)) (Post : (Nat → Prop) → World → Value → Prop) (τ : St) : Prop :=
  (τ.n, τ.dfs) = (σ.n, σ.dfs) ∧ (∀ p, p ∈ env → getE τ.env p.1 = some p.2 ∧ bnd 0 p.2 = true) ∧ (∀ p, p ∈ sn → p ∈ τ.snaps) ∧ ∃ s, getE τ.env i = some s ∧ ∀ ρ w, Base ρ τ w → ∃ S, Post S w (den ρ s)
theorem W.seqFreeze {x y : Code} (i : Nat) (env : List (Nat × SV)) (sn : List ((Nat → Prop) × World)) (Post : (Nat → Prop) → World → Value → Prop)
    (h1 : W P x (andThen (FZ σ i env sn Post) Q) σ) (h2 : ∀ S s v, Post S s v → W P y Q ⟨σ.n, (i, .val v) :: env, [], (S, s) :: sn, σ.dfs⟩) : W P (.seq x y) Q σ :=
  W.seqM _ h1 fun τ ⟨hn, he, hsn, s, hs, hp⟩ => fun ρ a w hsat => by
    obtain ⟨S, hS⟩ := hp ρ w hsat.base
    refine h2 S w (den ρ s) hS ρ a w ?_
    have hn1 : τ.n = σ.n := congrArg Prod.fst hn
    have hn2 : τ.dfs = σ.dfs := congrArg Prod.snd hn
    refine ⟨by rw [← hn1]; exact hsat.size, by rw [← hn2]; exact hsat.defers, fun j u hj => ?_, ⟨fun k o hk => by simp at hk, fun k j ok oj b hk => by simp at hk, fun p hp => ?_⟩⟩
    · simp only [getE] at hj
      split at hj
      · rename_i hij
        obtain rfl := hij
        obtain rfl := Option.some.inj hj
        obtain ⟨q1, q2⟩ := hsat.env _ s hs
        exact ⟨by rw [← hn1]; exact q1, fun ρ' _ => q2 ρ (Agree.refl _ _)⟩
      · obtain ⟨q1, q2⟩ := he (j, u) (getE_in hj)
        obtain ⟨q3, q4⟩ := hsat.env j u q1
        refine ⟨by rw [← hn1]; exact q3, fun ρ' _ => ?_⟩
        rw [den_agree (m := 0) (ρ := ρ) (fun i hi => by omega) u q2]
        exact q4 ρ (Agree.refl _ _)
    · rcases List.mem_cons.1 hp with rfl | hp
      · exact ⟨Keep.refl _ _, fun k o b hk => by simp at hk⟩
      · exact ⟨(hsat.base.keep p (hsn p hp)).1, fun k o b hk => by simp at hk⟩
end
end Go.SX
set_option linter.unusedVariables false
set_option linter.unusedSimpArgs false
set_option maxHeartbeats 2000000
namespace Go.Proofs.YtolmeekbjonbcaaGreat
open Int renaming reduceEq → q1, reduceLT → q2, reduceBEq → q3, reduceBNe → q4
open Nat renaming reduceAdd → q5, reduceSub → q6, reduceMul → q7, reduceLT → q8, reduceLeDiff → q9, reduceEqDiff → qa
open List renaming reduceReplicate → qb
open Go Go.SX Go.RowKit
theorem hall_rng {x : Int} (h : 0 ≤ x ∧ x ≤ 255) : within 0 99 ((IntKind.i64.wrap x).tmod 100) = true := by
  rw [wrap_id (by omega) (by omega)]
  have h1 := Int.tmod_nonneg 100 h.1
  have h2 := Int.tmod_lt_of_pos x (show (0 : Int) < 100 by decide)
  simp only [within, Bool.and_eq_true, decide_eq_true_eq]
  omega
/-- what the demands that are named are -/
structure NamedP (ds : List Dem) (cs : List Cop) (xs nm : List DE) (ids : List Int) : Prop where
  ids : nm.map (·.1.1) = ids
  mem : ∀ y, y ∈ nm → y ∈ xs
  nd : (nm.map (·.1.1)).Nodup
  val : valid (nm.map (·.1)) cs = true
  least : Least (nm.map (·.1)) cs
  len : nm.length ≤ 7
  pos : 0 < nm.length
theorem NamedP.again {ds : List Dem} {cs : List Cop} {xs nm : List DE} {ids ids' : List Int} (hN : NamedP ds cs xs nm ids) (hs : ids.Pairwise (· < ·)) (h : RefP (nm.map (·.1)) cs ids') : ids' = ids := by
  obtain ⟨left, g1, g2, g3, g4⟩ := h
  have hnd : ((nm.map (·.1)).map (·.1)).Nodup := by have := hN.nd; simpa [Function.comp_def] using this
  have hl := hN.least.all hnd g1 g2.no
  subst hl
  have h6 : ids'.Perm ids := by rw [← hN.ids]; simpa [Function.comp_def] using g4
  exact List.Perm.eq_of_pairwise (fun a b _ _ h1 h2 => by omega) g3 hs h6
theorem slc_news {S : Nat → Prop} {w : World} {p : Option Addr} {n c l h : Nat} {nm : List DE} (hr : rDEs.rd S w [.slice p n c] nm) (h2 : h ≤ n) (hlt : l < h) : ∃ a, slcV 4 p c l h = .slice (some a) (h - l) (c - l) ∧ At w a (desV ((nm.drop l).take (h - l))) := by
  have h9 := Rp.slc (A := rDE) (l := l) (h := h) hr (by omega) h2
  obtain ⟨a, h1, _, h3⟩ := des_cells (p := if c = l then p else p.map (·.add (l * 4))) (n := h - l) (c := c - l) h9 (by omega)
  exact ⟨a, by unfold slcV; rw [h1], h3⟩
theorem slc_none {p : Option Addr} {c l : Nat} : ∃ a c', slcV 4 p c l l = .slice a 0 c' := ⟨_, _, by unfold slcV; rw [Nat.sub_self]⟩
end Go.Proofs.YtolmeekbjonbcaaGreat
set_option linter.unusedVariables false
set_option linter.unusedSimpArgs false
set_option maxHeartbeats 4000000
namespace Go.Proofs.YtolmeekbjonbcaaGreat
open Int renaming reduceEq → q1, reduceLT → q2, reduceBEq → q3, reduceBNe → q4
open Nat renaming reduceAdd → q5, reduceSub → q6, reduceMul → q7, reduceLT → q8, reduceLeDiff → q9, reduceEqDiff → qa
open List renaming reduceReplicate → qb
open Go Go.SX Go.RowKit
end Go.Proofs.YtolmeekbjonbcaaGreat
set_option linter.unusedVariables false
set_option linter.unusedSimpArgs false
set_option maxHeartbeats 1000000
namespace Go.Proofs.YtolmeekbjonbcaaGreat
open Int renaming reduceEq → q1, reduceLT → q2, reduceBEq → q3, reduceBNe → q4
open Nat renaming reduceAdd → q5, reduceSub → q6, reduceMul → q7, reduceLT → q8, reduceLeDiff → q9, reduceEqDiff → qa
open List renaming reduceReplicate → qb
open Go Go.SX Go.RowKit
theorem u8_range {x : Int} (h : (Lit.int .u8 x).wf = true) : 0 ≤ x ∧ x ≤ 255 := by
  simp [Lit.wf, IntKind.min, IntKind.max, IntKind.signed, IntKind.bits] at h; omega
end Go.Proofs.YtolmeekbjonbcaaGreat
set_option linter.unusedVariables false
set_option linter.unusedSimpArgs false
set_option maxHeartbeats 1000000
namespace Go.Proofs.YtolmeekbjonbcaaGreat
open Int renaming reduceEq → q1, reduceLT → q2, reduceBEq → q3, reduceBNe → q4
open Nat renaming reduceAdd → q5, reduceSub → q6, reduceMul → q7, reduceLT → q8, reduceLeDiff → q9, reduceEqDiff → qa
open List renaming reduceReplicate → qb
open Go Go.SX Go.RowKit
theorem flat_at {α : Type} {f : α → List Value} {k : Nat} (hf : ∀ x, (f x).length = k) : ∀ (xs : List α) (i : Nat) (y : α), xs[i]? = some y → ((xs.flatMap f).drop (i * k)).take k = f y
  | [], i, y, h => by simp at h
  | x :: xs, 0, y, h => by
    simp only [List.getElem?_cons_zero, Option.some.injEq] at h
    subst h
    rw [Nat.zero_mul, List.drop_zero, List.flatMap_cons]
    exact List.take_left' (hf x)
  | x :: xs, i + 1, y, h => by
    have h1 := flat_at hf xs i y (by simpa using h)
    rw [List.flatMap_cons, List.drop_append, List.drop_eq_nil_of_le (by rw [hf x, Nat.add_mul]; omega), List.nil_append, hf x, show (i + 1) * k - k = i * k by rw [Nat.add_mul]; omega]
    exact h1
theorem flat_len {α : Type} {f : α → List Value} {k : Nat} (hf : ∀ x, (f x).length = k) : ∀ xs : List α, (xs.flatMap f).length = xs.length * k
  | [] => by simp
  | x :: xs => by rw [List.flatMap_cons, List.length_append, flat_len hf xs, hf x, List.length_cons, Nat.add_mul]; omega
theorem flat_eq {α : Type} {f : α → List Value} {k : Nat} (hf : ∀ x, (f x).length = k) : ∀ (xs : List α) (olds : List Value), olds.length = xs.length * k → (∀ i y, xs[i]? = some y → (olds.drop (i * k)).take k = f y) → olds = xs.flatMap f
  | [], olds, h, _ => by rw [List.length_nil, Nat.zero_mul] at h; exact List.length_eq_zero_iff.1 h
  | x :: xs, olds, h, hg => by
    have h1 := hg 0 x rfl
    rw [Nat.zero_mul, List.drop_zero] at h1
    have h2 := flat_eq hf xs (olds.drop k) (by rw [List.length_drop, h, List.length_cons, Nat.add_mul]; omega) fun i y hy => by
      have := hg (i + 1) y (by simpa using hy)
      rw [List.drop_drop]
      rwa [show k + i * k = (i + 1) * k by rw [Nat.add_mul]; omega]
    rw [← List.take_append_drop k olds, h1, h2]
    rfl
def coV (c : Cop) : List Value := [.int .i64 c.1, .int .i64 c.2.1, .int .i64 c.2.2.1, .int .i64 c.2.2.2]
def cosV (cs : List Cop) : List Value := cs.flatMap coV
theorem cosV_app (a b : List Cop) : cosV (a ++ b) = cosV a ++ cosV b := List.flatMap_append
theorem cosV_len (cs : List Cop) : (cosV cs).length = cs.length * 4 := flat_len (f := coV) (k := 4) (fun _ => rfl) cs
theorem cos_read {S : Nat → Prop} {w : World} (cs : List Cop) : ∀ i y, cs[i]? = some y → rCop.rd S w (((cosV cs).drop (i * rCop.sz)).take rCop.sz) y := fun i y hy => by
  have h := flat_at (f := coV) (k := 4) (fun _ => rfl) cs i y hy
  show rCop.rd S w (((cs.flatMap coV).drop (i * 4)).take 4) y
  rw [h]
  exact ⟨[_], _, rfl, rfl, [_], _, rfl, rfl, [_], _, rfl, rfl, rfl⟩
theorem cos_cells {S : Nat → Prop} {w : World} {p : Option Addr} {n c : Nat} {cs : List Cop} (h : rCops.rd S w [.slice p n c] cs) (hne : 0 < n) : ∃ a, p = some a ∧ n = cs.length ∧ At w a (cosV cs) := by
  have hn : n = cs.length := by
    obtain ⟨p', n', c', hv, h2, _⟩ := h
    simp only [List.cons.injEq, and_true, Value.slice.injEq] at hv
    omega
  rcases Rp.slice_cells h with h0 | ⟨a, olds, h1, h2, h3, h4, h5, h6, h7⟩
  · rw [h0] at hn; simp at hn; omega
  · refine ⟨a, h1, h2, ?_⟩
    have he : olds = cs.flatMap coV := flat_eq (k := 4) (fun _ => rfl) cs olds (by rw [h5, hn]; rfl) fun i y hy => rCop_open (h7 i y hy)
    unfold cosV
    rw [← he]; exact h6
theorem sumG_plan (ds : List Dem) (cs : List Cop) (hall : Int) (at' : List Nat) : sumG (planL ds cs hall at' ds.length) = totL ds cs hall at' := by
  unfold sumG planL totL costS
  rw [List.map_map]
  rfl
theorem plan_bound {ds : List Dem} {cs : List Cop} {hall : Int} {at' : List Nat} (hv : valid ds cs = true) (hB : BP ds cs hall at') {R : Nat} (hR : R = ds.length) : ∀ g, g ∈ planL ds cs hall at' R → 0 ≤ g.2.2 ∧ g.2.2 ≤ 1000000 := fun g hg => by
  subst hR
  obtain ⟨i, hi, rfl⟩ := List.mem_map.1 hg
  rw [List.mem_range] at hi
  have h1 := hB.mat.ok i hi
  have hm := hB.mat.lt i hi
  rw [costs_wide (by rintro rfl; simp at hi)] at hm
  obtain ⟨d, hd⟩ := len_lt (rfl : ds.length = _) hi
  obtain ⟨c, hc⟩ := len_lt (rfl : cs.length = _) hm
  refine ⟨h1, ?_⟩
  show CF ds cs hall i (at'.getD i 0) ≤ 1000000
  rw [show CF ds cs hall i (at'.getD i 0) = costF d c hall from cF_costs hd hc]
  exact (costF_bound ((valid_mem hv).2.1 d (List.mem_of_getElem? hd)) c hall).2
/-- one demand less -/
def skN (n i : Nat) : Nat := if i < n then i else i + 1
theorem skN_inj {n i j : Nat} (h : skN n i = skN n j) : i = j := by unfold skN at h; split at h <;> split at h <;> omega
theorem less_get {ds : List Dem} {n i : Nat} : (ds.take n ++ ds.drop (n + 1))[i]? = ds[skN n i]? := by
  rw [← List.eraseIdx_eq_take_drop_succ, List.getElem?_eraseIdx]
  unfold skN
  split <;> rfl
theorem less_cf {ds : List Dem} {cs : List Cop} {hall : Int} {n i k : Nat} : CF (ds.take n ++ ds.drop (n + 1)) cs hall i k = CF ds cs hall (skN n i) k := by
  simp only [CF, cF, costsF, List.getD_eq_getElem?_getD, List.getElem?_map, less_get]
theorem less_len {ds : List Dem} {n : Nat} (hn : n < ds.length) : (ds.take n ++ ds.drop (n + 1)).length = ds.length - 1 := by
  rw [← List.eraseIdx_eq_take_drop_succ, List.length_eraseIdx_of_lt hn]
theorem range_skip {R n : Nat} (hn : n < R) : (List.range (R - 1)).map (skN n) = (List.range R).eraseIdx n := by
  apply List.ext_getElem?
  intro i
  rw [List.getElem?_eraseIdx, List.getElem?_map]
  by_cases hi : i < R - 1
  · rw [List.getElem?_range hi]
    unfold skN
    split
    · rw [List.getElem?_range (by omega)]; simp [*]
    · rw [List.getElem?_range (by omega)]; simp [*]
  · rw [List.getElem?_eq_none (by simp; omega)]
    split
    · omega
    · rw [List.getElem?_eq_none (by simp; omega)]; rfl
theorem less_sum {g : Nat → Int} {R n : Nat} (hn : n < R) (h0 : 0 ≤ g n) : ((List.range (R - 1)).map fun i => g (skN n i)).sum ≤ ((List.range R).map g).sum := by
  have h1 : (List.range (R - 1)).map (fun i => g (skN n i)) = ((List.range R).eraseIdx n).map g := by rw [← range_skip hn, List.map_map]; rfl
  have h2 : ((List.range R)[n]'(by simpa using hn) :: (List.range R).eraseIdx n).Perm (List.range R) := by
    have hl : n < (List.range R).length := by simpa using hn
    have e : List.range R = (List.range R).take n ++ (List.range R)[n] :: (List.range R).drop (n + 1) := by rw [← List.drop_eq_getElem_cons hl, List.take_append_drop]
    rw [List.eraseIdx_eq_take_drop_succ]
    conv => rhs; rw [e]
    exact List.perm_middle.symm
  rw [h1, ← sum_perm h2, List.map_cons, List.sum_cons, List.getElem_range]
  omega
theorem less_le {ds : List Dem} {cs : List Cop} {hall : Int} {at9 at8 : List Nat} {n : Nat} (hn : n < ds.length) (hB : BP ds cs hall at9) (hB' : BP (ds.take n ++ ds.drop (n + 1)) cs hall at8) : totL (ds.take n ++ ds.drop (n + 1)) cs hall at8 ≤ totL ds cs hall at9 := by
  have hsk : ∀ i, i < ds.length - 1 → skN n i < ds.length := fun i hi => by unfold skN; split <;> omega
  have hM : Mat (CF (ds.take n ++ ds.drop (n + 1)) cs hall) (ds.take n ++ ds.drop (n + 1)).length (wideF (costsF (ds.take n ++ ds.drop (n + 1)) cs hall) cs.length) (fun i => at9.getD (skN n i) 0) := by
    rw [less_len hn]
    refine ⟨fun i hi => ?_, fun i hi => ?_, fun i j hi hj he => skN_inj (hB.mat.inj _ _ (hsk i hi) (hsk j hj) he)⟩
    · have h1 := hB.mat.lt _ (hsk i hi)
      rw [costs_wide (by rintro rfl; simp at hn)] at h1
      rw [costs_wide (fun h => by have := congrArg List.length h; rw [less_len hn, List.length_nil] at this; omega)]
      exact h1
    · simp only [less_cf]; exact hB.mat.ok _ (hsk i hi)
  refine Int.le_trans (hB'.least _ hM) ?_
  unfold totL costS
  rw [less_len hn]
  simp only [less_cf]
  exact less_sum (g := fun i => CF ds cs hall i (at9.getD i 0)) hn (hB.mat.ok n hn)
/-- one copy more -/
theorem wide_cf {ds : List Dem} {cs : List Cop} {fu : Cop} {hall : Int} {i k : Nat} (hi : i < ds.length) (hk : k < cs.length) : CF ds (cs ++ [fu]) hall i k = CF ds cs hall i k := by
  obtain ⟨d, hd⟩ := len_lt (rfl : ds.length = _) hi
  obtain ⟨c, hc⟩ := len_lt (rfl : cs.length = _) hk
  rw [show CF ds cs hall i k = costF d c hall from cF_costs hd hc, show CF ds (cs ++ [fu]) hall i k = costF d c hall from cF_costs hd (by rw [List.getElem?_append_left hk]; exact hc)]
theorem wide_le {ds : List Dem} {cs : List Cop} {fu : Cop} {hall : Int} {at9 at8 : List Nat} (hB : BP ds cs hall at9) (hB' : BP ds (cs ++ [fu]) hall at8) : totL ds (cs ++ [fu]) hall at8 ≤ totL ds cs hall at9 := by
  have hlt : ∀ i, i < ds.length → at9.getD i 0 < cs.length := fun i hi => by
    have h1 := hB.mat.lt i hi
    rwa [costs_wide (by rintro rfl; simp at hi)] at h1
  have hM : Mat (CF ds (cs ++ [fu]) hall) ds.length (wideF (costsF ds (cs ++ [fu]) hall) (cs ++ [fu]).length) (fun i => at9.getD i 0) := by
    refine ⟨fun i hi => ?_, fun i hi => ?_, hB.mat.inj⟩
    · rw [costs_wide (by rintro rfl; simp at hi), List.length_append]
      have := hlt i hi
      simp only [List.length_singleton]; omega
    · simp only [wide_cf hi (hlt i hi)]; exact hB.mat.ok i hi
  refine Int.le_trans (hB'.least _ hM) (Int.le_of_eq ?_)
  unfold totL costS
  exact congrArg List.sum (List.map_congr_left fun i hi => wide_cf (List.mem_range.1 hi) (hlt i (List.mem_range.1 hi)))
theorem MeetL.more {ds : List Dem} {cs : List Cop} (h : MeetL ds cs) (fu : Cop) : MeetL ds (cs ++ [fu]) := by
  obtain ⟨g, h1, h2⟩ := h
  refine ⟨g, fun x hx => ?_, h2⟩
  obtain ⟨c, hc, h0⟩ := h1 x hx
  exact ⟨c, by rw [List.getElem?_append_left (List.getElem?_eq_some_iff.1 hc).1]; exact hc, h0⟩
theorem rem_nat2 {i : Int} {n : Nat} (h : 0 ≤ i ∧ i ≤ 255) (hn : 0 < n) : ∃ m : Nat, (IntKind.i64.wrap i).tmod (n : Int) = (m : Int) ∧ m < n := by
  rw [wrap_id (by omega) (by omega)]
  refine ⟨(i.tmod n).toNat, ?_, ?_⟩
  · have := Int.tmod_nonneg (n : Int) h.1; omega
  · have := Int.tmod_nonneg (n : Int) h.1; have := Int.tmod_lt_of_pos i (show (0 : Int) < n by omega); omega
/-- whether the law says something -/
def use4 (ds : List Dem) (cs : List Cop) (fu : Cop) : Bool := few36 ds (cs ++ [fu]) && (valid ds cs && !decide (ds.length = 0))
theorem use4_spec {ds : List Dem} {cs : List Cop} {fu : Cop} (h : use4 ds cs fu = true) : ds.length ≤ 7 ∧ cs.length ≤ 7 ∧ valid ds cs = true ∧ 0 < ds.length := by
  simp only [use4, few36, Bool.and_eq_true, decide_eq_true_eq, Bool.not_eq_true', decide_eq_false_iff_not, List.length_append, List.length_singleton] at h
  obtain ⟨⟨_, h1, h2⟩, h3, h4⟩ := h
  exact ⟨h1, by omega, h3, by omega⟩
theorem valid_more {ds : List Dem} {cs cs' : List Cop} (h : valid ds cs = true) (h' : validCs cs' = true) : valid ds cs' = true := by
  simp only [valid, Bool.and_eq_true] at h ⊢
  exact ⟨h.1, h'⟩
end Go.Proofs.YtolmeekbjonbcaaGreat
set_option linter.unusedVariables false
set_option linter.unusedSimpArgs false
set_option maxHeartbeats 4000000
namespace Go.Proofs.YtolmeekbjonbcaaGreat
open Int renaming reduceEq → q1, reduceLT → q2, reduceBEq → q3, reduceBNe → q4
open Nat renaming reduceAdd → q5, reduceSub → q6, reduceMul → q7, reduceLT → q8, reduceLeDiff → q9, reduceEqDiff → qa
open List renaming reduceReplicate → qb
open Go Go.SX Go.RowKit
theorem cos_read1 {S : Nat → Prop} {w : World} (cs : List Cop) (fu : Cop) : ∀ i y, (cs ++ [fu])[i]? = some y → rCop.rd S w (((cosV cs ++ coV fu).drop (i * rCop.sz)).take rCop.sz) y := by
  have h := cos_read (S := S) (w := w) (cs ++ [fu])
  rw [cosV_app, show cosV [fu] = coV fu by simp [cosV]] at h
  exact h
/-- function 4 -/
theorem planned_no {S S2 S3 : Nat → Prop} {w : World} {v u : Value} {ces : Array Value} {ds : List Dem} {cs : List Cop} {fu : Cop} (hl : rDems.rd S w [v] ds) (hl2 : rCops.rd S2 w [u] cs) (hall which : Int) (hfu : rCop.rd S3 w ces.toList fu) (hrc : cs.length * 32 ≤ 140737488351232) (hh : 0 ≤ hall ∧ hall ≤ 255) (hw9 : 0 ≤ which ∧ which ≤ 255) (hno : ¬ MeetL ds cs) : Gives Tryz.prog 4 #[v, u, .int .u8 hall, .agg ces, .int .u8 which] w fun r _ => r = .bool true := by
  obtain ⟨xs, hxm, hxr, hxe⟩ := open_des hl
  obtain ⟨p, c, rfl, hc1, hc2⟩ := Rp.slice_val hl
  obtain ⟨p2, c2, rfl, hc3, hc4⟩ := Rp.slice_val hl2
  have hl : (Rp.slice rDem).rd (fun _ => True) w _ ds := Rp.any hl
  have hl2 : (Rp.slice rCop).rd (fun _ => True) w _ cs := Rp.any hl2
  have hxr : (Rp.slice rDE).rd (fun _ => True) w _ xs := Rp.any hxr
  obtain rfl : ces = #[.int .i64 fu.1, .int .i64 fu.2.1, .int .i64 fu.2.2.1, .int .i64 fu.2.2.2] := Array.toList_inj.1 (rCop_open hfu)
  have hxl : xs.length = ds.length := by rw [← hxm]; simp
  have hhr := hall_rng hh
  obtain ⟨h, hhe⟩ : ∃ h, (IntKind.i64.wrap hall).tmod 100 = h := ⟨_, rfl⟩
  rw [hhe] at hhr
  have e0 : ∀ n : Nat, ((n : Int) == 0) = decide (n = 0) := fun n => by by_cases h : n = 0 <;> simp [h]
  obtain ⟨_, _, hcap9, hcp1, hcp2⟩ := Rp.slice_val hl2
  obtain ⟨rfl, _, rfl⟩ := (Value.slice.injEq _ _ _ _ _ _).mp hcap9
  refine gives_of [.val (.slice p ds.length c), .val (.slice p2 cs.length c2), .val (.int .u8 hall), .val (.agg #[.int .i64 fu.1, .int .i64 fu.2.1, .int .i64 fu.2.2.1, .int .i64 fu.2.2.2]), .val (.int .u8 which)] 251 [.tmp 10] Tryz.func4 rfl rfl rfl (by simp) rfl rfl ?_
  refine W.pure (ds := []) rfl fun K1 hK1 => ?_
  simp only [sx, ty, q1, q2, q5, q6, q7, q8, q9, qa, qb, reduceIte, sy, q3, q4]; with_reducible refine hK1 _ ?_; clear hK1
  refine W.seqK fun K2 hK2 => W.region ?_
  refine WO.call (.bool true) (ds := []) rfl rfl rfl rfl co5 (fun ρ w1 hb => planned_spec w1) ?_
  refine WO.go 1 (ds := []) rfl ?_
  simp only [sx, ty, q1, q2, q5, q6, q7, q8, q9, qa, qb, reduceIte, sy, q3, q4]
  with_reducible refine WO.nil ?_
  refine hK2 _ ?_; clear hK2
  refine W.pinA (by simp [smallO]) fun β => ?_
  obtain ⟨b0, hb0⟩ : ∃ b0, β 0 = b0 := ⟨_, rfl⟩
  simp only [pinEn, pinOw, den, denL, Nat.zero_add, Nat.reduceAdd, hb0]
  refine W.seqFreeze 12 [(0, .val (.slice p ds.length c)), (1, .val (.slice p2 cs.length c2)), (2, .val (.int .u8 hall)), (4, .val (.int .u8 which)), (11, .val (.bool true))] [((fun _ => True), w)] (fun S s v => ∃ q c, v = .slice q (cs.length + 1) c ∧ rCops.rd S s [v] (cs ++ [fu])) ?_ ?_
  · by_cases hc0 : cs.length = 0
    · obtain rfl : cs = [] := List.length_eq_zero_iff.1 hc0
      simp only [List.length_nil]
      refine W.regionV [1, 3] 5 ([boxO 45 b0 [.int .i64 fu.1, .int .i64 fu.2.1, .int .i64 fu.2.2.1, .int .i64 fu.2.2.2]]) mixed (by kernel_rfl) rfl (by simp [keptL, boxO]) rfl (fun _ _ h => h) ?_
      simp only [sx, ty, q1, q2, q5, q6, q7, q8, q9, qa, qb, reduceIte, sxt, List.toList_toArray, RunP, sy, q3, q4]
      refine WF.go rfl rfl rfl ?_
      simp only [sx, ty, q1, q2, q5, q6, q7, q8, q9, qa, qb, reduceIte, sxt, List.toList_toArray, RunP, sy, q3, q4]
      refine WF.q rfl rfl (QR.load [.int .i64 fu.1, .int .i64 fu.2.1, .int .i64 fu.2.2.1, .int .i64 fu.2.2.2] true rfl rfl agg45 sz45 (.inl rfl) (fun ρ w1 hb => box_at (k := 0) hb rfl)) ?_
      simp only [List.drop_succ_cons, List.drop_zero, List.take_succ_cons, List.take_zero, ofCells, Bool.false_eq_true, if_false, List.headD_cons, if_true, List.toList_toArray]
      simp only [sx, ty, q1, q2, q5, q6, q7, q8, q9, qa, qb, reduceIte, sxt, List.toList_toArray, RunP, sy, q3, q4]
      refine WF.nil ?_
      simp only [sx, ty, q1, q2, q5, q6, q7, q8, q9, qa, qb, reduceIte, sxt, List.toList_toArray, sy, q3, q4]
      refine WV.two 0 4 (by kernel_rfl) rfl rfl ?_ ?_
      · skip
        simp only [List.getElem_toArray, List.getElem_cons_succ, List.getElem_cons_zero]
        refine WO.go 1 (ds := []) rfl ?_
        simp only [sx, ty, q1, q2, q5, q6, q7, q8, q9, qa, qb, reduceIte, List.append_assoc, List.cons_append, List.nil_append, sy, q3, q4]
        with_reducible refine WV.next (by simp [keptL, boxO]) (by simp) ?_
        refine WV.two 2 4 (by kernel_rfl) rfl rfl ?_ ?_
        · skip
          simp only [List.getElem_toArray, List.getElem_cons_succ, List.getElem_cons_zero]
          refine WO.q (ds := []) rfl rfl rfl (QR.appendZ rfl rfl (fun ρ w1 hb => ⟨_, _, _, rfl, Nat.le_refl _⟩) (fun ρ ρ' h => den_agree h _ rfl) rfl ek23) ?_
          simp only [sx, ty, q1, q2, q5, q6, q7, q8, q9, qa, qb, reduceIte, List.append_assoc, List.cons_append, List.nil_append, sy, q3, q4]
          with_reducible refine WV.next (by simp [keptL, boxO]) (by simp) ?_
          refine WV.one 4 (by kernel_rfl) rfl ?_
          simp only [List.getElem_toArray, List.getElem_cons_succ, List.getElem_cons_zero]
          refine WO.go 1 (ds := []) rfl ?_
          simp only [sx, ty, q1, q2, q5, q6, q7, q8, q9, qa, qb, reduceIte, List.append_assoc, List.cons_append, List.nil_append, sy, q3, q4]
          with_reducible refine WV.next (by simp [keptL, boxO]) (by simp) ?_
          refine WV.one 5 (by kernel_rfl) rfl ?_
          simp only [List.getElem_toArray, List.getElem_cons_succ, List.getElem_cons_zero]
          first
          | refine WO.appendFull (n := 0) (m := 1) [] (coV fu) (ds := []) rfl rfl rfl rfl ⟨_, rfl, fun ρ w1 hb => ⟨_, rfl, fun j v h => by simp at h⟩⟩ rfl ek23 (by simp) (by omega) (news_own (k2 := 2) rfl fun _ => rfl) rfl (by rw [maxLen_eq]; omega) (by omega) fun p7 c7 => ?_
          | refine WO.appendFull (n := 0) (m := 1) [] (coV fu) (ds := []) rfl rfl rfl rfl ⟨_, rfl, fun ρ w1 hb => ⟨_, rfl, fun j v h => by simp at h⟩⟩ rfl ek23 (by simp) (by omega) (news_own (k2 := 1) rfl fun _ => rfl) rfl (by rw [maxLen_eq]; omega) (by omega) fun p7 c7 => ?_
          simp only [sx, ty, q1, q2, q5, q6, q7, q8, q9, qa, qb, reduceIte, List.append_assoc, List.cons_append, List.nil_append, sy, q3, q4]
          with_reducible refine WV.next (by simp [keptL, boxO]) (by simp) ?_
          refine WV.one 6 (by kernel_rfl) rfl ?_
          simp only [List.getElem_toArray, List.getElem_cons_succ, List.getElem_cons_zero]
          refine WO.go 1 (ds := []) rfl ?_
          simp only [sx, ty, q1, q2, q5, q6, q7, q8, q9, qa, qb, reduceIte, List.append_assoc, List.cons_append, List.nil_append, sy, q3, q4]
          with_reducible refine WV.next (by simp [keptL, boxO]) (by simp) ?_
          refine WV.nil (by kernel_rfl) ?_
          refine ⟨rfl, by simp [getE, bnd], by simp, _, rfl, fun ρ w1 hb => ⟨fun _ => True, _, _, rfl, ?_⟩⟩
          first
          | exact own_slice (A := rCop) (S := fun _ => True) (k := 3) (xs := ([] ++ coV fu)) hb rfl (by simp) (fun _ _ => trivial) (cos_read1 [] fu)
        · skip
          simp only [List.getElem_toArray, List.getElem_cons_succ, List.getElem_cons_zero]
          refine WO.go 1 (ds := []) rfl ?_
          simp only [sx, ty, q1, q2, q5, q6, q7, q8, q9, qa, qb, reduceIte, List.append_assoc, List.cons_append, List.nil_append, sy, q3, q4]
          with_reducible refine WV.next (by simp [keptL, boxO]) (by simp) ?_
          refine WV.one 2 (by kernel_rfl) rfl ?_
          simp only [List.getElem_toArray, List.getElem_cons_succ, List.getElem_cons_zero]
          refine WO.q (ds := []) rfl rfl rfl (QR.appendZ rfl rfl (fun ρ w1 hb => ⟨_, _, _, rfl, Nat.le_refl _⟩) (fun ρ ρ' h => den_agree h _ rfl) rfl ek23) ?_
          simp only [sx, ty, q1, q2, q5, q6, q7, q8, q9, qa, qb, reduceIte, List.append_assoc, List.cons_append, List.nil_append, sy, q3, q4]
          with_reducible refine WV.next (by simp [keptL, boxO]) (by simp) ?_
          refine WV.one 5 (by kernel_rfl) rfl ?_
          simp only [List.getElem_toArray, List.getElem_cons_succ, List.getElem_cons_zero]
          first
          | refine WO.appendFull (n := 0) (m := 1) [] (coV fu) (ds := []) rfl rfl rfl rfl ⟨_, rfl, fun ρ w1 hb => ⟨_, rfl, fun j v h => by simp at h⟩⟩ rfl ek23 (by simp) (by omega) (news_own (k2 := 2) rfl fun _ => rfl) rfl (by rw [maxLen_eq]; omega) (by omega) fun p7 c7 => ?_
          | refine WO.appendFull (n := 0) (m := 1) [] (coV fu) (ds := []) rfl rfl rfl rfl ⟨_, rfl, fun ρ w1 hb => ⟨_, rfl, fun j v h => by simp at h⟩⟩ rfl ek23 (by simp) (by omega) (news_own (k2 := 1) rfl fun _ => rfl) rfl (by rw [maxLen_eq]; omega) (by omega) fun p7 c7 => ?_
          simp only [sx, ty, q1, q2, q5, q6, q7, q8, q9, qa, qb, reduceIte, List.append_assoc, List.cons_append, List.nil_append, sy, q3, q4]
          with_reducible refine WV.next (by simp [keptL, boxO]) (by simp) ?_
          refine WV.one 6 (by kernel_rfl) rfl ?_
          simp only [List.getElem_toArray, List.getElem_cons_succ, List.getElem_cons_zero]
          refine WO.go 1 (ds := []) rfl ?_
          simp only [sx, ty, q1, q2, q5, q6, q7, q8, q9, qa, qb, reduceIte, List.append_assoc, List.cons_append, List.nil_append, sy, q3, q4]
          with_reducible refine WV.next (by simp [keptL, boxO]) (by simp) ?_
          refine WV.nil (by kernel_rfl) ?_
          refine ⟨rfl, by simp [getE, bnd], by simp, _, rfl, fun ρ w1 hb => ⟨fun _ => True, _, _, rfl, ?_⟩⟩
          first
          | exact own_slice (A := rCop) (S := fun _ => True) (k := 3) (xs := ([] ++ coV fu)) hb rfl (by simp) (fun _ _ => trivial) (cos_read1 [] fu)
      · skip
        simp only [List.getElem_toArray, List.getElem_cons_succ, List.getElem_cons_zero]
        refine WO.go 1 (ds := []) rfl ?_
        simp only [sx, ty, q1, q2, q5, q6, q7, q8, q9, qa, qb, reduceIte, List.append_assoc, List.cons_append, List.nil_append, sy, q3, q4]
        with_reducible refine WV.next (by simp [keptL, boxO]) (by simp) ?_
        refine WV.one 0 (by kernel_rfl) rfl ?_
        simp only [List.getElem_toArray, List.getElem_cons_succ, List.getElem_cons_zero]
        refine WO.go 1 (ds := []) rfl ?_
        simp only [sx, ty, q1, q2, q5, q6, q7, q8, q9, qa, qb, reduceIte, List.append_assoc, List.cons_append, List.nil_append, sy, q3, q4]
        with_reducible refine WV.next (by simp [keptL, boxO]) (by simp) ?_
        refine WV.one 2 (by kernel_rfl) rfl ?_
        simp only [List.getElem_toArray, List.getElem_cons_succ, List.getElem_cons_zero]
        refine WO.q (ds := []) rfl rfl rfl (QR.appendZ rfl rfl (fun ρ w1 hb => ⟨_, _, _, rfl, Nat.le_refl _⟩) (fun ρ ρ' h => den_agree h _ rfl) rfl ek23) ?_
        simp only [sx, ty, q1, q2, q5, q6, q7, q8, q9, qa, qb, reduceIte, List.append_assoc, List.cons_append, List.nil_append, sy, q3, q4]
        with_reducible refine WV.next (by simp [keptL, boxO]) (by simp) ?_
        refine WV.one 5 (by kernel_rfl) rfl ?_
        simp only [List.getElem_toArray, List.getElem_cons_succ, List.getElem_cons_zero]
        first
        | refine WO.appendFull (n := 0) (m := 1) [] (coV fu) (ds := []) rfl rfl rfl rfl ⟨_, rfl, fun ρ w1 hb => ⟨_, rfl, fun j v h => by simp at h⟩⟩ rfl ek23 (by simp) (by omega) (news_own (k2 := 2) rfl fun _ => rfl) rfl (by rw [maxLen_eq]; omega) (by omega) fun p7 c7 => ?_
        | refine WO.appendFull (n := 0) (m := 1) [] (coV fu) (ds := []) rfl rfl rfl rfl ⟨_, rfl, fun ρ w1 hb => ⟨_, rfl, fun j v h => by simp at h⟩⟩ rfl ek23 (by simp) (by omega) (news_own (k2 := 1) rfl fun _ => rfl) rfl (by rw [maxLen_eq]; omega) (by omega) fun p7 c7 => ?_
        simp only [sx, ty, q1, q2, q5, q6, q7, q8, q9, qa, qb, reduceIte, List.append_assoc, List.cons_append, List.nil_append, sy, q3, q4]
        with_reducible refine WV.next (by simp [keptL, boxO]) (by simp) ?_
        refine WV.one 6 (by kernel_rfl) rfl ?_
        simp only [List.getElem_toArray, List.getElem_cons_succ, List.getElem_cons_zero]
        refine WO.go 1 (ds := []) rfl ?_
        simp only [sx, ty, q1, q2, q5, q6, q7, q8, q9, qa, qb, reduceIte, List.append_assoc, List.cons_append, List.nil_append, sy, q3, q4]
        with_reducible refine WV.next (by simp [keptL, boxO]) (by simp) ?_
        refine WV.nil (by kernel_rfl) ?_
        refine ⟨rfl, by simp [getE, bnd], by simp, _, rfl, fun ρ w1 hb => ⟨fun _ => True, _, _, rfl, ?_⟩⟩
        first
        | exact own_slice (A := rCop) (S := fun _ => True) (k := 3) (xs := ([] ++ coV fu)) hb rfl (by simp) (fun _ _ => trivial) (cos_read1 [] fu)
    · skip
      refine W.regionV [1, 3] 5 ([boxO 45 b0 [.int .i64 fu.1, .int .i64 fu.2.1, .int .i64 fu.2.2.1, .int .i64 fu.2.2.2]]) mixed (by kernel_rfl) rfl (by simp [keptL, boxO]) rfl (fun _ _ h => h) ?_
      simp only [sx, ty, q1, q2, q5, q6, q7, q8, q9, qa, qb, reduceIte, sxt, List.toList_toArray, RunP, sy, q3, q4]
      refine WF.go rfl rfl rfl ?_
      simp only [sx, ty, q1, q2, q5, q6, q7, q8, q9, qa, qb, reduceIte, sxt, List.toList_toArray, RunP, sy, q3, q4]
      refine WF.q rfl rfl (QR.load [.int .i64 fu.1, .int .i64 fu.2.1, .int .i64 fu.2.2.1, .int .i64 fu.2.2.2] true rfl rfl agg45 sz45 (.inl rfl) (fun ρ w1 hb => box_at (k := 0) hb rfl)) ?_
      simp only [List.drop_succ_cons, List.drop_zero, List.take_succ_cons, List.take_zero, ofCells, Bool.false_eq_true, if_false, List.headD_cons, if_true, List.toList_toArray]
      simp only [sx, ty, q1, q2, q5, q6, q7, q8, q9, qa, qb, reduceIte, sxt, List.toList_toArray, RunP, sy, q3, q4]
      refine WF.nil ?_
      simp only [sx, ty, q1, q2, q5, q6, q7, q8, q9, qa, qb, reduceIte, sxt, List.toList_toArray, sy, q3, q4]
      refine WV.two 0 4 (by kernel_rfl) rfl rfl ?_ ?_
      · skip
        simp only [List.getElem_toArray, List.getElem_cons_succ, List.getElem_cons_zero]
        refine WO.go 1 (ds := []) rfl ?_
        simp only [sx, ty, q1, q2, q5, q6, q7, q8, q9, qa, qb, reduceIte, List.append_assoc, List.cons_append, List.nil_append, sy, q3, q4]
        with_reducible refine WV.next (by simp [keptL, boxO]) (by simp) ?_
        refine WV.two 2 4 (by kernel_rfl) rfl rfl ?_ ?_
        · skip
          simp only [List.getElem_toArray, List.getElem_cons_succ, List.getElem_cons_zero]
          refine WO.appendFull (n := 0) (m := cs.length) [] (cosV cs) (ds := []) rfl rfl rfl rfl ⟨_, rfl, fun ρ w1 hb => ⟨_, rfl, fun j v h => by simp at h⟩⟩ rfl ek23 (by simp) (by omega) (fun ρ w1 hb => by
              obtain ⟨a9, g1, _, g2⟩ := cos_cells (Rp.now hl2 (hb.first (by simp [St.put]))) (by omega)
              exact ⟨a9, c2, by simp only [den, g1], g2⟩) (by rw [cosV_len]) (by rw [maxLen_eq]; omega) (by omega) fun p6 c6 => ?_
          rw [Nat.zero_add, List.nil_append]
          simp only [sx, ty, q1, q2, q5, q6, q7, q8, q9, qa, qb, reduceIte, List.append_assoc, List.cons_append, List.nil_append, sy, q3, q4]
          with_reducible refine WV.next (by simp [keptL, boxO]) (by simp) ?_
          refine WV.one 4 (by kernel_rfl) rfl ?_
          simp only [List.getElem_toArray, List.getElem_cons_succ, List.getElem_cons_zero]
          refine WO.go 1 (ds := []) rfl ?_
          simp only [sx, ty, q1, q2, q5, q6, q7, q8, q9, qa, qb, reduceIte, List.append_assoc, List.cons_append, List.nil_append, sy, q3, q4]
          with_reducible refine WV.next (by simp [keptL, boxO]) (by simp) ?_
          refine WV.one 5 (by kernel_rfl) rfl ?_
          simp only [List.getElem_toArray, List.getElem_cons_succ, List.getElem_cons_zero]
          first
          | refine WO.append (k := 2) (m := 1) (coV fu) (ds := []) rfl rfl rfl rfl rfl rfl rfl ek23 (news_own (k2 := 3) rfl fun _ => rfl) rfl (by simp [coV, Value.oneCell']) (by rw [maxLen_eq]; omega) (by omega) fun p7 c7 => ?_
          | refine WO.append (k := 3) (m := 1) (coV fu) (ds := []) rfl rfl rfl rfl rfl rfl rfl ek23 (news_own (k2 := 2) rfl fun _ => rfl) rfl (by simp [coV, Value.oneCell']) (by rw [maxLen_eq]; omega) (by omega) fun p7 c7 => ?_
          | refine WO.append (k := 3) (m := 1) (coV fu) (ds := []) rfl rfl rfl rfl rfl rfl rfl ek23 (news_own (k2 := 1) rfl fun _ => rfl) rfl (by simp [coV, Value.oneCell']) (by rw [maxLen_eq]; omega) (by omega) fun p7 c7 => ?_
          simp only [sx, ty, q1, q2, q5, q6, q7, q8, q9, qa, qb, reduceIte, List.append_assoc, List.cons_append, List.nil_append, sy, q3, q4]
          with_reducible refine WV.next (by simp [keptL, boxO]) (by simp) ?_
          refine WV.one 6 (by kernel_rfl) rfl ?_
          simp only [List.getElem_toArray, List.getElem_cons_succ, List.getElem_cons_zero]
          refine WO.go 1 (ds := []) rfl ?_
          simp only [sx, ty, q1, q2, q5, q6, q7, q8, q9, qa, qb, reduceIte, List.append_assoc, List.cons_append, List.nil_append, sy, q3, q4]
          with_reducible refine WV.next (by simp [keptL, boxO]) (by simp) ?_
          refine WV.nil (by kernel_rfl) ?_
          refine ⟨rfl, by simp [getE, bnd], by simp, _, rfl, fun ρ w1 hb => ⟨fun _ => True, _, _, rfl, ?_⟩⟩
          first
          | exact own_slice (A := rCop) (S := fun _ => True) (k := 2) (xs := (cosV cs ++ coV fu)) hb rfl (by simp) (fun _ _ => trivial) (cos_read1 cs fu)
          | exact own_slice (A := rCop) (S := fun _ => True) (k := 3) (xs := (cosV cs ++ coV fu)) hb rfl (by simp) (fun _ _ => trivial) (cos_read1 cs fu)
        · skip
          simp only [List.getElem_toArray, List.getElem_cons_succ, List.getElem_cons_zero]
          refine WO.go 1 (ds := []) rfl ?_
          simp only [sx, ty, q1, q2, q5, q6, q7, q8, q9, qa, qb, reduceIte, List.append_assoc, List.cons_append, List.nil_append, sy, q3, q4]
          with_reducible refine WV.next (by simp [keptL, boxO]) (by simp) ?_
          refine WV.one 2 (by kernel_rfl) rfl ?_
          simp only [List.getElem_toArray, List.getElem_cons_succ, List.getElem_cons_zero]
          refine WO.appendFull (n := 0) (m := cs.length) [] (cosV cs) (ds := []) rfl rfl rfl rfl ⟨_, rfl, fun ρ w1 hb => ⟨_, rfl, fun j v h => by simp at h⟩⟩ rfl ek23 (by simp) (by omega) (fun ρ w1 hb => by
              obtain ⟨a9, g1, _, g2⟩ := cos_cells (Rp.now hl2 (hb.first (by simp [St.put]))) (by omega)
              exact ⟨a9, c2, by simp only [den, g1], g2⟩) (by rw [cosV_len]) (by rw [maxLen_eq]; omega) (by omega) fun p6 c6 => ?_
          rw [Nat.zero_add, List.nil_append]
          simp only [sx, ty, q1, q2, q5, q6, q7, q8, q9, qa, qb, reduceIte, List.append_assoc, List.cons_append, List.nil_append, sy, q3, q4]
          with_reducible refine WV.next (by simp [keptL, boxO]) (by simp) ?_
          refine WV.one 5 (by kernel_rfl) rfl ?_
          simp only [List.getElem_toArray, List.getElem_cons_succ, List.getElem_cons_zero]
          first
          | refine WO.append (k := 2) (m := 1) (coV fu) (ds := []) rfl rfl rfl rfl rfl rfl rfl ek23 (news_own (k2 := 3) rfl fun _ => rfl) rfl (by simp [coV, Value.oneCell']) (by rw [maxLen_eq]; omega) (by omega) fun p7 c7 => ?_
          | refine WO.append (k := 3) (m := 1) (coV fu) (ds := []) rfl rfl rfl rfl rfl rfl rfl ek23 (news_own (k2 := 2) rfl fun _ => rfl) rfl (by simp [coV, Value.oneCell']) (by rw [maxLen_eq]; omega) (by omega) fun p7 c7 => ?_
          | refine WO.append (k := 3) (m := 1) (coV fu) (ds := []) rfl rfl rfl rfl rfl rfl rfl ek23 (news_own (k2 := 1) rfl fun _ => rfl) rfl (by simp [coV, Value.oneCell']) (by rw [maxLen_eq]; omega) (by omega) fun p7 c7 => ?_
          simp only [sx, ty, q1, q2, q5, q6, q7, q8, q9, qa, qb, reduceIte, List.append_assoc, List.cons_append, List.nil_append, sy, q3, q4]
          with_reducible refine WV.next (by simp [keptL, boxO]) (by simp) ?_
          refine WV.one 6 (by kernel_rfl) rfl ?_
          simp only [List.getElem_toArray, List.getElem_cons_succ, List.getElem_cons_zero]
          refine WO.go 1 (ds := []) rfl ?_
          simp only [sx, ty, q1, q2, q5, q6, q7, q8, q9, qa, qb, reduceIte, List.append_assoc, List.cons_append, List.nil_append, sy, q3, q4]
          with_reducible refine WV.next (by simp [keptL, boxO]) (by simp) ?_
          refine WV.nil (by kernel_rfl) ?_
          refine ⟨rfl, by simp [getE, bnd], by simp, _, rfl, fun ρ w1 hb => ⟨fun _ => True, _, _, rfl, ?_⟩⟩
          first
          | exact own_slice (A := rCop) (S := fun _ => True) (k := 2) (xs := (cosV cs ++ coV fu)) hb rfl (by simp) (fun _ _ => trivial) (cos_read1 cs fu)
          | exact own_slice (A := rCop) (S := fun _ => True) (k := 3) (xs := (cosV cs ++ coV fu)) hb rfl (by simp) (fun _ _ => trivial) (cos_read1 cs fu)
      · skip
        simp only [List.getElem_toArray, List.getElem_cons_succ, List.getElem_cons_zero]
        refine WO.go 1 (ds := []) rfl ?_
        simp only [sx, ty, q1, q2, q5, q6, q7, q8, q9, qa, qb, reduceIte, List.append_assoc, List.cons_append, List.nil_append, sy, q3, q4]
        with_reducible refine WV.next (by simp [keptL, boxO]) (by simp) ?_
        refine WV.one 0 (by kernel_rfl) rfl ?_
        simp only [List.getElem_toArray, List.getElem_cons_succ, List.getElem_cons_zero]
        refine WO.go 1 (ds := []) rfl ?_
        simp only [sx, ty, q1, q2, q5, q6, q7, q8, q9, qa, qb, reduceIte, List.append_assoc, List.cons_append, List.nil_append, sy, q3, q4]
        with_reducible refine WV.next (by simp [keptL, boxO]) (by simp) ?_
        refine WV.one 2 (by kernel_rfl) rfl ?_
        simp only [List.getElem_toArray, List.getElem_cons_succ, List.getElem_cons_zero]
        refine WO.appendFull (n := 0) (m := cs.length) [] (cosV cs) (ds := []) rfl rfl rfl rfl ⟨_, rfl, fun ρ w1 hb => ⟨_, rfl, fun j v h => by simp at h⟩⟩ rfl ek23 (by simp) (by omega) (fun ρ w1 hb => by
            obtain ⟨a9, g1, _, g2⟩ := cos_cells (Rp.now hl2 (hb.first (by simp [St.put]))) (by omega)
            exact ⟨a9, c2, by simp only [den, g1], g2⟩) (by rw [cosV_len]) (by rw [maxLen_eq]; omega) (by omega) fun p6 c6 => ?_
        rw [Nat.zero_add, List.nil_append]
        simp only [sx, ty, q1, q2, q5, q6, q7, q8, q9, qa, qb, reduceIte, List.append_assoc, List.cons_append, List.nil_append, sy, q3, q4]
        with_reducible refine WV.next (by simp [keptL, boxO]) (by simp) ?_
        refine WV.one 5 (by kernel_rfl) rfl ?_
        simp only [List.getElem_toArray, List.getElem_cons_succ, List.getElem_cons_zero]
        first
        | refine WO.append (k := 2) (m := 1) (coV fu) (ds := []) rfl rfl rfl rfl rfl rfl rfl ek23 (news_own (k2 := 3) rfl fun _ => rfl) rfl (by simp [coV, Value.oneCell']) (by rw [maxLen_eq]; omega) (by omega) fun p7 c7 => ?_
        | refine WO.append (k := 3) (m := 1) (coV fu) (ds := []) rfl rfl rfl rfl rfl rfl rfl ek23 (news_own (k2 := 2) rfl fun _ => rfl) rfl (by simp [coV, Value.oneCell']) (by rw [maxLen_eq]; omega) (by omega) fun p7 c7 => ?_
        | refine WO.append (k := 3) (m := 1) (coV fu) (ds := []) rfl rfl rfl rfl rfl rfl rfl ek23 (news_own (k2 := 1) rfl fun _ => rfl) rfl (by simp [coV, Value.oneCell']) (by rw [maxLen_eq]; omega) (by omega) fun p7 c7 => ?_
        simp only [sx, ty, q1, q2, q5, q6, q7, q8, q9, qa, qb, reduceIte, List.append_assoc, List.cons_append, List.nil_append, sy, q3, q4]
        with_reducible refine WV.next (by simp [keptL, boxO]) (by simp) ?_
        refine WV.one 6 (by kernel_rfl) rfl ?_
        simp only [List.getElem_toArray, List.getElem_cons_succ, List.getElem_cons_zero]
        refine WO.go 1 (ds := []) rfl ?_
        simp only [sx, ty, q1, q2, q5, q6, q7, q8, q9, qa, qb, reduceIte, List.append_assoc, List.cons_append, List.nil_append, sy, q3, q4]
        with_reducible refine WV.next (by simp [keptL, boxO]) (by simp) ?_
        refine WV.nil (by kernel_rfl) ?_
        refine ⟨rfl, by simp [getE, bnd], by simp, _, rfl, fun ρ w1 hb => ⟨fun _ => True, _, _, rfl, ?_⟩⟩
        first
        | exact own_slice (A := rCop) (S := fun _ => True) (k := 2) (xs := (cosV cs ++ coV fu)) hb rfl (by simp) (fun _ _ => trivial) (cos_read1 cs fu)
        | exact own_slice (A := rCop) (S := fun _ => True) (k := 3) (xs := (cosV cs ++ coV fu)) hb rfl (by simp) (fun _ _ => trivial) (cos_read1 cs fu)
  · rintro S8 s8 _ ⟨qm, cm, rfl, hmr⟩
    refine W.seqK fun K4 hK4 => ?_
    refine W.join 62 (.val (.bool (!use4 ds cs fu))) [0, 1, 2, 4, 11, 12] (W.region ?_) ?_
    · skip
      refine WO.go 2 (ds := [some 48, some 49, some 50, some 51, some 52, some 53, some 54, some 55, some 56, some 57, some 58, some 59, some 60, some 61, some 62]) rfl ?_
      simp only [sx, ty, q1, q2, q5, q6, q7, q8, q9, qa, qb, reduceIte, sy, q3, q4, e0]
      refine WO.call (.bool (few36 ds (cs ++ [fu]))) (ds := [some 48, some 49, some 50, some 51, some 52, some 53, some 54, some 55, some 56, some 57, some 58, some 59, some 60, some 61, some 62]) rfl rfl rfl rfl co6 (fun ρ w1 hb => few36_spec (Rp.now hl (hb.first (by simp))) (Rp.keep hmr (hb.at (S := S8) (s := s8) (by simp [St.put])))) ?_
      refine WO.go 2 (ds := [some 48, some 49, some 50, some 51, some 52, some 53, some 54, some 55, some 56, some 57, some 58, some 59, some 60, some 61, some 62]) rfl ?_
      simp only [sx, ty, q1, q2, q5, q6, q7, q8, q9, qa, qb, reduceIte, sy, q3, q4, e0]
      refine WO.cases 52 _ rfl (fun hg52 => ?_) (fun hg52 => ?_)
      · skip
        have hf9 : few36 ds (cs ++ [fu]) = false := by simpa using hg52
        refine WO.go 10 (ds := [some 48, some 49, some 50, some 51, some 52, some 53, some 54, some 55, some 56, some 57, some 58, some 59, some 60, some 61, some 62]) rfl ?_
        simp only [sx, ty, q1, q2, q5, q6, q7, q8, q9, qa, qb, reduceIte, sy, q3, q4, e0]
        with_reducible refine WO.nil ?_
        refine ⟨rfl, ?_, ⟨_, rfl⟩, by simp [Own.bnd, bndL, bnd, boxO], by simp⟩
        try simp [getE, bnd, keepE, use4, hg52]
        try simp [getE, bnd, keepE, use4, hg52, hg58]
        try simp_all [getE, bnd, keepE, use4]
      · skip
        have hf9 : few36 ds (cs ++ [fu]) = true := by simpa using hg52
        refine WO.go 2 (ds := [some 48, some 49, some 50, some 51, some 52, some 53, some 54, some 55, some 56, some 57, some 58, some 59, some 60, some 61, some 62]) rfl ?_
        simp only [sx, ty, q1, q2, q5, q6, q7, q8, q9, qa, qb, reduceIte, sy, q3, q4, e0]
        refine WO.call (.bool (valid ds cs)) (ds := [some 48, some 49, some 50, some 51, some 52, some 53, some 54, some 55, some 56, some 57, some 58, some 59, some 60, some 61, some 62]) rfl rfl rfl rfl co7 (fun ρ w1 hb => rvalid_spec (Rp.now hl (hb.first (by simp))) (Rp.now hl2 (hb.first (by simp)))) ?_
        refine WO.go 3 (ds := [some 48, some 49, some 50, some 51, some 52, some 53, some 54, some 55, some 56, some 57, some 58, some 59, some 60, some 61, some 62]) rfl ?_
        simp only [sx, ty, q1, q2, q5, q6, q7, q8, q9, qa, qb, reduceIte, sy, q3, q4, e0]
        refine WO.cases 58 _ rfl (fun hg58 => ?_) (fun hg58 => ?_)
        · skip
          have hv9 : valid ds cs = false := by simpa [hf9] using hg58
          refine WO.go 4 (ds := [some 48, some 49, some 50, some 51, some 52, some 53, some 54, some 55, some 56, some 57, some 58, some 59, some 60, some 61, some 62]) rfl ?_
          simp only [sx, ty, q1, q2, q5, q6, q7, q8, q9, qa, qb, reduceIte, sy, q3, q4, e0]
          with_reducible refine WO.nil ?_
          refine ⟨rfl, ?_, ⟨_, rfl⟩, by simp [Own.bnd, bndL, bnd, boxO], by simp⟩
          try simp [getE, bnd, keepE, use4, hg52]
          try simp [getE, bnd, keepE, use4, hg52, hg58]
          try simp_all [getE, bnd, keepE, use4]
        · skip
          have hv9 : valid ds cs = true := by simpa [hf9] using hg58
          refine WO.go 4 (ds := [some 48, some 49, some 50, some 51, some 52, some 53, some 54, some 55, some 56, some 57, some 58, some 59, some 60, some 61, some 62]) rfl ?_
          simp only [sx, ty, q1, q2, q5, q6, q7, q8, q9, qa, qb, reduceIte, sy, q3, q4, e0]
          with_reducible refine WO.nil ?_
          refine ⟨rfl, ?_, ⟨_, rfl⟩, by simp [Own.bnd, bndL, bnd, boxO], by simp⟩
          try simp [getE, bnd, keepE, use4, hg52]
          try simp [getE, bnd, keepE, use4, hg52, hg58]
          try simp_all [getE, bnd, keepE, use4]
    · simp only [sx, ty, q1, q2, q5, q6, q7, q8, q9, qa, qb, reduceIte, sxk, sy, q3, q4, e0]
      refine W.cond rfl rfl (fun hc => ?_) (fun hc => ?_)
      · skip
        refine W.pure (ds := []) rfl fun K6 hK6 => ?_
        simp only [sx, ty, q1, q2, q5, q6, q7, q8, q9, qa, qb, reduceIte, sy, q3, q4, e0]; with_reducible refine hK6 _ ?_; clear hK6
        refine W.ret ⟨by simp, _, rfl, fun ρ w1 hb => ?_⟩
        rfl
      · skip
        have hu : use4 ds cs fu = true := by simpa using hc
        obtain ⟨h7, h8, hv, hpos⟩ := use4_spec hu
        refine W.skip (hK4 _ ?_)
        refine W.pure (ds := []) rfl fun K7 hK7 => ?_
        simp only [sx, ty, q1, q2, q5, q6, q7, q8, q9, qa, qb, reduceIte, sy, q3, q4, e0, hhe]; with_reducible refine hK7 _ ?_; clear hK7
        refine W.seqK fun K8 hK8 => W.region ?_
        refine WO.go 3 (ds := []) rfl ?_
        simp only [sx, ty, q1, q2, q5, q6, q7, q8, q9, qa, qb, reduceIte, sy, q3, q4, e0, hhe]
        refine WO.callX (fun x : List Int × Option Addr × Nat => .tuple #[.slice none 0 0, .slice x.2.1 x.1.length x.2.2, .bool false, .int .i64 0]) (fun _ => True) (ds := []) rfl rfl rfl rfl co8 (fun ρ w1 hb => Gives.mono (plan_no (Rp.now hl (hb.first (by simp [St.put]))) (Rp.now hl2 (hb.first (by simp [St.put]))) hv hhr (by omega) (by omega) hno) fun r w9 _ ⟨x, h1, _⟩ => ⟨x, h1, trivial⟩) fun x _ => ?_
        refine WO.go 9 (ds := []) rfl ?_
        simp only [sx, ty, q1, q2, q5, q6, q7, q8, q9, qa, qb, reduceIte, sy, q3, q4, e0, hhe]
        with_reducible refine WO.nil ?_
        refine hK8 _ ?_; clear hK8
        refine W.seqK fun K9 hK9 => ?_
        refine W.pure (ds := []) rfl fun K10 hK10 => ?_
        simp only [sx, ty, q1, q2, q5, q6, q7, q8, q9, qa, qb, reduceIte, sy, q3, q4, e0, hhe]; with_reducible refine hK10 _ ?_; clear hK10
        refine W.cond rfl rfl (fun hc => ?_) (fun hc => ?_)
        · skip
          simp at hc
        · skip
          refine W.skip (hK9 _ ?_)
          refine W.seqK fun K11 hK11 => ?_
          refine W.pure (ds := []) rfl fun K12 hK12 => ?_
          simp only [sx, ty, q1, q2, q5, q6, q7, q8, q9, qa, qb, reduceIte, sy, q3, q4, e0, hhe]; with_reducible refine hK12 _ ?_; clear hK12
          refine W.cond rfl rfl (fun hc => ?_) (fun hc => ?_)
          rotate_left
          · skip
            simp at hc
          · skip
            refine W.pure (ds := []) rfl fun K13 hK13 => ?_
            simp only [sx, ty, q1, q2, q5, q6, q7, q8, q9, qa, qb, reduceIte, sy, q3, q4, e0, hhe]; with_reducible refine hK13 _ ?_; clear hK13
            refine W.ret ⟨by simp, _, rfl, fun ρ w1 hb => ?_⟩
            rfl
end Go.Proofs.YtolmeekbjonbcaaGreat
set_option linter.unusedVariables false
namespace Go.SX
open Go Go.RowKit
section
variable {P : Program} {ops : Array Oper} {md : Region.Mode} {Q : Exit → St → Prop} {o : Oper} {rest : List Oper} {σ : St}
theorem wpAnyC_of_quiet {C C' : World → Prop} {K : Act → Prop} {Q' : Exit → Act → World → Prop} (hCC : ∀ w, C' w → C w) (hQ : ∀ a w, C' w → K a → Q' .normal a w) : ∀ (fuel : Nat) (listed : Array Bool) (a : Act) (w : World), C' w →
    wpAnyQ P md ops C' K fuel listed a → wpAnyC P md ops C Q' fuel listed a w
  | 0, _, _, _, hw, h => ⟨h.1, hQ _ _ hw h.2⟩
  | fuel + 1, _, _, _, hw, h => ⟨fun h0 => hQ _ _ hw (h.1 h0), fun i hi => wpOp_of_qOp hw (fun a' w' hw' h' => ⟨hCC _ hw', wpAnyC_of_quiet hCC hQ fuel _ a' w' hw' h'⟩) (h.2 i hi)⟩
/-- the operations R come one after the other, those from k on in whatever order -/
def chainT (md : Region.Mode) (ops : Array Oper) (k : Nat) : List Nat → Array Bool → Bool
  | [], listed => Region.lexFrom md ops (ops.size - k) k listed
  | i :: T, listed => Region.ready md ops listed == [i] && chainT md ops k T (listed.setIfInBounds i true)
/-- what is left at the chain's end -/
def tailQ (P : Program) (ops : Array Oper) (k : Nat) (Q : Exit → St → Prop) : Exit → St → Prop
  | .normal, σ => WQ P ops (Q .normal) (ops.toList.drop k) σ
  | e, σ => Q e σ
theorem WC.nilT {T : List Own} {sn : List ((Nat → Prop) × World)} {k : Nat} (h : WQ P ops (Q .normal) (ops.toList.drop k) σ) : WC P ops (tailQ P ops k Q) T sn [] σ := h
theorem WC.soundT {T : List Own} {sn : List ((Nat → Prop) × World)} {k : Nat} (hf : T.all freeO = true) (hsel : Region.noSelect ops = true) : ∀ (R : List Nat) (listed : Array Bool) (fuel : Nat) (ρ : Nat → Nat) (σ : St) (a : Act) (w : World), R.length + (ops.size - k) = fuel → chainT .any ops k R listed = true → (∀ i, i ∈ R → i < ops.size) →
    WC P ops (tailQ P ops k Q) T sn (pickL ops R) σ → keptL T σ.own → (∀ p, p ∈ sn → p ∈ σ.snaps) → Sat ρ σ a w → wpAnyC P .any ops (CF T sn) (lift Q) fuel listed a w
  | [], listed, fuel, ρ, σ, a, w, hfu, hc, _, h, hT, hsn, hs => by
    subst hfu
    have h' : wpQuiet P ops (Base ρ σ) (fun a' => ∀ w', Base ρ σ w' → lift Q .normal a' w') (ops.toList.drop k) a :=
      wpQuiet_mono (fun a' ⟨σ', h1, h2, h3, h4⟩ w' hw' => ⟨ρ, σ', h1.sat (hw'.same h2 h3), h4⟩) _ _ (h ρ a hs.e ⟨w, hs.base⟩)
    have hdl : (ops.toList.drop k).length = ops.size - k := by simp
    have h2 := wpAnyQ_lex (C := Base ρ σ) (md := .any) hsel (ops.toList.drop k) k listed a (fun j => by simp [List.getElem?_drop]) (by rw [hdl]; exact hc) h'
    rw [hdl] at h2
    rw [List.length_nil, Nat.zero_add]
    exact wpAnyC_of_quiet (fun w' hw' => CF.of hw' hT hf hsn) (fun a' w' hw' h => h w' hw') _ _ _ _ hs.base h2
  | i0 :: R, listed, fuel, ρ, σ, a, w, hfu, hc, hlt, h, hT, hsn, hs => by
    subst hfu
    simp only [chainT, Bool.and_eq_true, beq_iff_eq] at hc
    obtain ⟨hr, hc⟩ := hc
    have hk := hlt i0 List.mem_cons_self
    have ho : ops[i0]? = some ops[i0] := Array.getElem?_eq_getElem hk
    have hp : pickL ops (i0 :: R) = ops[i0] :: pickL ops R := by simp [pickL, ho]
    rw [hp] at h
    rw [List.length_cons, show R.length + 1 + (ops.size - k) = (R.length + (ops.size - k)) + 1 by omega]
    refine ⟨fun h0 => (by rw [hr] at h0; cases h0), fun i hi => ?_⟩
    rw [hr, List.mem_singleton] at hi
    subst hi
    have h1 := h ρ a w hs
    simp only [wpList] at h1
    unfold wpOp
    simp only [ho]
    have next : ∀ a' w', lift (fun e σ' => match e with
        | .normal => keptL T σ'.own ∧ (∀ p, p ∈ sn → p ∈ σ'.snaps) ∧ WC P ops (tailQ P ops k Q) T sn (pickL ops R) σ'
        | e => tailQ P ops k Q e σ') .normal a' w' → CF T sn w' ∧ wpAnyC P .any ops (CF T sn) (lift Q) (R.length + (ops.size - k)) (listed.setIfInBounds i true) a' w' := fun a' w' ⟨ρ', σ', hs', g1, g2, g3⟩ =>
      ⟨CF.of hs'.base g1 hf g2, WC.soundT hf hsel R _ _ ρ' σ' a' w' rfl hc (fun j hj => hlt j (List.mem_cons_of_mem _ hj)) g3 g1 g2 hs'⟩
    have exits : ∀ e a' w', e ≠ .normal → lift (fun e σ' => match e with
        | .normal => keptL T σ'.own ∧ (∀ p, p ∈ sn → p ∈ σ'.snaps) ∧ WC P ops (tailQ P ops k Q) T sn (pickL ops R) σ'
        | e => tailQ P ops k Q e σ') e a' w' → lift Q e a' w' := fun e a' w' hne ⟨ρ', σ', hs', g⟩ => ⟨ρ', σ', hs', by cases e <;> first | exact absurd rfl hne | exact g⟩
    split
    · rename_i hw
      rw [if_pos hw] at h1
      rcases h1 with h1 | ⟨h1, a9, w9, h2⟩
      · exact .inl (upon_monoE next exits _ h1)
      · exact .inr ⟨h1, a9, w9, exits _ _ _ (by simp) h2⟩
    · rename_i hw
      rw [if_neg hw] at h1
      exact next _ _ h1
def floatOKT (ops : Array Oper) (F R : List Nat) (k : Nat) : Bool :=
  Region.noSelect ops && decide (F.length + (R.length + (ops.size - k)) = ops.size) && F.all (fun i => decide (i < ops.size)) && R.all (fun i => decide (i < ops.size)) && floatB .any ops F (Array.replicate ops.size false) && chainT .any ops k R (markL F (Array.replicate ops.size false))
/-- A region that draws its order: the operations F float, the operations R come one after the other, those from k on are quiet. -/
theorem W.regionFT {id : Nat} (F R : List Nat) (k : Nat) (T : List Own) (hm : P.follows .mixedOrders = true) (hB : floatOKT ops F R k = true) (hf : T.all freeO = true) (hT : keptL T σ.own) (hlen : T.length = σ.own.length) (hQ : ∀ c σ, ¬ Q (.panic c) σ)
    (h : WF P (fun σ1 => WC P ops (tailQ P ops k Q) T σ.snaps (pickL ops R) ⟨σ.n, σ1.env, σ.own, σ.snaps, σ.dfs⟩) (pickL ops F) ⟨σ.n, σ.env, T, σ.snaps, σ.dfs⟩) : W P (.region id ops true) Q σ := fun ρ a w hs => by
  simp only [floatOKT, Bool.and_eq_true, decide_eq_true_eq, List.all_eq_true] at hB
  obtain ⟨⟨⟨⟨⟨hsel, hsz⟩, hFl⟩, hRl⟩, hFB⟩, hRB⟩ := hB
  refine of_wp (wp_region_any hm ?_)
  have hs' : Sat ρ σ a { w with drawn := w.drawn + 1 } := hs.below (below_drew w)
  have hC : CF T σ.snaps { w with drawn := w.drawn + 1 } := CF.of hs'.base hT hf fun _ h => h
  have key : wpAnyC P .any ops (CF T σ.snaps) (lift Q) (F.length + (R.length + (ops.size - k))) (Array.replicate ops.size false) a { w with drawn := w.drawn + 1 } := by
    refine WF.sound hf hsel (fun c a w ⟨_, σ', _, h⟩ => hQ c σ' h) ρ _ hC F _ _ ⟨σ.n, σ.env, T, σ.snaps, σ.dfs⟩ a hFB hFl rfl rfl ⟨hs'.size, hs'.defers, fun i s hi => ⟨(hs'.env i s hi).1, fun ρ' hρ => (hs'.env i s hi).2 ρ' (by rw [← hlen]; exact hρ)⟩⟩ h ?_
    intro σ1 a1 e1 e2 e3 e4 hk
    refine WC.soundT hf hsel R _ _ ρ ⟨σ.n, σ1.env, σ.own, σ.snaps, σ.dfs⟩ a1 _ rfl hRB hRl hk hT (fun _ h => h) ⟨?_, ?_, fun i s hi => ?_, hs'.base.same rfl rfl⟩
    · have := e1.size; simp only [Prod.mk.injEq] at e4; rw [this]; exact e4.1
    · have := e1.defers; simp only [Prod.mk.injEq] at e4; rw [this, e4.2]
    · obtain ⟨g1, g2⟩ := e1.env i s hi
      simp only [Prod.mk.injEq] at e4
      exact ⟨by rw [← e4.1]; exact g1, fun ρ' hρ => g2 ρ' (by rw [e2, hlen]; exact hρ)⟩
  rw [hsz] at key
  exact wpAny_of_C _ _ _ _ key
end
end Go.SX
