/-
  The symbolic executor: blocks of the call's own made and written; a list of operations; calls.
-/
import Derived.Test.YtnbfdncmlbegmaaSxSound
set_option linter.unusedVariables false
set_option linter.unusedSimpArgs false
namespace Go.SX
open Go Go.RowKit
section
variable {P : Program} {ρ : Nat → Nat} {σ : St} {a : Act} {w : World}

def upd (ρ : Nat → Nat) (k b : Nat) : Nat → Nat := fun i => if i = k then b else ρ i
theorem agree_upd (ρ : Nat → Nat) (k b : Nat) : Agree k ρ (upd ρ k b) := fun i hi => by simp [upd, Nat.ne_of_lt hi]

theorem below_push (w : World) (o : Obj) : Below w.heap.size w { w with heap := w.heap.push o } :=
  ⟨rfl, rfl, rfl, by simp, fun k hk => by simp [Array.getElem?_push, Nat.ne_of_lt hk]⟩

theorem Base.push (hb : Base ρ σ w) (T : TypeId) (cs : List SV) (arr : Array Value) (hcs : ∀ ρ', Agree σ.own.length ρ ρ' → arr = (denL ρ' cs).toArray) :
    Base (upd ρ σ.own.length w.heap.size) (pushOwn σ T cs) { w with heap := w.heap.push (.cells arr T) } := by
  have hag := agree_upd ρ σ.own.length w.heap.size
  have hb' : Below w.heap.size w { w with heap := w.heap.push (.cells arr T) } := below_push w _
  have hcase : ∀ (k : Nat) (o : Own), (pushOwn σ T cs).own[k]? = some o → (k < σ.own.length ∧ σ.own[k]? = some o) ∨ (k = σ.own.length ∧ o = .cells T cs) := fun k o hk => by
    simp only [pushOwn] at hk
    rcases Nat.lt_or_ge k σ.own.length with h | h
    · rw [List.getElem?_append_left h] at hk; exact .inl ⟨h, hk⟩
    · rw [List.getElem?_append_right h] at hk
      have hlt := (List.getElem?_eq_some_iff.1 hk).1
      simp at hlt
      have : k = σ.own.length := by omega
      subst this
      simp at hk
      exact .inr ⟨rfl, hk.symm⟩
  have hlen : (pushOwn σ T cs).own.length = σ.own.length + 1 := by simp [pushOwn]
  have hnum : ∀ k o, k < σ.own.length → σ.own[k]? = some o → Own.num (upd ρ σ.own.length w.heap.size) k o = Own.num ρ k o := fun k o h _ => Own.num_agree hag h
  have hlt : ∀ k o b, σ.own[k]? = some o → Own.num ρ k o = some b → b < w.heap.size := fun k o b hk hn => Own.lt (hb.own k o hk ρ (Agree.refl _ _)) hn
  refine ⟨fun k o hk ρ' hρ => ?_, fun i j oi oj b hi hj hni hnj => ?_, fun p hp => ?_⟩
  · rw [hlen] at hρ
    have hρ0 : Agree σ.own.length ρ ρ' := hag.trans (hρ.mono (Nat.le_succ _))
    rcases hcase k o hk with ⟨h1, h2⟩ | ⟨rfl, rfl⟩
    · have := hb.own k o h2 ρ' hρ0
      refine Own.holds_same this fun b hn => hb'.block b (Own.lt this hn)
    · simp only [Own.holds]
      have : ρ' σ.own.length = w.heap.size := by rw [hρ _ (Nat.lt_succ_self _)]; simp [upd]
      rw [this, ← hcs ρ' hρ0]
      simp
  · rcases hcase i oi hi with ⟨h1, h2⟩ | ⟨rfl, rfl⟩ <;> rcases hcase j oj hj with ⟨h3, h4⟩ | ⟨rfl, rfl⟩
    · exact hb.apart i j oi oj b h2 h4 (by rw [← hnum i oi h1 h2]; exact hni) (by rw [← hnum j oj h3 h4]; exact hnj)
    · have := hlt i oi b h2 (by rw [← hnum i oi h1 h2]; exact hni)
      simp [Own.num, upd] at hnj; omega
    · have := hlt j oj b h4 (by rw [← hnum j oj h3 h4]; exact hnj)
      simp [Own.num, upd] at hni; omega
    · rfl
  · obtain ⟨h1, h2⟩ := hb.keep p hp
    refine ⟨h1.below hb', fun k o b hk hn hS => ?_⟩
    rcases hcase k o hk with ⟨h3, h4⟩ | ⟨rfl, rfl⟩
    · exact h2 k o b h4 (by rw [← hnum k o h3 h4]; exact hn) hS
    · simp [Own.num, upd] at hn; have := h1.size; omega

theorem Sat.push (hs : Sat ρ σ a w) (T : TypeId) (cs : List SV) (arr : Array Value) (hcs : ∀ ρ', Agree σ.own.length ρ ρ' → arr = (denL ρ' cs).toArray) :
    Sat (upd ρ σ.own.length w.heap.size) (pushOwn σ T cs) a { w with heap := w.heap.push (.cells arr T) } := by
  refine ⟨hs.size, hs.defers, fun i s hi => ⟨(hs.env i s hi).1, fun ρ' hρ => (hs.env i s hi).2 ρ' ?_⟩, hs.base.push T cs arr hcs⟩
  exact (agree_upd ρ _ _).trans (hρ.mono (by simp [pushOwn]))

theorem Base.set (hb : Base ρ σ w) {k : Nat} {T : TypeId} {cs : List SV} (hk : σ.own[k]? = some (.cells T cs)) (cs' : List SV) (arr : Array Value) (hcs : ∀ ρ', Agree σ.own.length ρ ρ' → arr = (denL ρ' cs').toArray) :
    Base ρ (setOwn σ k (.cells T cs')) (w.setRow (ρ k) arr) := by
  have hkl : k < σ.own.length := (List.getElem?_eq_some_iff.1 hk).1
  have hold := hb.own k _ hk ρ (Agree.refl _ _)
  simp only [Own.holds] at hold
  have hget : ∀ (j : Nat) (o : Own), (setOwn σ k (.cells T cs')).own[j]? = some o → (j = k ∧ o = .cells T cs') ∨ (j ≠ k ∧ σ.own[j]? = some o) := fun j o hj => by
    simp only [setOwn, setN_eq] at hj
    by_cases h : j = k
    · subst h; rw [List.getElem?_set_self hkl] at hj; exact .inl ⟨rfl, (Option.some.inj hj).symm⟩
    · rw [List.getElem?_set_ne (Ne.symm h)] at hj; exact .inr ⟨h, hj⟩
  have hlen : (setOwn σ k (.cells T cs')).own.length = σ.own.length := by simp [setOwn, setN_eq]
  refine ⟨fun j o hj ρ' hρ => ?_, fun i j oi oj b hi hj hni hnj => ?_, fun p hp => ?_⟩
  · rw [hlen] at hρ
    rcases hget j o hj with ⟨rfl, rfl⟩ | ⟨h1, h2⟩
    · simp only [Own.holds]
      rw [hρ j hkl, ← hcs ρ' hρ]
      exact setRow_heap w (ρ j) _ arr T (0, 0) hold
    · have h3 := hb.own j o h2 ρ' hρ
      refine Own.holds_same h3 fun b hn => setRow_other w _ _ _ fun he => h1 ?_
      have hjl : j < σ.own.length := (List.getElem?_eq_some_iff.1 h2).1
      exact hb.apart j k o (.cells T cs) b h2 hk (by rw [← Own.num_agree hρ hjl]; exact hn) (by simp [Own.num, he])
  · rcases hget i oi hi with ⟨rfl, rfl⟩ | ⟨h1, h2⟩ <;> rcases hget j oj hj with ⟨rfl, rfl⟩ | ⟨h3, h4⟩
    · rfl
    · exact hb.apart i j (.cells T cs) oj b hk h4 hni hnj
    · exact hb.apart i j oi (.cells T cs) b h2 hk hni hnj
    · exact hb.apart i j oi oj b h2 h4 hni hnj
  · obtain ⟨h1, h2⟩ := hb.keep p hp
    refine ⟨⟨h1.os, h1.tape, h1.output, by rw [setRow_size]; exact h1.size, fun b hS hlt => ?_⟩, fun j o b hj hn hS => ?_⟩
    · rw [setRow_other _ _ _ _ (fun he => ?_)]
      · exact h1.block b hS hlt
      · have := h2 k _ b hk (by simp [Own.num, he]) hS; omega
    · rcases hget j o hj with ⟨rfl, rfl⟩ | ⟨h3, h4⟩
      · exact h2 j (.cells T cs) b hk hn hS
      · exact h2 j o b h4 hn hS

theorem Sat.set (hs : Sat ρ σ a w) {k : Nat} {T : TypeId} {cs : List SV} (hk : σ.own[k]? = some (.cells T cs)) (cs' : List SV) (arr : Array Value) (hcs : ∀ ρ', Agree σ.own.length ρ ρ' → arr = (denL ρ' cs').toArray) :
    Sat ρ (setOwn σ k (.cells T cs')) a (w.setRow (ρ k) arr) := by
  have hlen : (setOwn σ k (.cells T cs')).own.length = σ.own.length := by simp [setOwn, setN_eq]
  exact ⟨hs.size, hs.defers, fun i s hi => ⟨(hs.env i s hi).1, fun ρ' hρ => (hs.env i s hi).2 ρ' (by rw [hlen] at hρ; exact hρ)⟩, hs.base.set hk cs' arr hcs⟩

theorem storeS_run {t : TypeId} {u p : SV} {σ' : St} (hs : Sat ρ σ a w) (hu : ∀ ρ', Agree σ.own.length ρ ρ' → den ρ' u = den ρ u) (h : storeS P σ t u p = some σ') :
    ∃ w', (Instr.storeAt t (den ρ p) (den ρ u)).run P w = .ok () w' ∧ Sat ρ σ' a w' := by
  cases p with
  | loc k off =>
    simp only [storeS, nth_eq] at h
    split at h
    · rename_i T cs hk
      split at h
      · rename_i n hn
        split at h
        · rename_i hl
          split at h
          · rename_i hle
            split at h
            · rename_i h1
              simp only [Option.some.injEq] at h; subst h
              have hold := hs.base.own k _ hk ρ (Agree.refl _ _)
              simp only [Own.holds] at hold
              have hst := run_storeCells_at P (ρ k) off T (denL ρ (cellsS u)) 0 _ w hold (by simp; omega) (fun v hv => by
                rw [denL_eq] at hv
                obtain ⟨s, hs', rfl⟩ := List.mem_map.1 hv
                exact oneS_den ρ (List.all_eq_true.1 h1 s hs'))
              have hrun : (Instr.storeAt t (den ρ (.loc k off)) (den ρ u)).run P w = .ok () (w.setRow (ρ k)
                  (List.take (off + 0) (denL ρ cs).toArray.toList ++ denL ρ (cellsS u) ++ List.drop (off + 0 + (denL ρ (cellsS u)).length) (denL ρ cs).toArray.toList).toArray) := by
                simp only [Instr.storeAt, den, Instr.sureAddr, Sem.run_bind, Sem.run_pure, Result.andThen_ok, storeVar, run_szOf hn]
                rw [cellsS_den]
                simp only [List.size_toArray, denL_length, hl, ne_eq, not_true_eq_false, if_false]
                simpa [hl] using hst
              refine ⟨_, hrun, hs.set hk _ _ (fun ρ' hρ => ?_)⟩
              have e1 := denL_agree' hs hk ρ' hρ
              have e2 : denL ρ' (cellsS u) = denL ρ (cellsS u) := by
                have := congrArg Value.cells (hu ρ' hρ)
                rw [cellsS_den, cellsS_den] at this
                simpa using this
              simp [splice_eq, denL_append, denL_take, denL_drop, e1, e2, List.append_assoc]
            · cases h
          · cases h
        · cases h
      · cases h
    · cases h
  | _ => simp [storeS] at h
where
  denL_agree' {k : Nat} {T : TypeId} {cs : List SV} (hs : Sat ρ σ a w) (hk : σ.own[k]? = some (.cells T cs)) (ρ' : Nat → Nat) (hρ : Agree σ.own.length ρ ρ') : denL ρ' cs = denL ρ cs := by
    have h1 := hs.base.own k _ hk ρ' hρ
    have h2 := hs.base.own k _ hk ρ (Agree.refl _ _)
    simp only [Own.holds] at h1 h2
    rw [hρ k (List.getElem?_eq_some_iff.1 hk).1, h2] at h1
    simp at h1
    exact h1.symm

theorem zero_cells (len : Nat) (z : Array Value) (hpos : 0 < z.size) :
    ((Array.range (len * z.size)).map fun x => (z[x % z.size]!)) = ((List.replicate len z.toList).flatten).toArray := by
  apply Array.toList_inj.1
  apply List.ext_getElem?
  intro j
  have key : ∀ (n j : Nat), j < n * z.size → ((List.replicate n z.toList).flatten)[j]? = z[j % z.size]? := by
    intro n
    induction n with
    | zero => intro j hj; omega
    | succ n ih =>
      intro j hj
      rw [Nat.succ_mul] at hj
      rw [List.replicate_succ, List.flatten_cons]
      by_cases hjs : j < z.size
      · rw [List.getElem?_append_left (by simpa using hjs), Nat.mod_eq_of_lt hjs]; simp
      · have hl : z.toList.length = z.size := by simp
        rw [List.getElem?_append_right (by omega), hl, ih (j - z.size) (by omega), ← Nat.mod_eq_sub_mod (by omega)]
  by_cases hj : j < len * z.size
  · have hm : j % z.size < z.size := Nat.mod_lt _ hpos
    rw [show ((List.replicate len z.toList).flatten).toArray.toList = (List.replicate len z.toList).flatten from rfl, key len j hj]
    rw [Array.getElem?_eq_getElem hm]
    simp [hj, getElem!_pos z (j % z.size) hm]
  · rw [List.getElem?_eq_none (by simp; omega), List.getElem?_eq_none (by simp; omega)]

theorem dOk_lt {d : Option Nat} (h : dOk σ d = true) : ∀ i, d = some i → i < σ.n := by
  rintro i rfl
  simpa [dOk] using h

/-- ONE OPERATION. -/
theorem step_sound (hs : Sat ρ σ a w) {o : Oper} {σ' : St} (h : step P σ o.dst o.op = some σ') :
    ∃ ρ' v w', ((execOp a.eval o).run P w = .ok (.value v) w' ∨ ((execOp a.eval o).run P w = .ok .skip w' ∧ v = undef)) ∧ Sat ρ' σ' (a.put o.dst v) w' := by
  unfold step at h
  split at h
  case h_2 => cases h
  rename_i hd
  have hd' := dOk_lt hd
  have hpush : ∀ (T : TypeId) (cs : List SV) (arr : Array Value) (s : SV) (v : Value), (∀ ρ', Agree σ.own.length ρ ρ' → arr = (denL ρ' cs).toArray) → (∀ ρ', ρ' σ.own.length = w.heap.size → v = den ρ' s) →
      Sat (upd ρ σ.own.length w.heap.size) ((pushOwn σ T cs).put o.dst s) (a.put o.dst v) { w with heap := w.heap.push (.cells arr T) } := fun T cs arr s v hcs hv => by
    refine (hs.push T cs arr hcs).put _ _ _ (fun i hi => hd' i hi) fun ρ' hρ => hv ρ' ?_
    rw [hρ σ.own.length (by simp [pushOwn])]; simp [upd]
  have hpure : ∀ s, opv P σ o.op = some s → σ' = σ.put o.dst s → ∃ ρ' v w', ((execOp a.eval o).run P w = .ok (.value v) w' ∨ ((execOp a.eval o).run P w = .ok .skip w' ∧ v = undef)) ∧ Sat ρ' σ' (a.put o.dst v) w' := by
    intro s h1 h2
    obtain ⟨v, hv, hden⟩ := opv_sound hs h1
    subst h2
    exact ⟨ρ, v, w, .inl hv, hs.put _ _ _ hd' hden⟩
  split at h
  case h_1 T x hop =>
    cases hx : ev σ x with
    | none => simp [hx] at h
    | some s =>
      simp only [hx, Option.map_some, Option.some.injEq] at h; subst h
      refine ⟨_, .pointer (some ⟨w.heap.size, 0, none⟩), _, .inl ?_, hpush T (cellsS s) (den ρ s).cells _ _ (fun ρ' hρ => ?_) (fun ρ' hρ => by simp [den, hρ])⟩
      · unfold execOp
        simp only [hop]
        simp [Instr.box, newVar, newRow, hs.ev hx ρ (Agree.refl _ _)]
      · rw [← hs.ev hx ρ (Agree.refl _ _), hs.ev hx ρ' hρ, cellsS_den]
  case h_2 T hop =>
    cases hx : zeroS P T with
    | none => simp [hx] at h
    | some z =>
      simp only [hx, Option.map_some, Option.some.injEq] at h; subst h
      unfold zeroS at hx
      cases hi : P.info? T with
      | none => simp [hi] at hx
      | some i =>
        cases hz : i.zero with
        | none => simp [hi, hz] at hx
        | some zv =>
          simp only [hi, hz, Option.bind_some, Option.map_some, Option.some.injEq] at hx
          refine ⟨_, .pointer (some ⟨w.heap.size, 0, none⟩), _, .inl ?_, hpush T z zv.cells _ _ (fun ρ' hρ => ?_) (fun ρ' hρ => by simp [den, hρ])⟩
          · unfold execOp
            simp only [hop]
            simp [Instr.alloc, zeroValue, typeInfo, hi, hz, newVar, newRow]
          · rw [← hx, denL_val]
  case h_3 t x y hop =>
    split at h
    · rename_i p u hp hu
      cases hst : storeS P σ t u p with
      | none => simp [hst] at h
      | some σ1 =>
        simp only [hst, Option.map_some, Option.some.injEq] at h; subst h
        obtain ⟨w', h1, h2⟩ := storeS_run hs (fun ρ' hρ => by rw [← hs.ev hu ρ' hρ, hs.ev hu ρ (Agree.refl _ _)]) hst
        have hn : σ1.n = σ.n := by
          unfold storeS at hst
          split at hst <;> try (cases hst; done)
          split at hst <;> try (cases hst; done)
          split at hst <;> try (cases hst; done)
          split at hst <;> try (cases hst; done)
          split at hst <;> try (cases hst; done)
          split at hst <;> try (cases hst; done)
          simp only [Option.some.injEq] at hst; subst hst; rfl
        refine ⟨ρ, undef, w', .inr ⟨?_, rfl⟩, h2.put _ _ _ (fun i hi => by rw [hn]; exact hd' i hi) (fun ρ' hρ => rfl)⟩
        unfold execOp
        simp only [hop]
        simp [hs.ev hp ρ (Agree.refl _ _), hs.ev hu ρ (Agree.refl _ _), h1]
    · cases h
  case h_4 t len parts hop =>
    split at h
    · rename_i e sz ps he hps
      split at h
      · rename_i z hz
        split at h
        · rename_i hle
          split at h
          · rename_i hzl
            cases hf : fillS (fun i => some (i * sz, sz)) ((List.replicate len z).flatten) ps with
            | none => simp [hf] at h
            | some cs =>
              simp only [hf, Option.map_some, Option.some.injEq] at h; subst h
              unfold elemSz at he
              split at he
              · rename_i e' hu
                cases hsz : szOf P e' with
                | none => simp [hsz] at he
                | some sz' =>
                  simp only [hsz, Option.map_some, Option.some.injEq, Prod.mk.injEq] at he
                  obtain ⟨rfl, rfl⟩ := he
                  unfold zeroS at hz
                  cases hi : P.info? e' with
                  | none => simp [hi] at hz
                  | some i =>
                    cases hzz : i.zero with
                    | none => simp [hi, hzz] at hz
                    | some zv =>
                      simp only [hi, hzz, Option.bind_some, Option.map_some, Option.some.injEq] at hz
                      have hfill : ∀ ρ', Agree σ.own.length ρ ρ' → Instr.fill (fun i => some (i * sz', sz')) (denL ρ' ((List.replicate len z).flatten)).toArray (parts.map fun p => (p.1, a.eval p.2)).toList = some (denL ρ' cs).toArray := by
                        intro ρ' hρ
                        have := hs.evP hps ρ' hρ
                        rw [show (parts.map fun (p : Nat × Operand) => (p.1, a.eval p.2)).toList = ps.map fun p => (p.1, den ρ' p.2) by simpa using this]
                        exact fillS_run ρ' ps _ cs hf
                      have hz1 : ∀ ρ', denL ρ' ((List.replicate len z).flatten) = (List.replicate len zv.cells.toList).flatten := fun ρ' => by
                        rw [← hz, denL_eq, List.map_flatten, List.map_replicate, ← denL_eq, denL_val]
                      have hzs : zv.cells.size = sz' := by
                        rw [← hz] at hzl; simpa using hzl
                      have hstart : len * sz' ≠ 0 → ((Array.range (len * sz')).map fun x => (zv.cells[x % zv.cells.size]!)) = ((List.replicate len zv.cells.toList).flatten).toArray := fun h0 => by
                        rw [← hzs]
                        exact zero_cells len zv.cells (Nat.pos_of_ne_zero fun h => h0 (by rw [← hzs, h]; simp))
                      refine ⟨_, .slice (some ⟨w.heap.size, 0, none⟩) len len, _, .inl ?_, hpush e' cs (denL ρ cs).toArray _ _ (fun ρ' hρ => ?_) (fun ρ' hρ => by simp [den, hρ])⟩
                      · unfold execOp
                        simp only [hop]
                        have h24 : ¬ (len * sz' > 2 ^ 24) := by omega
                        have hf' := hfill ρ (Agree.refl _ _)
                        rw [hz1 ρ] at hf'
                        simp only [Instr.buildSlice, Sem.run_bind, run_underlying hu, Result.andThen_ok, run_szOf hsz, h24, if_false]
                        by_cases h0 : len * sz' = 0
                        · have hnil : (List.replicate len zv.cells.toList).flatten = [] := by
                            apply List.eq_nil_of_length_eq_zero
                            simp [hzs, h0]
                          rw [hnil] at hf'
                          simp only [h0, if_true, Sem.run_bind, Sem.run_pure, Result.andThen_ok]
                          rw [show (Array.map (fun x => (#[] : Array Value)[x % (#[] : Array Value).size]!) (Array.range 0)) = #[] from by simp]
                          simp only [hf']
                          simp [newRow]
                        · simp only [h0, if_false]
                          have hz0 : (zeroValue e').run P w = .ok zv w := by simp [zeroValue, typeInfo, hi, hzz]
                          simp only [Sem.run_bind, hz0, Result.andThen_ok, Sem.run_pure]
                          rw [hstart h0]
                          simp only [hf']
                          simp [newRow]
                      · have h1 := hfill ρ (Agree.refl _ _)
                        have h2 := hfill ρ' hρ
                        rw [hz1] at h1 h2
                        rw [h1] at h2
                        exact Option.some.inj h2
              · cases he
          · cases h
        · cases h
      · cases h
    · cases h
  case h_5 =>
    cases hv : opv P σ o.op with
    | none => simp [hv] at h
    | some s => simp only [hv, Option.map_some, Option.some.injEq] at h; exact hpure s hv h.symm
end
end Go.SX
