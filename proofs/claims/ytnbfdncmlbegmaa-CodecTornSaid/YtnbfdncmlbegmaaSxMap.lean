/-
  A set of the call's own: a map from int to bool that holds true at each of its keys.
-/
import Derived.Test.YtnbfdncmlbegmaaSxQuiet
set_option linter.unusedVariables false
set_option linter.unusedSimpArgs false
namespace Go.SX
open Go Go.RowKit
section
variable {P : Program} {ops : Array Oper} {Q : Exit → St → Prop} {σ : St} {l rest : List Oper} {o : Oper} {ds : List (Option Nat)}

def setL : Nat → List Int → List MapEntry
  | _, [] => []
  | i, k :: ks => ⟨.int .i64 k, .bool true, i⟩ :: setL (i + 1) ks
def setE (ks : List Int) : Array MapEntry := (setL 0 ks).toArray
theorem setL_append : ∀ (ks : List Int) (i : Nat) (k : Int), setL i (ks ++ [k]) = setL i ks ++ [⟨.int .i64 k, .bool true, i + ks.length⟩]
  | [], i, k => by simp [setL]
  | x :: ks, i, k => by simp [setL, setL_append ks (i + 1) k, Nat.add_assoc, Nat.add_comm 1]
theorem setE_push (ks : List Int) (k : Int) : (setE ks).push ⟨.int .i64 k, .bool true, ks.length⟩ = setE (ks ++ [k]) := by
  apply Array.toList_inj.1
  simp [setE, setL_append]

/-- a map type from an integer kind to bool -/
def mapSet (P : Program) (t : TypeId) : Option (TypeId × TypeId) :=
  match P.underlying t with
  | some (.map k e) => match P.underlying k, (P.info? e).bind (·.zero) with
    | some (.int _), some (.bool false) => some (k, e)
    | _, _ => none
  | _ => none
theorem mapSet_spec {t k e : TypeId} (h : mapSet P t = some (k, e)) : P.underlying t = some (.map k e) ∧ (∃ kk, P.underlying k = some (.int kk)) ∧ ∃ i, P.info? e = some i ∧ i.zero = some (.bool false) := by
  unfold mapSet at h
  split at h
  · rename_i k' e' hu
    split at h
    · rename_i kk h1 h2
      simp only [Option.some.injEq, Prod.mk.injEq] at h
      obtain ⟨rfl, rfl⟩ := h
      cases hi : P.info? e' with
      | none => simp [hi] at h2
      | some i => simp [hi] at h2; exact ⟨hu, ⟨kk, h1⟩, i, rfl, h2⟩
    · cases h
  · cases h

theorem findNow_set (kk : IntKind) (x : Int) : ∀ (ks : List Int) (i j : Nat), (Instr.findNow (.int kk) (.int .i64 x) (setL i ks) j = some none ∧ x ∉ ks) ∨ (∃ n, Instr.findNow (.int kk) (.int .i64 x) (setL i ks) j = some (some (n, .bool true)) ∧ x ∈ ks)
  | [], i, j => .inl ⟨rfl, by simp⟩
  | k :: ks, i, j => by
    by_cases h : x = k
    · subst h
      exact .inr ⟨j, by simp [setL, Instr.findNow, Instr.sameNow], by simp⟩
    · rcases findNow_set kk x ks (i + 1) (j + 1) with ⟨h1, h2⟩ | ⟨n, h1, h2⟩
      · left
        refine ⟨?_, by simp [h, h2]⟩
        simp only [setL, Instr.findNow, Instr.sameNow, if_true]
        have : (x == k) = false := by simpa using h
        rw [this]; exact h1
      · right
        refine ⟨n, ?_, by simp [h2]⟩
        simp only [setL, Instr.findNow, Instr.sameNow, if_true]
        have : (x == k) = false := by simpa using h
        rw [this]; exact h1

theorem run_checkKey {b : Bool} {t : TypeId} {kk : IntKind} {x : Int} {w : World} (h : P.underlying t = some (.int kk)) : (Instr.checkKey b 10000 t (.int .i64 x)).run P w = .ok () w := by
  have : ∀ n, (Instr.checkKey b (n + 1) t (.int .i64 x)).run P w = .ok () w := fun n => by simp [Instr.checkKey, run_underlying h]
  exact this 9999

/-- make(map[int]bool) -/
theorem WO.makeSet {t : TypeId} (hds : dsOk ds ops.toList = true) (hg : gd ds σ o.guard = some true) (hd : dOk σ o.dst = true)
    (hop : o.op = .makeMap t none) (h : ∀ r, WO P ops Q rest ((σ.pushO (.map r (setE []) 0)).put o.dst (.val (.map (some r))))) : WO P ops Q (o :: rest) σ :=
  WO.one hds hg fun ρ a w hs => by
    refine ⟨ρ, _, .map (some w.heap.size), _, .inl ?_, Sat.put (hs.pushO (o := .map w.heap.size (setE []) 0) (below_push w (.map #[] 0)) (fun _ _ h => by cases h) ?_ (fun b hb => ?_)) _ _ _ ?_ (fun _ _ => rfl), h w.heap.size⟩
    · unfold execOp
      rw [hop]
      simp [Instr.makeMap]
    · simp [Own.holds, setE, setL]
    · simp only [Own.num, Option.some.injEq] at hb; omega
    · intro j hj; exact dOk_lt (σ := σ.pushO _) (by rw [dOk_pushO]; exact hd) j hj

/-- seen[x] -/
theorem WO.inSet {t kt et : TypeId} {m x : Operand} {k r : Nat} {ks : List Int} {y : Int} (hds : dsOk ds ops.toList = true) (hg : gd ds σ o.guard = some true) (hd : dOk σ o.dst = true)
    (hop : o.op = .lookup t m x false) (hk : nth σ.own k = some (.map r (setE ks) ks.length)) (hm : ev σ m = some (.val (.map (some r)))) (hx : ev σ x = some (.val (.int .i64 y))) (ht : mapSet P t = some (kt, et))
    (h : WO P ops Q rest (σ.put o.dst (.val (.bool (ks.contains y))))) : WO P ops Q (o :: rest) σ :=
  WO.one hds hg fun ρ a w hs => by
    rw [nth_eq] at hk
    have hown := hs.base.own k _ hk ρ (Agree.refl _ _)
    simp only [Own.holds] at hown
    obtain ⟨hu, ⟨kk, hkk⟩, i, hi, hz⟩ := mapSet_spec ht
    refine ⟨ρ, _, .bool (ks.contains y), w, .inl ?_, hs.put _ _ _ (dOk_lt hd) (fun _ _ => rfl), h⟩
    unfold execOp
    rw [hop]
    simp only [Sem.run_bind, hs.ev hm ρ (Agree.refl _ _), hs.ev hx ρ (Agree.refl _ _), den, Instr.lookup, run_underlying hu, Result.andThen_ok]
    have hget : (getObj r).run P w = .ok (.map (setE ks) ks.length) w := by simp [getObj, Sem.run, hown]
    simp only [hget, Result.andThen_ok, Sem.run_bind, Sem.run_pure, run_checkKey hkk, Instr.findKey, run_underlying hkk]
    have hzero : (zeroValue et).run P w = .ok (.bool false) w := by simp [zeroValue, typeInfo, hi, hz]
    rcases findNow_set kk y ks 0 0 with ⟨h1, h2⟩ | ⟨n, h1, h2⟩
    · skip
      simp [setE, h1, hzero, h2]
    · skip
      simp [setE, h1, h2]

/-- seen[x] = true, x being new -/
theorem WO.addSet {t kt et : TypeId} {m x v : Operand} {k r : Nat} {ks : List Int} {y : Int} (hds : dsOk ds ops.toList = true) (hg : gd ds σ o.guard = some true) (hd : dOk σ o.dst = true)
    (hop : o.op = .mapUpdate t m x v) (hk : nth σ.own k = some (.map r (setE ks) ks.length)) (hm : ev σ m = some (.val (.map (some r)))) (hx : ev σ x = some (.val (.int .i64 y))) (hv : ev σ v = some (.val (.bool true))) (ht : mapSet P t = some (kt, et))
    (hnew : y ∉ ks) (h : WO P ops Q rest ((setOwn σ k (.map r (setE (ks ++ [y])) (ks ++ [y]).length)).put o.dst (.val undef))) : WO P ops Q (o :: rest) σ :=
  WO.one hds hg fun ρ a w hs => by
    rw [nth_eq] at hk
    have hown := hs.base.own k _ hk ρ (Agree.refl _ _)
    simp only [Own.holds] at hown
    obtain ⟨hu, ⟨kk, hkk⟩, i, hi, hz⟩ := mapSet_spec ht
    have hlt : r < w.heap.size := (Array.getElem?_eq_some_iff.1 hown).1
    have hget : (getObj r).run P w = .ok (.map (setE ks) ks.length) w := by simp [getObj, Sem.run, hown]
    have hgr : w.grownBy { w with heap := w.heap.setIfInBounds r (.map (setE (ks ++ [y])) (ks.length + 1)) } (some r) :=
      ⟨rfl, rfl, rfl, by simp, fun j hj hne => by simp [Array.getElem?_setIfInBounds, show r ≠ j from fun e => hne (by rw [e])]⟩
    refine ⟨ρ, _, undef, _, .inr ⟨?_, rfl⟩, Sat.put (hs.turn (o' := .map r (setE (ks ++ [y])) (ks ++ [y]).length) hk (fun _ _ h => by cases h) hgr ?_ (fun b hb => .inl hb)) _ _ _ ?_ (fun _ _ => rfl), h⟩
    · unfold execOp
      rw [hop]
      simp only [Sem.run_bind, hs.ev hm ρ (Agree.refl _ _), hs.ev hx ρ (Agree.refl _ _), hs.ev hv ρ (Agree.refl _ _), den, Instr.mapUpdate, run_underlying hu, Result.andThen_ok]
      simp only [hget, Result.andThen_ok, Sem.run_bind, run_checkKey hkk, Instr.findKey, run_underlying hkk]
      rcases findNow_set kk y ks 0 0 with ⟨h1, h2⟩ | ⟨n, h1, h2⟩
      · have hpush : (setE ks).push { key := Value.int IntKind.i64 y, val := Value.bool true, born := ks.length } = setE (ks ++ [y]) := setE_push ks y
        have hset : (setObj r (.map (setE (ks ++ [y])) (ks.length + 1))).run P w = .ok () { w with heap := w.heap.setIfInBounds r (.map (setE (ks ++ [y])) (ks.length + 1)) } := by simp [setObj, Sem.run, hown]
        have h1' : Instr.findNow (TypeDesc.int kk) (Value.int IntKind.i64 y) (setE ks).toList 0 = some none := h1
        rw [h1']
        simp only [Sem.run_pure, Result.andThen_ok, hpush, hset]
      · exact absurd h2 hnew
    · simp [Own.holds, hlt]
    · intro j hj; exact dOk_lt (σ := setOwn σ k _) (by rw [dOk_setOwn]; exact hd) j hj
end
end Go.SX
