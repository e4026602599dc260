/-
  What a call gives: results out of slots and out of blocks of the call's own; a function's call out of a proof about its body.
-/
import Derived.Test.YtnbfdncmlbegmaaSxOps
set_option linter.unusedVariables false
set_option linter.unusedSimpArgs false
namespace Go.SX
open Go Go.RowKit

/-- The call returns; what was there lies there as before; of the value and the world behind it Q holds. -/
def Gives (P : Program) (f : FuncId) (args : Array Value) (w : World) (Q : Value → World → Prop) : Prop :=
  Calls P f args w fun e w' => ∃ v, e = .returned v ∧ Below w.heap.size w w' ∧ Q v w'

theorem Gives.mono {P : Program} {f : FuncId} {args : Array Value} {w : World} {Q Q' : Value → World → Prop} (h : Gives P f args w Q) (hq : ∀ v w', Below w.heap.size w w' → Q v w' → Q' v w') : Gives P f args w Q' :=
  Calls.mono h fun _ _ ⟨v, he, hb, hq'⟩ => ⟨v, he, hb, hq v _ hb hq'⟩

/-- What the results' places hold, as a symbolic value. -/
def resOne (P : Program) (σ : St) : ResultVar → Option SV
  | .tmp t => getE σ.env t
  | .cell a t => match getE σ.env a with
    | some u => loadS P σ t u
    | none => none
def resAll (P : Program) (σ : St) : List ResultVar → Option (List SV)
  | [] => some []
  | r :: l => match resOne P σ r, resAll P σ l with
    | some s, some ss => some (s :: ss)
    | _, _ => none
def resSV (P : Program) (σ : St) (l : List ResultVar) : Option SV :=
  match resAll P σ l with
  | some [s] => some s
  | some ss => some (.tup ss)
  | none => none

/-- What is owed where the function ends. -/
def Fin (P : Program) (w0 : World) (rs : List ResultVar) (Q : Value → World → Prop) (σ : St) : Prop :=
  (((fun _ => True), w0) ∈ σ.snaps ∧ σ.dfs = []) ∧ ∃ s, resSV P σ rs = some s ∧ ∀ ρ w', Base ρ σ w' → Q (den ρ s) w'
def Ends (P : Program) (w0 : World) (rs : List ResultVar) (Q : Value → World → Prop) : Exit → St → Prop
  | .ret, σ => Fin P w0 rs Q σ
  | .normal, σ => Fin P w0 rs Q σ
  | _, _ => False

def resFn (tmps : Array Value) : ResultVar → Sem Value
  | .tmp t => pure (tmps.getD t undef)
  | .cell a t => do loadVar t (← asAddr (tmps.getD a undef))
theorem results_eq (fn : Func) (tmps : Array Value) : results fn tmps = (fn.results.mapM (resFn tmps) >>= fun vs => pure (if h : vs.size = 1 then vs[0] else .tuple vs)) := by
  unfold results
  congr 1

def RunR (r : Option SV) (K : SV → Prop) : Prop :=
  match r with
  | some s => K s
  | none => False
theorem RunR.ex {r : Option SV} {K : SV → Prop} (h : RunR r K) : ∃ s, r = some s ∧ K s := by
  cases r with
  | none => exact h.elim
  | some s => exact ⟨s, rfl, h⟩
theorem Fin.of {P : Program} {w0 : World} {rs : List ResultVar} {Q : Value → World → Prop} {σ : St} (hm : ((fun _ => True), w0) ∈ σ.snaps ∧ σ.dfs = []) (h : RunR (resSV P σ rs) fun s => ∀ ρ w', Base ρ σ w' → Q (den ρ s) w') : Fin P w0 rs Q σ := by
  cases hr : resSV P σ rs with
  | none => rw [hr] at h; exact h.elim
  | some s => rw [hr] at h; exact ⟨hm, s, hr, h⟩

theorem run_results {P : Program} {σ : St} {ρ : Nat → Nat} {a : Act} {w : World} (hs : Sat ρ σ a w) : ∀ (l : List ResultVar) (ss : List SV), resAll P σ l = some ss →
    (l.mapM (resFn a.tmps)).run P w = Result.ok (denL ρ ss) w
  | [], ss, h => by simp only [resAll, Option.some.injEq] at h; subst h; simp [denL]
  | .tmp t :: l, ss, h => by
    simp only [resAll, resOne] at h
    split at h
    · rename_i s ss' h1 h2
      simp only [Option.some.injEq] at h; subst h
      have := run_results hs l ss' h2
      have he := hs.eval h1
      rw [List.mapM_cons]
      simp only [Sem.run_bind, Sem.run_pure, denL]
      simp only [resFn, Array.getD_eq_getD_getElem?, he, Sem.run_pure, Result.andThen_ok, Option.getD_some]
      rw [this]
      rfl
    · cases h
  | .cell b t :: l, ss, h => by
    simp only [resAll, resOne] at h
    cases hu : getE σ.env b with
    | none => rw [hu] at h; cases h
    | some u =>
      rw [hu] at h
      simp only at h
      split at h
      · rename_i s ss' h1 h2
        simp only [Option.some.injEq] at h; subst h
        have := run_results hs l ss' h2
        have he := hs.eval hu
        have hl := loadS_run hs.base h1 ρ (Agree.refl _ _)
        rw [List.mapM_cons]
        simp only [Sem.run_bind, Sem.run_pure, denL]
        cases u with
        | loc k off =>
          simp only [den, Instr.loadAt, Instr.sureAddr, Sem.run_bind, Sem.run_pure, Result.andThen_ok] at hl
          simp only [resFn, Array.getD_eq_getD_getElem?, he, Option.getD_some, den, asAddr, Sem.run_bind, Sem.run_pure, Result.andThen_ok, hl]
          rw [this]
          rfl
        | _ => simp [loadS] at h1
      · cases h

def initE : Nat → List SV → List (Nat × SV)
  | _, [] => []
  | i, s :: l => (i, s) :: initE (i + 1) l
theorem initE_get : ∀ (l : List SV) (i j : Nat) (s : SV), getE (initE i l) j = some s → ∃ k, j = i + k ∧ l[k]? = some s
  | [], _, _, _, h => by cases h
  | x :: l, i, j, s, h => by
    simp only [initE, getE] at h
    split at h
    · rename_i he; exact ⟨0, by omega, by simpa using h⟩
    · obtain ⟨k, hk, hl⟩ := initE_get l (i + 1) j s h; exact ⟨k + 1, by omega, by simpa using hl⟩

/-- A function's call out of a proof about its body. -/
theorem gives_of {P : Program} {f : FuncId} {fn : Func} {c : Code} {args : Array Value} {w : World} {Q : Value → World → Prop} (svs : List SV) (n : Nat) (rs : List ResultVar)
    (hf : P.funcs[f]? = some fn) (hb : fn.body = some c) (hn : fn.ntmps = n) (hr : fn.results = rs.toArray) (hl : svs.length ≤ n) (ha : args = (denL (fun _ => 0) svs).toArray) (hbn : bndL 0 svs = true)
    (h : W P c (Ends P w rs Q) ⟨n, initE 0 svs, [], [((fun _ => True), w)], []⟩) : Gives P f args w Q := by
  refine calls_of_wp hf hb ?_
  subst ha
  refine wp_mono (wp_of (h (fun _ => 0) _ w ?_)) ?_
  · have hsz : (denL (fun _ => 0) svs).toArray.size = svs.length := by simp
    refine ⟨by simp [hn]; omega, rfl, fun i s hi => ?_, ⟨fun k o hk => by simp at hk, fun i j oi oj b h1 => by simp at h1, fun p hp => ?_⟩⟩
    · obtain ⟨k, rfl, hk⟩ := initE_get svs 0 i s hi
      have hkl : k < svs.length := (List.getElem?_eq_some_iff.1 hk).1
      simp only [Nat.zero_add]
      refine ⟨by show k < n; omega, fun ρ' hρ => ?_⟩
      have : denL ρ' svs = denL (fun _ => 0) svs := denL_agree (m := 0) (fun i hi => by omega) svs hbn
      have hk2 : (denL (fun _ => 0) svs)[k]? = some (den ρ' s) := by rw [← this, denL_eq]; simp [hk]
      rw [Array.getElem?_append_left (by simp; exact hkl)]
      simpa using hk2
    · simp only [List.mem_singleton] at hp
      subst hp
      exact ⟨Keep.refl _ _, fun k o b hk => by simp at hk⟩
  · rintro e a' w' ⟨ρ, σ, hs, hq⟩
    have fin : Fin P w rs Q σ → (a'.defers = [] ∧ ∃ v, (results fn a'.tmps).run P w' = .ok v w' ∧ ∃ v', Ending.returned v = .returned v' ∧ Below w.heap.size w w' ∧ Q v' w') := by
      rintro ⟨⟨hm, hdf⟩, s, hs1, hs2⟩
      refine ⟨by rw [hs.defers, hdf]; rfl, den ρ s, ?_, den ρ s, rfl, (hs.base.keep _ hm).1.toBelow, hs2 ρ w' hs.base⟩
      unfold resSV at hs1
      cases hra : resAll P σ rs with
      | none => rw [hra] at hs1; cases hs1
      | some ss =>
        have hrun := run_results hs rs ss hra
        rw [results_eq, hr]
        simp only [Sem.run_bind, List.mapM_toArray, Sem.run_map, hrun, Result.andThen_ok, Sem.run_pure]
        rw [hra] at hs1
        match ss, hs1 with
        | [], h1 => simp only [Option.some.injEq] at h1; subst h1; simp [denL, den]
        | [x], h1 => simp only [Option.some.injEq] at h1; subst h1; simp [denL]
        | x :: y :: l, h1 => simp only [Option.some.injEq] at h1; subst h1; simp [denL, den]
    cases e with
    | normal => exact fin hq
    | ret => exact fin hq
    | _ => exact hq.elim
end Go.SX
