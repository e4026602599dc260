/-
  Codec: Get of the package: rules, walk.
-/
import Derived.Test.YtnbfdncmlbegmaaC11
set_option linter.unusedVariables false
set_option linter.unusedSimpArgs false
set_option maxHeartbeats 2000000
namespace Go.Proofs.Ytnbfdncmlbegmaa
open Go Go.SX Go.RowKit

/-! ### Regions that draw any order, way by way -/
section
variable {P : Program} {ops : Array Oper} {Q : Exit → St → Prop} {σ : St}
def WA (P : Program) (ops : Array Oper) (Q : Exit → St → Prop) (f : Nat) (listed : Array Bool) (σ : St) : Prop := ∀ ρ a w, Sat ρ σ a w → wpAny P .any ops (lift Q) f listed a w
def AQ (P : Program) (ops : Array Oper) (Q : Exit → St → Prop) (f : Nat) (listed : Array Bool) : Exit → St → Prop
  | .normal, σ => WA P ops Q f listed σ
  | e, σ => Q e σ
theorem W.regionA {id : Nat} (hm : P.follows .mixedOrders = true) (h : WA P ops Q ops.size (Array.replicate ops.size false) σ) : W P (.region id ops true) Q σ := fun ρ a w hs =>
  of_wp (wp_region_any hm (h ρ a _ (hs.below (below_drew w))))
theorem WA.nil {listed : Array Bool} (hr : Region.ready .any ops listed = []) (h : Q .normal σ) : WA P ops Q 0 listed σ := fun ρ a w hs => ⟨hr, ρ, σ, hs, h⟩
theorem Oper.wp_two {o : Oper} {a : Act} {w : World} {K K' : Act → World → Prop} {Q1 Q2 : Exit → Act → World → Prop} (h : ∀ a w, K a w → K' a w) (hq : ∀ e a w, e ≠ .normal → Q1 e a w → Q2 e a w) (hh : o.wp P a w K Q1) : o.wp P a w K' Q2 := by
  unfold Oper.wp at *
  generalize (execOp a.eval o).run P w = r at *
  cases r with
  | ok n w' =>
    cases n <;> simp only [Oper.upon] at hh ⊢ <;>
      first
        | exact h _ _ hh
        | exact Calls.mono hh (fun e w'' he => by
            cases e with
            | returned v => exact h _ _ he
            | panicked ch => exact hq _ _ _ (by simp) he
            | outgrown => obtain ⟨a0, w0, h0⟩ := he; exact ⟨a0, w0, hq _ _ _ (by simp) h0⟩)
        | exact Rows.mono hh (fun _ _ he => h _ _ he)
  | halt x w' => cases x <;> simp only [Oper.upon] at hh ⊢ <;> first | exact hh | exact hq _ _ _ (by simp) hh
theorem WA.step {f : Nat} {listed : Array Bool} (is : List Nat) (hr : Region.ready .any ops listed = is) (hne : is ≠ []) (h : ∀ i, i ∈ is → ∃ o, nth ops.toList i = some o ∧ WO P ops (AQ P ops Q f (listed.setIfInBounds i true)) [o] σ) : WA P ops Q (f + 1) listed σ := fun ρ a w hs => by
  refine ⟨fun h0 => absurd (hr ▸ h0) hne, fun i hi => ?_⟩
  rw [hr] at hi
  obtain ⟨o, ho, hW⟩ := h i hi
  rw [nth_eq, Array.getElem?_toList] at ho
  have h9 := hW ρ a w hs
  unfold wpOp
  rw [ho]
  simp only [wpList] at h9
  have hk : ∀ a w, lift (AQ P ops Q f (listed.setIfInBounds i true)) .normal a w → wpAny P .any ops (lift Q) f (listed.setIfInBounds i true) a w := fun a w ⟨ρ', σ', h1, h2⟩ => h2 ρ' a w h1
  have hq : ∀ e a w, e ≠ .normal → lift (AQ P ops Q f (listed.setIfInBounds i true)) e a w → lift Q e a w := fun e a w hne ⟨ρ', σ', h1, h2⟩ => ⟨ρ', σ', h1, by cases e <;> first | exact absurd rfl hne | exact h2⟩
  split at h9
  · rename_i hw
    simp only [hw, if_true]
    rcases h9 with h9 | ⟨h9, a0, w0, h10⟩
    · exact .inl (Oper.wp_two hk hq h9)
    · exact .inr ⟨h9, a0, w0, hq _ _ _ (by simp) h10⟩
  · rename_i hw
    simp only [hw, if_false, Bool.false_eq_true]
    exact hk _ _ h9
end
/-! ### The end of Get -/
def EndsG (w0 : World) (Q : Value → World → Prop) : Exit → St → Prop := fun e σ => ((fun _ => True), w0) ∈ σ.snaps ∧ ∃ bl be vl ve, σ.dfs = [.fn { target := .fn (.func 28) #[], args := #[.pointer (some ⟨bl, 0, none⟩), .pointer (some ⟨be, 0, none⟩)] }] ∧ getE σ.env 2 = some (.val (.pointer (some ⟨bl, 0, none⟩))) ∧ getE σ.env 3 = some (.val (.pointer (some ⟨be, 0, none⟩))) ∧
  nth σ.own 0 = some (boxO 22 bl [vl]) ∧ nth σ.own 1 = some (boxO 25 be [ve]) ∧ match e with
    | .ret => ∀ ρ w', Base ρ σ w' → Q (.tuple #[vl, ve]) w'
    | .panic ch => ch = brokenE ∧ ∀ w', Q (.tuple #[.slice none 0 0, .int .i64 7]) w'
    | _ => False
theorem res_get {fn : Func} {a : Act} {w : World} {bl be : Nat} {vl ve : Value} (hr : fn.results = #[.cell 2 22, .cell 3 25]) (h2 : a.tmps[2]? = some (.pointer (some ⟨bl, 0, none⟩))) (h3 : a.tmps[3]? = some (.pointer (some ⟨be, 0, none⟩))) (hl : w.heap[bl]? = some (.cells #[vl] 22 (0, 0))) (he : w.heap[be]? = some (.cells #[ve] 25 (0, 0))) :
    (results fn a.tmps).run Try.prog w = .ok (.tuple #[vl, ve]) w := by
  have e1 := At.load (P := Try.prog) (box_one hl) agg22 sz22 (fun _ => rfl)
  have e2 := At.load (P := Try.prog) (box_one he) agg25 sz25 (fun _ => rfl)
  rw [results_eq, hr]
  have d1 : a.tmps.getD 2 undef = .pointer (some ⟨bl, 0, none⟩) := by rw [Array.getD_eq_getD_getElem?, h2]; rfl
  have d2 : a.tmps.getD 3 undef = .pointer (some ⟨be, 0, none⟩) := by rw [Array.getD_eq_getD_getElem?, h3]; rfl
  simp only [Sem.run_bind, List.mapM_toArray, Sem.run_map, List.mapM_cons, List.mapM_nil, resFn, d1, d2, show ∀ b : Addr, (asAddr (.pointer (some b))).run Try.prog w = .ok b w from fun _ => rfl, Sem.run_pure, Result.andThen_ok, e1, e2]
  rfl
theorem gives_of_caught {f : FuncId} {fn : Func} {c : Code} {args : Array Value} {w : World} {Q : Value → World → Prop} (svs : List SV) (n : Nat) (hf : Try.prog.funcs[f]? = some fn) (hb : fn.body = some c) (hn : fn.ntmps = n) (hr : fn.results = #[.cell 2 22, .cell 3 25]) (hl : svs.length ≤ n) (ha : args = (denL (fun _ => 0) svs).toArray) (hbn : bndL 0 svs = true)
    (h : W Try.prog c (EndsG w Q) ⟨n, initE 0 svs, [], [((fun _ => True), w)], []⟩) : Gives Try.prog f args w Q := by
  refine calls_of_wp_defers hf hb ?_
  subst ha
  refine wp_mono (wp_of (h (fun _ => 0) _ w ?_)) ?_
  · have hsz : (denL (fun _ => 0) svs).toArray.size = svs.length := by simp
    refine ⟨by simp [hn]; omega, rfl, fun i s hi => ?_, ⟨fun k o hk => by simp at hk, fun i j oi oj b h1 => by simp at h1, fun p hp => ?_⟩⟩
    · obtain ⟨k, rfl, hk⟩ := initE_get svs 0 i s hi
      have hkl : k < svs.length := (List.getElem?_eq_some_iff.1 hk).1
      simp only [Nat.zero_add]
      refine ⟨by show k < n; omega, fun ρ' hρ => ?_⟩
      have : denL ρ' svs = denL (fun _ => 0) svs := denL_agree (m := 0) (fun i hi => by omega) svs hbn
      have hk2 : (denL (fun _ => 0) svs)[k]? = some (den ρ' s) := by rw [← this, denL_eq]; simp [hk]
      rw [Array.getElem?_append_left (by simp; exact hkl)]
      simpa using hk2
    · simp only [List.mem_singleton] at hp
      subst hp
      exact ⟨Keep.refl _ _, fun k o b hk => by simp at hk⟩
  · rintro e a' w' ⟨ρ, σ, hs, hm, bl, be, vl, ve, hd, h2, h3, o0, o1, hq⟩
    have hdf : a'.defers = [{ target := .fn (.func 28) #[], args := #[.pointer (some ⟨bl, 0, none⟩), .pointer (some ⟨be, 0, none⟩)] }] := by rw [hs.defers, hd]; rfl
    have hl := box_heap hs.base o0
    have he := box_heap hs.base o1
    have hne : bl ≠ be := fun h => by
      rw [nth_eq] at o0 o1
      exact absurd (hs.base.apart 0 1 _ _ bl o0 o1 rfl (by rw [h]; rfl)) (by decide)
    have hinv : (invoke (.fn (.func 28) #[]) #[.pointer (some ⟨bl, 0, none⟩), .pointer (some ⟨be, 0, none⟩)]).run Try.prog w' = .ok (.enter 28 #[.pointer (some ⟨bl, 0, none⟩), .pointer (some ⟨be, 0, none⟩)]) w' := by simp [invoke, run_callFunc (show callOk Try.prog 28 = true by kernel_rfl)]
    have t2 : a'.tmps[2]? = some (.pointer (some ⟨bl, 0, none⟩)) := hs.eval h2
    have t3 : a'.tmps[3]? = some (.pointer (some ⟨be, 0, none⟩)) := hs.eval h3
    have hbel := (hs.base.keep _ hm).1.toBelow
    cases e with
    | ret =>
      simp only [bodyPostD]
      rw [hdf]
      refine leaves_cons (by simp) hinv (CallsD.mono caught_idle ?_)
      rintro e u' w'' ⟨rfl, rfl, hk⟩
      have hb2 := hs.base.below hk.toBelow
      exact ⟨_, res_get hr t2 t3 (box_heap hb2 o0) (box_heap hb2 o1), _, rfl, (hs.base.keep _ hm).1.below hk.toBelow |>.toBelow, hq ρ w'' hb2⟩
    | panic ch =>
      obtain ⟨rfl, hq⟩ := hq
      simp only [bodyPostD]
      rw [hdf]
      refine leaves_cons (by simp) hinv (CallsD.mono (caught_panics hl he hne) ?_)
      rintro e u' w'' ⟨rfl, rfl, hk, g1, g2⟩
      refine ⟨_, res_get hr t2 t3 g1 g2, _, rfl, ?_, hq w''⟩
      have k1 := (hs.base.keep _ hm).2 0 _ bl (by rw [← nth_eq]; exact o0) rfl trivial
      have k2 := (hs.base.keep _ hm).2 1 _ be (by rw [← nth_eq]; exact o1) rfl trivial
      simp only at k1 k2
      refine Keep.toBelow ⟨hk.os.trans hbel.os, hk.tape.trans hbel.tape, hk.output.trans hbel.output, Nat.le_trans hbel.size hk.size, fun b _ hb9 => (hk.block b ⟨fun h => ?_, fun h => ?_⟩ (Nat.lt_of_lt_of_le hb9 hbel.size)).trans (hbel.block b hb9)⟩
      · subst h; omega
      · subst h; omega
    | _ => exact hq.elim
end Go.Proofs.Ytnbfdncmlbegmaa
