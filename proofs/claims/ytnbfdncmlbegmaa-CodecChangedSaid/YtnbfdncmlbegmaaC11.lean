/-
  Codec: caught: its two contracts.
-/
import Derived.Test.YtnbfdncmlbegmaaC10
import Derived.WideLaws
set_option linter.unusedVariables false
set_option linter.unusedSimpArgs false
set_option maxHeartbeats 1000000
namespace Go.Proofs.Ytnbfdncmlbegmaa
open Go Go.SX Go.RowKit

section
variable {P : Program} {σ : St} {o : Oper}
theorem QR.heldNil {t yt u : TypeId} {x : Operand} {v : Value} (hop : o.op = .binOp .eql t x (.const .nilIface) yt) (hx : ev σ x = some (.val (.iface u v))) (h : P.underlying t = some (.interface (P.methodsAt t))) : QR P o σ (.val (.bool false)) := fun ρ a w hs => by
  refine ⟨_, ?_, fun _ _ => rfl⟩
  unfold execOp
  rw [hop]
  have h9 : eqGuard .eql t x (.const .nilIface) (.iface u v) .nilIface = pure () := by cases x <;> rfl
  have h8 : a.eval (.const .nilIface) = .nilIface := rfl
  simp only [hs.ev hx ρ (Agree.refl _ _), den, h8, h9, Sem.run_bind, Sem.run_pure, Result.andThen_ok, run_eql_held_nil (P := P) (w := w) t u v h]
theorem QR.nilNil {t yt : TypeId} {x : Operand} (hop : o.op = .binOp .eql t x (.const .nilIface) yt) (hx : ev σ x = some (.val .nilIface)) (h : P.underlying t = some (.interface (P.methodsAt t))) : QR P o σ (.val (.bool true)) := fun ρ a w hs => by
  refine ⟨_, ?_, fun _ _ => rfl⟩
  unfold execOp
  rw [hop]
  have h9 : eqGuard .eql t x (.const .nilIface) .nilIface .nilIface = pure () := by cases x <;> rfl
  have h8 : a.eval (.const .nilIface) = .nilIface := rfl
  simp only [hs.ev hx ρ (Agree.refl _ _), den, h8, h9, Sem.run_bind, Sem.run_pure, Result.andThen_ok, run_eql_nil_nil (P := P) (w := w) t h]
theorem QR.assert {t u : TypeId} {x : Operand} {v : Value} (hop : o.op = .typeAssert x t u true) (hx : ev σ x = some (.val (.iface u v))) (h : notIface P u = true) : QR P o σ (.val (.tuple #[v, .bool true])) := fun ρ a w hs => by
  refine ⟨_, ?_, fun _ _ => rfl⟩
  unfold notIface at h
  unfold execOp
  rw [hop]
  cases hu : P.underlying u with
  | none => rw [hu] at h; cases h
  | some ut =>
    rw [hu] at h
    have h9 : (Instr.typeAssert (.iface u v) t u true).run P w = .ok (.tuple #[v, .bool true]) w := by
      cases ut <;> first | (cases h; done) | simp [Instr.typeAssert, run_underlying hu]
    simp only [hs.ev hx ρ (Agree.refl _ _), den, Sem.run_bind, Sem.run_pure, Result.andThen_ok, h9]
end

theorem if20 : Try.prog.underlying 20 = some (.interface (Try.prog.methodsAt 20)) := by kernel_rfl
theorem ni65 : notIface Try.prog 65 = true := by kernel_rfl
def brokenR : List PanicEntry := [{ v := .iface 65 (.agg #[]), recovered := true }]
/-- what the second half of 'caught' is walked from -/
theorem sat_caught {a : Act} {w : World} {bl be : Nat} {vl ve : Value} {n : Nat} (ha : a.tmps.size = n) (hd : a.defers = []) (E : List (Nat × Value)) (hE : ∀ i s, getE (E.map fun p => (p.1, SV.val p.2)) i = some s → i < n ∧ ∃ v, s = .val v ∧ a.tmps[i]? = some v)
    (hl : w.heap[bl]? = some (.cells #[vl] 22 (0, 0))) (he : w.heap[be]? = some (.cells #[ve] 25 (0, 0))) (hne : bl ≠ be) : Sat (fun _ => 0) ⟨n, E.map fun p => (p.1, SV.val p.2), [boxO 22 bl [vl], boxO 25 be [ve]], [((fun b => ¬ b = bl ∧ ¬ b = be), w)], []⟩ a w := by
  refine ⟨ha, hd, fun i s hi => ?_, ⟨fun k o hk ρ' _ => ?_, fun i j oi oj b h1 h2 h3 h4 => ?_, fun p hp => ?_⟩⟩
  · obtain ⟨h1, v, rfl, h2⟩ := hE i s hi
    exact ⟨h1, fun ρ' _ => h2⟩
  · match k, hk with
    | 0, hk => simp only [List.getElem?_cons_zero, Option.some.injEq] at hk; subst hk; exact boxO_holds (by simp [maxLen]) hl
    | 1, hk => simp only [List.getElem?_cons_zero, List.getElem?_cons_succ, Option.some.injEq] at hk; subst hk; exact boxO_holds (by simp [maxLen]) he
    | k + 2, hk => simp at hk
  · have key : ∀ (j : Nat) (o : SX.Own) b, ([boxO 22 bl [vl], boxO 25 be [ve]] : List SX.Own)[j]? = some o → o.num (fun _ => 0) j = some b → (j = 0 ∧ b = bl) ∨ (j = 1 ∧ b = be) := fun j o b hj hn => by
      match j, hj with
      | 0, hj => simp only [List.getElem?_cons_zero, Option.some.injEq] at hj; subst hj; exact .inl ⟨rfl, (Option.some.inj hn).symm⟩
      | 1, hj => simp only [List.getElem?_cons_zero, List.getElem?_cons_succ, Option.some.injEq] at hj; subst hj; exact .inr ⟨rfl, (Option.some.inj hn).symm⟩
      | k + 2, hk => simp at hk
    rcases key i oi b h1 h3 with ⟨g1, g2⟩ | ⟨g1, g2⟩ <;> rcases key j oj b h2 h4 with ⟨g3, g4⟩ | ⟨g3, g4⟩
    · omega
    · exact absurd (g2.symm.trans g4) hne
    · exact absurd (g4.symm.trans g2) hne
    · omega
  · simp only [List.mem_singleton] at hp
    subst hp
    refine ⟨Keep.refl _ _, fun k o b hk hn hS => ?_⟩
    match k, hk with
    | 0, hk => simp only [List.getElem?_cons_zero, Option.some.injEq] at hk; subst hk; exact absurd (Option.some.inj hn).symm hS.1
    | 1, hk => simp only [List.getElem?_cons_zero, List.getElem?_cons_succ, Option.some.injEq] at hk; subst hk; exact absurd (Option.some.inj hn).symm hS.2
    | k + 2, hk => simp at hk
theorem env_three {p q v : Value} : ∀ i s, getE (([(0, p), (1, q), (7, v)] : List (Nat × Value)).map fun p => (p.1, SV.val p.2)) i = some s → i < 17 ∧ ∃ u, s = .val u ∧ (#[p, q] ++ (Array.replicate 15 undef).setIfInBounds 5 v : Array Value)[i]? = some u := by
  intro i s hi
  simp only [List.map_cons, List.map_nil, getE] at hi
  split at hi
  · rename_i h; subst h; exact ⟨by omega, p, (Option.some.inj hi).symm, rfl⟩
  · split at hi
    · rename_i h; subst h; exact ⟨by omega, q, (Option.some.inj hi).symm, rfl⟩
    · split at hi
      · rename_i h; subst h; exact ⟨by omega, v, (Option.some.inj hi).symm, rfl⟩
      · cases hi
theorem sat_idle {a : Act} {w : World} {n : Nat} (ha : a.tmps.size = n) (hd : a.defers = []) (E : List (Nat × Value)) (hE : ∀ i s, getE (E.map fun p => (p.1, SV.val p.2)) i = some s → i < n ∧ ∃ v, s = .val v ∧ a.tmps[i]? = some v) :
    Sat (fun _ => 0) ⟨n, E.map fun p => (p.1, SV.val p.2), [], [((fun _ => True), w)], []⟩ a w := by
  refine ⟨ha, hd, fun i s hi => ?_, ⟨fun k o hk => by simp at hk, fun i j oi oj b h1 => by simp at h1, fun p hp => ?_⟩⟩
  · obtain ⟨h1, v, rfl, h2⟩ := hE i s hi
    exact ⟨h1, fun ρ' _ => h2⟩
  · simp only [List.mem_singleton] at hp
    subst hp
    exact ⟨Keep.refl _ _, fun k o b hk => by simp at hk⟩
theorem caught_panics {w : World} {bl be : Nat} {vl ve : Value} (hl : w.heap[bl]? = some (.cells #[vl] 22 (0, 0))) (he : w.heap[be]? = some (.cells #[ve] 25 (0, 0))) (hne : bl ≠ be) :
    CallsD Try.prog 28 #[.pointer (some ⟨bl, 0, none⟩), .pointer (some ⟨be, 0, none⟩)] (.panicking brokenE) w fun e u' w' =>
      e = .returned (.tuple #[]) ∧ u' = .panicking brokenR ∧ Keep (fun b => ¬ b = bl ∧ ¬ b = be) w w' ∧ w'.heap[bl]? = some (.cells #[.slice none 0 0] 22 (0, 0)) ∧ w'.heap[be]? = some (.cells #[.int .i64 7] 25 (0, 0)) := by
  refine callsD_of_wpS Try.func28 rfl fun c₀ cs hu => ?_
  apply wpS_seq
  apply wpS_region
  simp only [brokenE] at hu
  simp [wpOpsS, go_sem, recoverD, hu, Try.ntmps28, Exit.thenS]
  refine wpS_of_wp ?_
  refine wp_mono (wp_of ((?_ : W Try.prog _ (fun e σ => e = .normal ∧ σ.dfs = [] ∧ ((fun b => ¬ b = bl ∧ ¬ b = be), w) ∈ σ.snaps ∧ nth σ.own 0 = some (boxO 22 bl [.slice none 0 0]) ∧ nth σ.own 1 = some (boxO 25 be [.int .i64 7])) _) (fun _ => 0) _ w (sat_caught (n := 17) ?_ rfl [(0, .pointer (some ⟨bl, 0, none⟩)), (1, .pointer (some ⟨be, 0, none⟩)), (7, .iface 65 (.agg #[]))] ?_ hl he hne))) ?_
  · simp only [sx, ty, Bool.false_eq_true, Int.reduceEq, Int.reduceLT, Nat.reduceAdd, Nat.reduceSub, Nat.reduceMul, Nat.reduceLT, Nat.reduceLeDiff, Nat.reduceEqDiff, List.reduceReplicate, reduceIte, beq_self_eq_true, bne_self_eq_false, Int.reduceBEq, Int.reduceBNe, Bool.or_false, Bool.false_or, Bool.not_false, Bool.not_true]
    refine W.block ?_
    refine W.seqK fun K1 hK1 => W.region ?_
    refine WO.q (ds := []) rfl rfl rfl (QR.heldNil rfl rfl if20) ?_
    simp only [sx, ty, Bool.false_eq_true, Int.reduceEq, Int.reduceLT, Nat.reduceAdd, Nat.reduceSub, Nat.reduceMul, Nat.reduceLT, Nat.reduceLeDiff, Nat.reduceEqDiff, List.reduceReplicate, reduceIte, beq_self_eq_true, bne_self_eq_false, Int.reduceBEq, Int.reduceBNe, Bool.or_false, Bool.false_or, Bool.not_false, Bool.not_true]
    with_reducible refine WO.nil ?_
    refine hK1 _ ?_; clear hK1
    refine W.cond rfl rfl (fun hc => ?_) (fun hc => ?_)
    · simp at hc
    refine W.seqK fun K2 hK2 => W.region ?_
    refine WO.q (ds := []) rfl rfl rfl (QR.assert rfl rfl ni65) ?_
    simp only [sx, ty, Bool.false_eq_true, Int.reduceEq, Int.reduceLT, Nat.reduceAdd, Nat.reduceSub, Nat.reduceMul, Nat.reduceLT, Nat.reduceLeDiff, Nat.reduceEqDiff, List.reduceReplicate, reduceIte, beq_self_eq_true, bne_self_eq_false, Int.reduceBEq, Int.reduceBNe, Bool.or_false, Bool.false_or, Bool.not_false, Bool.not_true]
    refine WO.go 2 (ds := []) rfl ?_
    simp only [sx, ty, Bool.false_eq_true, Int.reduceEq, Int.reduceLT, Nat.reduceAdd, Nat.reduceSub, Nat.reduceMul, Nat.reduceLT, Nat.reduceLeDiff, Nat.reduceEqDiff, List.reduceReplicate, reduceIte, beq_self_eq_true, bne_self_eq_false, Int.reduceBEq, Int.reduceBNe, Bool.or_false, Bool.false_or, Bool.not_false, Bool.not_true]
    with_reducible refine WO.nil ?_
    refine hK2 _ ?_; clear hK2
    refine W.cond rfl rfl (fun hc => ?_) (fun hc => ?_)
    rotate_left
    · simp at hc
    refine W.seqK fun K3 hK3 => W.region ?_
    refine WO.go 2 (ds := []) rfl ?_
    simp only [sx, ty, Bool.false_eq_true, Int.reduceEq, Int.reduceLT, Nat.reduceAdd, Nat.reduceSub, Nat.reduceMul, Nat.reduceLT, Nat.reduceLeDiff, Nat.reduceEqDiff, List.reduceReplicate, reduceIte, beq_self_eq_true, bne_self_eq_false, Int.reduceBEq, Int.reduceBNe, Bool.or_false, Bool.false_or, Bool.not_false, Bool.not_true]
    with_reducible refine WO.nil ?_
    refine hK3 _ ?_; clear hK3
    refine W.region ?_
    refine WO.go 2 (ds := []) rfl ?_
    simp only [sx, ty, Bool.false_eq_true, Int.reduceEq, Int.reduceLT, Nat.reduceAdd, Nat.reduceSub, Nat.reduceMul, Nat.reduceLT, Nat.reduceLeDiff, Nat.reduceEqDiff, List.reduceReplicate, reduceIte, beq_self_eq_true, bne_self_eq_false, Int.reduceBEq, Int.reduceBNe, Bool.or_false, Bool.false_or, Bool.not_false, Bool.not_true]
    refine WO.q (ds := []) rfl rfl rfl (QR.nilCheck rfl rfl) ?_
    simp only [sx, ty, Bool.false_eq_true, Int.reduceEq, Int.reduceLT, Nat.reduceAdd, Nat.reduceSub, Nat.reduceMul, Nat.reduceLT, Nat.reduceLeDiff, Nat.reduceEqDiff, List.reduceReplicate, reduceIte, beq_self_eq_true, bne_self_eq_false, Int.reduceBEq, Int.reduceBNe, Bool.or_false, Bool.false_or, Bool.not_false, Bool.not_true]
    refine WO.storeBox (k := 0) (i := 0) rfl (ds := []) rfl rfl rfl rfl rfl (by simp [Addr.add_mid]) (by simp) rfl rfl sz22 ?_
    simp only [sx, ty, Bool.false_eq_true, Int.reduceEq, Int.reduceLT, Nat.reduceAdd, Nat.reduceSub, Nat.reduceMul, Nat.reduceLT, Nat.reduceLeDiff, Nat.reduceEqDiff, List.reduceReplicate, reduceIte, beq_self_eq_true, bne_self_eq_false, Int.reduceBEq, Int.reduceBNe, Bool.or_false, Bool.false_or, Bool.not_false, Bool.not_true]
    refine WO.q (ds := []) rfl rfl rfl (QR.nilCheck rfl rfl) ?_
    simp only [sx, ty, Bool.false_eq_true, Int.reduceEq, Int.reduceLT, Nat.reduceAdd, Nat.reduceSub, Nat.reduceMul, Nat.reduceLT, Nat.reduceLeDiff, Nat.reduceEqDiff, List.reduceReplicate, reduceIte, beq_self_eq_true, bne_self_eq_false, Int.reduceBEq, Int.reduceBNe, Bool.or_false, Bool.false_or, Bool.not_false, Bool.not_true]
    refine WO.storeBox (k := 1) (i := 0) rfl (ds := []) rfl rfl rfl rfl rfl (by simp [Addr.add_mid]) (by simp) rfl rfl sz25 ?_
    simp only [sx, ty, Bool.false_eq_true, Int.reduceEq, Int.reduceLT, Nat.reduceAdd, Nat.reduceSub, Nat.reduceMul, Nat.reduceLT, Nat.reduceLeDiff, Nat.reduceEqDiff, List.reduceReplicate, reduceIte, beq_self_eq_true, bne_self_eq_false, Int.reduceBEq, Int.reduceBNe, Bool.or_false, Bool.false_or, Bool.not_false, Bool.not_true]
    with_reducible refine WO.nil ?_
    exact ⟨rfl, rfl, by simp, rfl, rfl⟩
  · simp
  · exact env_three
  · rintro e a' w' ⟨ρ, σ, hs, rfl, hd, hm, h1, h2⟩
    exact ⟨by rw [hs.defers, hd]; rfl, .panicking brokenR, rfl, .tuple #[], by simp [results, Try.results28], rfl, rfl, (hs.base.keep _ hm).1, box_heap hs.base h1, box_heap hs.base h2⟩
theorem caught_idle {w : World} {bl be : Nat} :
    CallsD Try.prog 28 #[.pointer (some ⟨bl, 0, none⟩), .pointer (some ⟨be, 0, none⟩)] .returning w fun e u' w' => e = .returned (.tuple #[]) ∧ u' = .returning ∧ Keep (fun _ => True) w w' := by
  refine callsD_of_wpS Try.func28 rfl fun c₀ cs hu => ?_
  apply wpS_seq
  apply wpS_region
  simp [wpOpsS, go_sem, recoverD, hu, Try.ntmps28, Exit.thenS]
  refine wpS_of_wp ?_
  refine wp_mono (wp_of ((?_ : W Try.prog _ (fun e σ => e = .normal ∧ σ.dfs = [] ∧ ((fun _ => True), w) ∈ σ.snaps) _) (fun _ => 0) _ w (sat_idle (n := 17) ?_ rfl [(0, .pointer (some ⟨bl, 0, none⟩)), (1, .pointer (some ⟨be, 0, none⟩)), (7, .nilIface)] ?_))) ?_
  · simp only [sx, ty, Bool.false_eq_true, Int.reduceEq, Int.reduceLT, Nat.reduceAdd, Nat.reduceSub, Nat.reduceMul, Nat.reduceLT, Nat.reduceLeDiff, Nat.reduceEqDiff, List.reduceReplicate, reduceIte, beq_self_eq_true, bne_self_eq_false, Int.reduceBEq, Int.reduceBNe, Bool.or_false, Bool.false_or, Bool.not_false, Bool.not_true]
    refine W.block ?_
    refine W.seqK fun K1 hK1 => W.region ?_
    refine WO.q (ds := []) rfl rfl rfl (QR.nilNil rfl rfl if20) ?_
    simp only [sx, ty, Bool.false_eq_true, Int.reduceEq, Int.reduceLT, Nat.reduceAdd, Nat.reduceSub, Nat.reduceMul, Nat.reduceLT, Nat.reduceLeDiff, Nat.reduceEqDiff, List.reduceReplicate, reduceIte, beq_self_eq_true, bne_self_eq_false, Int.reduceBEq, Int.reduceBNe, Bool.or_false, Bool.false_or, Bool.not_false, Bool.not_true]
    with_reducible refine WO.nil ?_
    refine hK1 _ ?_; clear hK1
    refine W.cond rfl rfl (fun hc => ?_) (fun hc => ?_)
    rotate_left
    · simp at hc
    refine W.region ?_
    refine WO.go 1 (ds := []) rfl ?_
    simp only [sx, ty, Bool.false_eq_true, Int.reduceEq, Int.reduceLT, Nat.reduceAdd, Nat.reduceSub, Nat.reduceMul, Nat.reduceLT, Nat.reduceLeDiff, Nat.reduceEqDiff, List.reduceReplicate, reduceIte, beq_self_eq_true, bne_self_eq_false, Int.reduceBEq, Int.reduceBNe, Bool.or_false, Bool.false_or, Bool.not_false, Bool.not_true]
    with_reducible refine WO.nil ?_
    exact ⟨rfl, rfl, by simp⟩
  · simp
  · exact env_three
  · rintro e a' w' ⟨ρ, σ, hs, rfl, hd, hm⟩
    exact ⟨by rw [hs.defers, hd]; rfl, .returning, by rw [← hu], .tuple #[], by simp [results, Try.results28], rfl, rfl, (hs.base.keep _ hm).1⟩
end Go.Proofs.Ytnbfdncmlbegmaa
