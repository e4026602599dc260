/-
  Keys: the signs of a bar: walks of the package.
-/
import Derived.Test.YtpkbghnjfjnoiaaDoorK5
set_option linter.unusedVariables false
set_option linter.unusedSimpArgs false
set_option maxHeartbeats 1000000
namespace Go.Proofs.YtpkbghnjfjnoiaaDoor
open Go Go.SX Go.RowKit

theorem sgRun_nil (k : Int) : sgRun k [] = ([], []) := rfl
theorem rdRun_nil (k : Int) : rdRun k [] = ([], []) := rfl
def sgOut (k : Int) (l : List Pit) (i : Nat) : List Value := ((sgRun k (l.take i)).2 ++ List.replicate (l.length - i) 0).map (.int .i64)
theorem sgOut_len (k : Int) (l : List Pit) {i : Nat} (h : i ≤ l.length) : (sgOut k l i).length = l.length := by
  simp [sgOut, sgRun_len k l i h]; omega
theorem sgOut_zero (k : Int) (l : List Pit) : (List.replicate l.length [Value.int .i64 0]).flatten = sgOut k l 0 := by
  simp [sgOut, sgRun_nil, List.flatten_replicate_singleton]
theorem rep_succ {n i : Nat} (h : i < n) {z : Int} : List.replicate (n - i) z = z :: List.replicate (n - (i + 1)) z := by
  rw [show n - i = (n - (i + 1)) + 1 by omega, List.replicate_succ]
theorem sg_same {k : Int} {l : List Pit} {i : Nat} (h : i < l.length) (hc : stGet k (sgRun k (l.take i)).1 l[i] = l[i].2.1) : sgOut k l i = sgOut k l (i + 1) ∧ (sgRun k (l.take (i + 1))).1 = (sgRun k (l.take i)).1 := by
  have e : sgRun k (l.take (i + 1)) = ((sgRun k (l.take i)).1, (sgRun k (l.take i)).2 ++ [0]) := by rw [sgRun_snoc k l h]; exact if_pos hc
  unfold sgOut
  rw [e, rep_succ h]
  simp
theorem sg_sign {k : Int} {l : List Pit} {i : Nat} (h : i < l.length) (hc : ¬ stGet k (sgRun k (l.take i)).1 l[i] = l[i].2.1) :
    (sgOut k l i).set i (.int .i64 (10 + l[i].2.1)) = sgOut k l (i + 1) ∧ (sgRun k (l.take (i + 1))).1 = pmSet (sgRun k (l.take i)).1 (pk l[i]) l[i].2.1 := by
  have e : sgRun k (l.take (i + 1)) = (pmSet (sgRun k (l.take i)).1 (pk l[i]) l[i].2.1, (sgRun k (l.take i)).2 ++ [10 + l[i].2.1]) := by rw [sgRun_snoc k l h]; exact if_neg hc
  have hl := sgRun_len k l i (by omega)
  unfold sgOut
  rw [e, rep_succ h]
  refine ⟨?_, rfl⟩
  simp only [List.map_append, List.map_cons]
  rw [List.set_append_right _ _ (by simp [hl])]
  simp [hl]
def rdOut (k : Int) (z : List (Pit × Int)) (n i : Nat) : List Value := pitsV ((rdRun k (z.take i)).2 ++ List.replicate (n - i) (0, 0, 0))
theorem rdOut_len (k : Int) (z : List (Pit × Int)) {n i : Nat} (hn : z.length = n) (h : i ≤ n) : (rdOut k z n i).length = n * 3 := by
  simp only [rdOut, pitsV_len, List.length_append, List.length_replicate, rdRun_len k z i (by omega)]
  congr 1; omega
theorem rdOut_zero (k : Int) (z : List (Pit × Int)) (n : Nat) : (List.replicate n [Value.int .i64 0, .int .i64 0, .int .i64 0]).flatten = rdOut k z n 0 := by
  simp [rdOut, rdRun_nil, pitsV, pitV]
theorem rd_set {k : Int} {z : List (Pit × Int)} {n i : Nat} (hn : z.length = n) (h : i < n) {q : Pit × Int} (hq : z[i]? = some q) : (rdOut k z n i).take (i * 3) ++ (pitV (q.1.1, stGet k (rdMap (rdRun k (z.take i)).1 q) q.1, q.1.2.2) ++ (rdOut k z n i).drop (i * 3 + 3)) = rdOut k z n (i + 1) := by
  have hl := rdRun_len k z i (by omega)
  have h' : i < z.length := by omega
  obtain ⟨_, hqi⟩ := List.getElem?_eq_some_iff.1 hq
  unfold rdOut
  rw [rdRun_snoc k z h', hqi, show n - i = (n - (i + 1)) + 1 by omega]
  have := pitsV_set (rdRun k (z.take i)).2 (0, 0, 0) (n - (i + 1)) (q.1.1, stGet k (rdMap (rdRun k (z.take i)).1 q) q.1, q.1.2.2)
  rw [hl] at this
  exact this
theorem rd_map {k : Int} {z : List (Pit × Int)} {i : Nat} {q : Pit × Int} (hq : z[i]? = some q) : (rdRun k (z.take (i + 1))).1 = rdMap (rdRun k (z.take i)).1 q := by
  obtain ⟨h', hqi⟩ := List.getElem?_eq_some_iff.1 hq
  rw [rdRun_snoc k z h', hqi]; rfl
theorem signsF_long {k : Int} {l : List Pit} (h : 1000 < l.length) : signsF k l = ([], 2) := if_pos h
theorem signsF_bad {k : Int} {l : List Pit} (h : ¬ 1000 < l.length) (h2 : (isKey k && l.all validP) = false) : signsF k l = ([], 1) := by unfold signsF; rw [if_neg h, if_neg (by simp [h2])]
theorem signsF_good {k : Int} {l : List Pit} (h : ¬ 1000 < l.length) (h2 : (isKey k && l.all validP) = true) : signsF k l = ((sgRun k l).2, 0) := by unfold signsF; rw [if_neg h, if_pos h2]
theorem readF_long {k : Int} {l : List Pit} {s : List Int} (h : 1000 < l.length) : readF k l s = ([], 2) := if_pos h
theorem readF_bad {k : Int} {l : List Pit} {s : List Int} (h : ¬ 1000 < l.length) (h2 : (isKey k && decide (s.length = l.length)) = false) : readF k l s = ([], 1) := by unfold readF; rw [if_neg h, if_neg (by simp [h2])]
theorem readF_ugly {k : Int} {l : List Pit} {s : List Int} (h : ¬ 1000 < l.length) (h2 : (isKey k && decide (s.length = l.length)) = true) (h3 : (l.zip s).all rdOk = false) : readF k l s = ([], 1) := by unfold readF; rw [if_neg h, if_pos h2, if_neg (by simp [h3])]
theorem readF_good {k : Int} {l : List Pit} {s : List Int} (h : ¬ 1000 < l.length) (h2 : (isKey k && decide (s.length = l.length)) = true) (h3 : (l.zip s).all rdOk = true) : readF k l s = ((rdRun k (l.zip s)).2, 0) := by unfold readF; rw [if_neg h, if_pos h2, if_pos h3]
/-- function 37 -/
theorem newStaff_spec (w : World) (k : Int) : Gives Tryd.prog 37 #[.int .i64 k] w fun v w' => ∃ r : Nat, v = .agg #[.int .i64 k, .map (some r)] ∧ (∀ ρ' j, (Own.map r (pmE []) 0).holds ρ' j w') ∧ ∀ ρ' j b, (Own.map r (pmE []) 0).num ρ' j = some b → w.heap.size ≤ b := by
  refine gives_of [.val (.int .i64 k)] 6 [.cell 2 62] Tryd.func37 rfl rfl rfl (by simp) rfl rfl ?_
  refine W.pure (ds := []) rfl fun K1 hK1 => ?_
  simp only [sx, ty, Bool.false_eq_true, Int.reduceEq, Int.reduceLT, Nat.reduceAdd, Nat.reduceSub, Nat.reduceMul, Nat.reduceLT, Nat.reduceLeDiff, Nat.reduceEqDiff, List.reduceReplicate, reduceIte, beq_self_eq_true, bne_self_eq_false, Int.reduceBEq, Int.reduceBNe, Bool.or_false, Bool.false_or, Bool.not_false, Bool.not_true]; with_reducible refine hK1 _ ?_; clear hK1
  refine W.seqK fun K2 hK2 => W.region ?_
  refine WO.go 1 (ds := []) rfl ?_
  simp only [sx, ty, Bool.false_eq_true, Int.reduceEq, Int.reduceLT, Nat.reduceAdd, Nat.reduceSub, Nat.reduceMul, Nat.reduceLT, Nat.reduceLeDiff, Nat.reduceEqDiff, List.reduceReplicate, reduceIte, beq_self_eq_true, bne_self_eq_false, Int.reduceBEq, Int.reduceBNe, Bool.or_false, Bool.false_or, Bool.not_false, Bool.not_true]
  refine WO.makePM (ds := []) rfl rfl rfl rfl fun r => ?_
  simp only [St.pushO]
  refine WO.go 2 (ds := []) rfl ?_
  simp only [sx, ty, Bool.false_eq_true, Int.reduceEq, Int.reduceLT, Nat.reduceAdd, Nat.reduceSub, Nat.reduceMul, Nat.reduceLT, Nat.reduceLeDiff, Nat.reduceEqDiff, List.reduceReplicate, reduceIte, beq_self_eq_true, bne_self_eq_false, Int.reduceBEq, Int.reduceBNe, Bool.or_false, Bool.false_or, Bool.not_false, Bool.not_true]
  with_reducible refine WO.nil ?_
  refine hK2 _ ?_; clear hK2
  refine W.ret ?_
  refine ⟨by simp, RunR.ex ?_⟩
  simp only [sx, ty, Bool.false_eq_true, Int.reduceEq, Int.reduceLT, Nat.reduceAdd, Nat.reduceSub, Nat.reduceMul, Nat.reduceLT, Nat.reduceLeDiff, Nat.reduceEqDiff, List.reduceReplicate, reduceIte, sxr, beq_self_eq_true, bne_self_eq_false, Int.reduceBEq, Int.reduceBNe, Bool.or_false, Bool.false_or, Bool.not_false, Bool.not_true]
  intro ρ w1 hb
  refine ⟨r, rfl, fun _ _ => own_map hb (k := 1) rfl, fun _ _ b hb' => own_new (o := .map r (pmE []) 0) hb (by simp) (k := 1) rfl hb'⟩
/-- function 38 -/
theorem at_spec {w : World} (hG : GS w) {r : Nat} {m : PM} (hm : w.heap[r]? = some (.map (pmE m) m.length)) (k : Int) (p : Pit) : Gives Tryd.prog 38 #[.agg #[.int .i64 k, .map (some r)], .agg #[.int .i64 p.1, .int .i64 p.2.1, .int .i64 p.2.2]] w fun v _ => v = .int .i64 (stGet k m p) := by
  have hlt : r < w.heap.size := (Array.getElem?_eq_some_iff.1 hm).1
  refine gives_of [.agg [.val (.int .i64 k), .val (.map (some r))], .agg [.val (.int .i64 p.1), .val (.int .i64 p.2.1), .val (.int .i64 p.2.2)]] 25 [.tmp 4] Tryd.func38 rfl rfl rfl (by simp) rfl rfl ?_
  refine W.pure (ds := []) rfl fun K1 hK1 => ?_
  simp only [sx, ty, Bool.false_eq_true, Int.reduceEq, Int.reduceLT, Nat.reduceAdd, Nat.reduceSub, Nat.reduceMul, Nat.reduceLT, Nat.reduceLeDiff, Nat.reduceEqDiff, List.reduceReplicate, reduceIte, beq_self_eq_true, bne_self_eq_false, Int.reduceBEq, Int.reduceBNe, Bool.or_false, Bool.false_or, Bool.not_false, Bool.not_true]; with_reducible refine hK1 _ ?_; clear hK1
  refine W.seqK fun K2 hK2 => ?_
  refine W.seqK fun K3 hK3 => W.region ?_
  refine WO.go 7 (ds := []) rfl ?_
  simp only [sx, ty, Bool.false_eq_true, Int.reduceEq, Int.reduceLT, Nat.reduceAdd, Nat.reduceSub, Nat.reduceMul, Nat.reduceLT, Nat.reduceLeDiff, Nat.reduceEqDiff, List.reduceReplicate, reduceIte, beq_self_eq_true, bne_self_eq_false, Int.reduceBEq, Int.reduceBNe, Bool.or_false, Bool.false_or, Bool.not_false, Bool.not_true]
  refine WO.lookupPM (r := r) (pm := m) (a := p.1) (b := p.2.2) (ds := []) rfl rfl rfl rfl (fun ρ w1 hb => ((hb.first (w0 := w) (by simp)).block _ trivial hlt).trans hm) rfl ⟨_, rfl, fun _ => rfl⟩ pm60 ?_
  refine WO.go 5 (ds := []) rfl ?_
  simp only [sx, ty, Bool.false_eq_true, Int.reduceEq, Int.reduceLT, Nat.reduceAdd, Nat.reduceSub, Nat.reduceMul, Nat.reduceLT, Nat.reduceLeDiff, Nat.reduceEqDiff, List.reduceReplicate, reduceIte, beq_self_eq_true, bne_self_eq_false, Int.reduceBEq, Int.reduceBNe, Bool.or_false, Bool.false_or, Bool.not_false, Bool.not_true]
  with_reducible refine WO.nil ?_
  refine hK3 _ ?_; clear hK3
  refine W.pure (ds := []) rfl fun K4 hK4 => ?_
  simp only [sx, ty, Bool.false_eq_true, Int.reduceEq, Int.reduceLT, Nat.reduceAdd, Nat.reduceSub, Nat.reduceMul, Nat.reduceLT, Nat.reduceLeDiff, Nat.reduceEqDiff, List.reduceReplicate, reduceIte, beq_self_eq_true, bne_self_eq_false, Int.reduceBEq, Int.reduceBNe, Bool.or_false, Bool.false_or, Bool.not_false, Bool.not_true]; with_reducible refine hK4 _ ?_; clear hK4
  refine W.cond rfl rfl (fun hc => ?_) (fun hc => ?_)
  · skip
    refine W.pure (ds := []) rfl fun K5 hK5 => ?_
    simp only [sx, ty, Bool.false_eq_true, Int.reduceEq, Int.reduceLT, Nat.reduceAdd, Nat.reduceSub, Nat.reduceMul, Nat.reduceLT, Nat.reduceLeDiff, Nat.reduceEqDiff, List.reduceReplicate, reduceIte, beq_self_eq_true, bne_self_eq_false, Int.reduceBEq, Int.reduceBNe, Bool.or_false, Bool.false_or, Bool.not_false, Bool.not_true]; with_reducible refine hK5 _ ?_; clear hK5
    refine W.ret ⟨by simp, _, rfl, fun ρ w1 hb => ?_⟩
    simp only [den, Value.int.injEq, true_and]
    unfold stGet pk
    cases h : pmGet m (p.1, p.2.2) with
    | none => rw [h] at hc; simp at hc
    | some x => rfl
  · skip
    refine W.skip (hK2 _ ?_)
    refine W.seqK fun K6 hK6 => W.region ?_
    refine WO.go 4 (ds := []) rfl ?_
    simp only [sx, ty, Bool.false_eq_true, Int.reduceEq, Int.reduceLT, Nat.reduceAdd, Nat.reduceSub, Nat.reduceMul, Nat.reduceLT, Nat.reduceLeDiff, Nat.reduceEqDiff, List.reduceReplicate, reduceIte, beq_self_eq_true, bne_self_eq_false, Int.reduceBEq, Int.reduceBNe, Bool.or_false, Bool.false_or, Bool.not_false, Bool.not_true]
    refine WO.call (.int .i64 (alterF k p.1)) (ds := []) rfl rfl rfl rfl co29 (fun ρ w1 hb => alter_spec (hG.now (hb.first (by simp))) _ _) ?_
    refine WO.go 1 (ds := []) rfl ?_
    simp only [sx, ty, Bool.false_eq_true, Int.reduceEq, Int.reduceLT, Nat.reduceAdd, Nat.reduceSub, Nat.reduceMul, Nat.reduceLT, Nat.reduceLeDiff, Nat.reduceEqDiff, List.reduceReplicate, reduceIte, beq_self_eq_true, bne_self_eq_false, Int.reduceBEq, Int.reduceBNe, Bool.or_false, Bool.false_or, Bool.not_false, Bool.not_true]
    with_reducible refine WO.nil ?_
    refine hK6 _ ?_; clear hK6
    refine W.ret ⟨by simp, _, rfl, fun ρ w1 hb => ?_⟩
    simp only [den, Value.int.injEq, true_and]
    unfold stGet pk
    cases h : pmGet m (p.1, p.2.2) with
    | none => rfl
    | some x => rw [h] at hc; simp at hc
/-- function 39 -/
theorem put_spec {w : World} {r : Nat} {m : PM} (hm : w.heap[r]? = some (.map (pmE m) m.length)) (k a : Int) (p : Pit) : GivesB Tryd.prog 39 #[.agg #[.int .i64 k, .map (some r)], .agg #[.int .i64 p.1, .int .i64 p.2.1, .int .i64 p.2.2], .int .i64 a] w (fun b => b = r) fun v w' => v = .tuple #[] ∧ w'.heap[r]? = some (.map (pmE (pmSet m (pk p) a)) (pmSet m (pk p) a).length) := by
  refine giveO_of (w := w) (.map r (pmE m) m.length) r [.agg [.val (.int .i64 k), .val (.map (some r))], .agg [.val (.int .i64 p.1), .val (.int .i64 p.2.1), .val (.int .i64 p.2.2)], .val (.int .i64 a)] 14 [] Tryd.func39 rfl rfl rfl (by simp) rfl rfl (fun _ _ => hm) (fun _ _ => rfl) ?_
  refine W.pure (ds := []) rfl fun K1 hK1 => ?_
  simp only [sx, ty, Bool.false_eq_true, Int.reduceEq, Int.reduceLT, Nat.reduceAdd, Nat.reduceSub, Nat.reduceMul, Nat.reduceLT, Nat.reduceLeDiff, Nat.reduceEqDiff, List.reduceReplicate, reduceIte, beq_self_eq_true, bne_self_eq_false, Int.reduceBEq, Int.reduceBNe, Bool.or_false, Bool.false_or, Bool.not_false, Bool.not_true]; with_reducible refine hK1 _ ?_; clear hK1
  refine W.region ?_
  refine WO.go 8 (ds := []) rfl ?_
  simp only [sx, ty, Bool.false_eq_true, Int.reduceEq, Int.reduceLT, Nat.reduceAdd, Nat.reduceSub, Nat.reduceMul, Nat.reduceLT, Nat.reduceLeDiff, Nat.reduceEqDiff, List.reduceReplicate, reduceIte, beq_self_eq_true, bne_self_eq_false, Int.reduceBEq, Int.reduceBNe, Bool.or_false, Bool.false_or, Bool.not_false, Bool.not_true]
  refine WO.updatePM (k := 0) (pm := m) (a := p.1) (b := p.2.2) rfl (ds := []) rfl rfl rfl rfl rfl ⟨_, rfl, fun _ => rfl⟩ rfl pm60 ?_
  simp only [sx, ty, Bool.false_eq_true, Int.reduceEq, Int.reduceLT, Nat.reduceAdd, Nat.reduceSub, Nat.reduceMul, Nat.reduceLT, Nat.reduceLeDiff, Nat.reduceEqDiff, List.reduceReplicate, reduceIte, beq_self_eq_true, bne_self_eq_false, Int.reduceBEq, Int.reduceBNe, Bool.or_false, Bool.false_or, Bool.not_false, Bool.not_true]
  with_reducible refine WO.nil ?_
  refine ⟨by simp, ?_⟩
  simp only [sx, ty, Bool.false_eq_true, Int.reduceEq, Int.reduceLT, Nat.reduceAdd, Nat.reduceSub, Nat.reduceMul, Nat.reduceLT, Nat.reduceLeDiff, Nat.reduceEqDiff, List.reduceReplicate, reduceIte, sxr, beq_self_eq_true, bne_self_eq_false, Int.reduceBEq, Int.reduceBNe, Bool.or_false, Bool.false_or, Bool.not_false, Bool.not_true]
  intro ρ w1 hb
  exact ⟨rfl, own_map hb (k := 0) rfl⟩
/-- function 16 -/
theorem signs_spec {S : Nat → Prop} {w : World} (hG : GS w) {v : Value} {l : List Pit} (hl : rPits.rd S w [v] l) (k : Int) : Gives Tryd.prog 16 #[.int .i64 k, v] w fun r w' =>
    ∃ p c, r = .tuple #[.slice p (signsF k l).1.length c, .int .i64 (signsF k l).2] ∧ rInts.rd (fun b => w.heap.size ≤ b) w' [.slice p (signsF k l).1.length c] (signsF k l).1 := by
  obtain ⟨p, c, rfl, hc1, hc2⟩ := Rp.slice_val hl
  have hl : (Rp.slice rPit).rd (fun _ => True) w _ l := Rp.any hl
  refine gives_of [.val (.int .i64 k), .val (.slice p l.length c)] 53 [.tmp 4, .tmp 5] Tryd.func16 rfl rfl rfl (by simp) rfl rfl ?_
  refine W.pure (ds := []) rfl fun K1 hK1 => ?_
  simp only [sx, ty, Bool.false_eq_true, Int.reduceEq, Int.reduceLT, Nat.reduceAdd, Nat.reduceSub, Nat.reduceMul, Nat.reduceLT, Nat.reduceLeDiff, Nat.reduceEqDiff, List.reduceReplicate, reduceIte, beq_self_eq_true, bne_self_eq_false, Int.reduceBEq, Int.reduceBNe, Bool.or_false, Bool.false_or, Bool.not_false, Bool.not_true]; with_reducible refine hK1 _ ?_; clear hK1
  refine W.seqK fun K2 hK2 => ?_
  refine W.block ?_
  refine W.pure (ds := []) rfl fun K3 hK3 => ?_
  simp only [sx, ty, Bool.false_eq_true, Int.reduceEq, Int.reduceLT, Nat.reduceAdd, Nat.reduceSub, Nat.reduceMul, Nat.reduceLT, Nat.reduceLeDiff, Nat.reduceEqDiff, List.reduceReplicate, reduceIte, beq_self_eq_true, bne_self_eq_false, Int.reduceBEq, Int.reduceBNe, Bool.or_false, Bool.false_or, Bool.not_false, Bool.not_true]; with_reducible refine hK3 _ ?_; clear hK3
  refine W.cond rfl rfl (fun hc => ?_) (fun hc => ?_)
  · skip
    have h0 : 1000 < l.length := by simp at hc; omega
    refine W.pure (ds := []) rfl fun K4 hK4 => ?_
    simp only [sx, ty, Bool.false_eq_true, Int.reduceEq, Int.reduceLT, Nat.reduceAdd, Nat.reduceSub, Nat.reduceMul, Nat.reduceLT, Nat.reduceLeDiff, Nat.reduceEqDiff, List.reduceReplicate, reduceIte, beq_self_eq_true, bne_self_eq_false, Int.reduceBEq, Int.reduceBNe, Bool.or_false, Bool.false_or, Bool.not_false, Bool.not_true]; with_reducible refine hK4 _ ?_; clear hK4
    refine W.ret ⟨by simp, _, rfl, fun ρ w1 hb => ?_⟩
    rw [signsF_long h0]
    exact ⟨none, 0, rfl, Rp.slice_nil (by omega)⟩
  · skip
    have h0 : ¬ 1000 < l.length := by simp at hc; omega
    refine W.join 14 (.val (.bool (!(isKey k && l.all validP)))) [0, 1] (W.region ?_) ?_
    · skip
      refine WO.go 1 (ds := [some 15, some 16, some 17, some 18, some 19, some 20, some 21, some 14]) rfl ?_
      simp only [sx, ty, Bool.false_eq_true, Int.reduceEq, Int.reduceLT, Nat.reduceAdd, Nat.reduceSub, Nat.reduceMul, Nat.reduceLT, Nat.reduceLeDiff, Nat.reduceEqDiff, List.reduceReplicate, reduceIte, beq_self_eq_true, bne_self_eq_false, Int.reduceBEq, Int.reduceBNe, Bool.or_false, Bool.false_or, Bool.not_false, Bool.not_true]
      refine WO.call (.bool (isKey k)) (ds := [some 15, some 16, some 17, some 18, some 19, some 20, some 21, some 14]) rfl rfl rfl rfl co28 (fun ρ w1 hb => isKey_spec w1 _) ?_
      refine WO.go 2 (ds := [some 15, some 16, some 17, some 18, some 19, some 20, some 21, some 14]) rfl ?_
      simp only [sx, ty, Bool.false_eq_true, Int.reduceEq, Int.reduceLT, Nat.reduceAdd, Nat.reduceSub, Nat.reduceMul, Nat.reduceLT, Nat.reduceLeDiff, Nat.reduceEqDiff, List.reduceReplicate, reduceIte, beq_self_eq_true, bne_self_eq_false, Int.reduceBEq, Int.reduceBNe, Bool.or_false, Bool.false_or, Bool.not_false, Bool.not_true]
      refine WO.cases 18 _ rfl (fun hg18 => ?_) (fun hg18 => ?_)
      · skip
        refine WO.go 4 (ds := [some 15, some 16, some 17, some 18, some 19, some 20, some 21, some 14]) rfl ?_
        simp only [sx, ty, Bool.false_eq_true, Int.reduceEq, Int.reduceLT, Nat.reduceAdd, Nat.reduceSub, Nat.reduceMul, Nat.reduceLT, Nat.reduceLeDiff, Nat.reduceEqDiff, List.reduceReplicate, reduceIte, beq_self_eq_true, bne_self_eq_false, Int.reduceBEq, Int.reduceBNe, Bool.or_false, Bool.false_or, Bool.not_false, Bool.not_true]
        with_reducible refine WO.nil ?_
        refine ⟨rfl, ?_, ⟨_, rfl⟩, by simp [Own.bnd, bndL, bnd, boxO], by simp⟩
        try rw [hg18]
        simp [getE, bnd, keepE, any_not]
        try (cases h : isKey k <;> simp_all)
      · skip
        refine WO.go 1 (ds := [some 15, some 16, some 17, some 18, some 19, some 20, some 21, some 14]) rfl ?_
        simp only [sx, ty, Bool.false_eq_true, Int.reduceEq, Int.reduceLT, Nat.reduceAdd, Nat.reduceSub, Nat.reduceMul, Nat.reduceLT, Nat.reduceLeDiff, Nat.reduceEqDiff, List.reduceReplicate, reduceIte, beq_self_eq_true, bne_self_eq_false, Int.reduceBEq, Int.reduceBNe, Bool.or_false, Bool.false_or, Bool.not_false, Bool.not_true]
        refine WO.call (.bool (l.any fun p => !validP p)) (ds := [some 15, some 16, some 17, some 18, some 19, some 20, some 21, some 14]) rfl rfl rfl rfl co34 (fun ρ w1 hb => containsPit_spec (Rp.now hl (hb.first (by simp))) _ 35 co35 bad_spec) ?_
        refine WO.go 2 (ds := [some 15, some 16, some 17, some 18, some 19, some 20, some 21, some 14]) rfl ?_
        simp only [sx, ty, Bool.false_eq_true, Int.reduceEq, Int.reduceLT, Nat.reduceAdd, Nat.reduceSub, Nat.reduceMul, Nat.reduceLT, Nat.reduceLeDiff, Nat.reduceEqDiff, List.reduceReplicate, reduceIte, beq_self_eq_true, bne_self_eq_false, Int.reduceBEq, Int.reduceBNe, Bool.or_false, Bool.false_or, Bool.not_false, Bool.not_true]
        with_reducible refine WO.nil ?_
        refine ⟨rfl, ?_, ⟨_, rfl⟩, by simp [Own.bnd, bndL, bnd, boxO], by simp⟩
        try rw [hg18]
        simp [getE, bnd, keepE, any_not]
        try (cases h : isKey k <;> simp_all)
    · simp only [sx, ty, Bool.false_eq_true, Int.reduceEq, Int.reduceLT, Nat.reduceAdd, Nat.reduceSub, Nat.reduceMul, Nat.reduceLT, Nat.reduceLeDiff, Nat.reduceEqDiff, List.reduceReplicate, reduceIte, sxk, beq_self_eq_true, bne_self_eq_false, Int.reduceBEq, Int.reduceBNe, Bool.or_false, Bool.false_or, Bool.not_false, Bool.not_true]
      refine W.cond rfl rfl (fun hc => ?_) (fun hc => ?_)
      · skip
        have h2 : (isKey k && l.all validP) = false := by simpa only [Bool.not_eq_true'] using hc
        refine W.pure (ds := []) rfl fun K6 hK6 => ?_
        simp only [sx, ty, Bool.false_eq_true, Int.reduceEq, Int.reduceLT, Nat.reduceAdd, Nat.reduceSub, Nat.reduceMul, Nat.reduceLT, Nat.reduceLeDiff, Nat.reduceEqDiff, List.reduceReplicate, reduceIte, beq_self_eq_true, bne_self_eq_false, Int.reduceBEq, Int.reduceBNe, Bool.or_false, Bool.false_or, Bool.not_false, Bool.not_true]; with_reducible refine hK6 _ ?_; clear hK6
        refine W.ret ⟨by simp, _, rfl, fun ρ w1 hb => ?_⟩
        rw [signsF_bad h0 h2]
        exact ⟨none, 0, rfl, Rp.slice_nil (by omega)⟩
      · skip
        have h2 : (isKey k && l.all validP) = true := by simpa only [Bool.not_eq_false'] using hc
        have hv : l.all validP = true := by simp only [Bool.and_eq_true] at h2; exact h2.2
        refine W.skip (hK2 _ ?_)
        refine W.seqK fun K7 hK7 => W.region ?_
        refine WO.go 1 (ds := []) rfl ?_
        simp only [sx, ty, Bool.false_eq_true, Int.reduceEq, Int.reduceLT, Nat.reduceAdd, Nat.reduceSub, Nat.reduceMul, Nat.reduceLT, Nat.reduceLeDiff, Nat.reduceEqDiff, List.reduceReplicate, reduceIte, beq_self_eq_true, bne_self_eq_false, Int.reduceBEq, Int.reduceBNe, Bool.or_false, Bool.false_or, Bool.not_false, Bool.not_true]
        refine WO.callO (fun r : Nat => .agg #[.int .i64 k, .map (some r)]) (fun r => .map r (pmE []) 0) (ds := []) rfl rfl rfl rfl co37 (fun _ _ _ h => by cases h) (fun ρ w1 hb => newStaff_spec w1 k) fun r => ?_
        refine WO.go 2 (ds := []) rfl ?_
        simp only [sx, ty, Bool.false_eq_true, Int.reduceEq, Int.reduceLT, Nat.reduceAdd, Nat.reduceSub, Nat.reduceMul, Nat.reduceLT, Nat.reduceLeDiff, Nat.reduceEqDiff, List.reduceReplicate, reduceIte, beq_self_eq_true, bne_self_eq_false, Int.reduceBEq, Int.reduceBNe, Bool.or_false, Bool.false_or, Bool.not_false, Bool.not_true]
        with_reducible refine WO.nil ?_
        refine hK7 _ ?_; clear hK7
        refine W.seqK fun K8 hK8 => W.region ?_
        refine WO.go 2 (ds := []) rfl ?_
        simp only [sx, ty, Bool.false_eq_true, Int.reduceEq, Int.reduceLT, Nat.reduceAdd, Nat.reduceSub, Nat.reduceMul, Nat.reduceLT, Nat.reduceLeDiff, Nat.reduceEqDiff, List.reduceReplicate, reduceIte, beq_self_eq_true, bne_self_eq_false, Int.reduceBEq, Int.reduceBNe, Bool.or_false, Bool.false_or, Bool.not_false, Bool.not_true]
        refine WO.make (ds := []) rfl rfl rfl rfl rfl rfl ek25 (Nat.le_refl _) (by rw [maxLen_eq]; omega) (by omega) fun b => ?_
        rw [sgOut_zero k l]
        refine WO.go 1 (ds := []) rfl ?_
        simp only [sx, ty, Bool.false_eq_true, Int.reduceEq, Int.reduceLT, Nat.reduceAdd, Nat.reduceSub, Nat.reduceMul, Nat.reduceLT, Nat.reduceLeDiff, Nat.reduceEqDiff, List.reduceReplicate, reduceIte, beq_self_eq_true, bne_self_eq_false, Int.reduceBEq, Int.reduceBNe, Bool.or_false, Bool.false_or, Bool.not_false, Bool.not_true]
        with_reducible refine WO.nil ?_
        refine hK8 _ ?_; clear hK8
        refine W.seqK fun K9 hK9 => ?_
        refine W.pure (ds := []) rfl fun K10 hK10 => ?_
        simp only [sx, ty, Bool.false_eq_true, Int.reduceEq, Int.reduceLT, Nat.reduceAdd, Nat.reduceSub, Nat.reduceMul, Nat.reduceLT, Nat.reduceLeDiff, Nat.reduceEqDiff, List.reduceReplicate, reduceIte, beq_self_eq_true, bne_self_eq_false, Int.reduceBEq, Int.reduceBNe, Bool.or_false, Bool.false_or, Bool.not_false, Bool.not_true]; with_reducible refine hK10 _ ?_; clear hK10
        refine W.block ?_
        refine W.loopO (X := Nat) [6, 7, 27, 28] (fun x => [(29, .val (.int .i64 x))]) (fun x => [.map r (pmE (sgRun k (l.take x)).1) (sgRun k (l.take x)).1.length, .cells 62 [.val (.int .i64 k), .val (.map (some r))], .slice 3 1 (.slice (some ⟨b, 0, none⟩) l.length l.length) l.length (sgOut k l x)]) (fun x => [((fun _ => True), w)]) (fun x => x ≤ l.length) (fun x => l.length - x) 0 ?_ ?_ ?_
        · exact ⟨rfl, by simp [getE, bnd, keepE], ⟨[], by simp [sgRun_nil]⟩, by simp [Own.bnd, bndL, bnd, boxO], by simp⟩
        · skip
          exact Nat.zero_le _
        · rintro i hi
          simp only [sx, ty, Bool.false_eq_true, Int.reduceEq, Int.reduceLT, Nat.reduceAdd, Nat.reduceSub, Nat.reduceMul, Nat.reduceLT, Nat.reduceLeDiff, Nat.reduceEqDiff, List.reduceReplicate, reduceIte, sxk, beq_self_eq_true, bne_self_eq_false, Int.reduceBEq, Int.reduceBNe, Bool.or_false, Bool.false_or, Bool.not_false, Bool.not_true]
          refine W.pure (ds := []) rfl fun K11 hK11 => ?_
          simp only [sx, ty, Bool.false_eq_true, Int.reduceEq, Int.reduceLT, Nat.reduceAdd, Nat.reduceSub, Nat.reduceMul, Nat.reduceLT, Nat.reduceLeDiff, Nat.reduceEqDiff, List.reduceReplicate, reduceIte, beq_self_eq_true, bne_self_eq_false, Int.reduceBEq, Int.reduceBNe, Bool.or_false, Bool.false_or, Bool.not_false, Bool.not_true]; with_reducible refine hK11 _ ?_; clear hK11
          refine W.seqK fun K12 hK12 => ?_
          refine W.cond rfl rfl (fun hc => ?_) (fun hc => ?_)
          · skip
            have hlt : i < l.length := by simpa using hc
            have hvi := validP_iff.1 (List.all_eq_true.1 hv l[i] (List.getElem_mem hlt))
            refine W.skip (hK12 _ ?_)
            refine W.seqK fun K13 hK13 => ?_
            refine W.block ?_
            refine W.seqK fun K14 hK14 => W.region ?_
            refine WO.go 1 (ds := []) rfl ?_
            simp only [sx, ty, Bool.false_eq_true, Int.reduceEq, Int.reduceLT, Nat.reduceAdd, Nat.reduceSub, Nat.reduceMul, Nat.reduceLT, Nat.reduceLeDiff, Nat.reduceEqDiff, List.reduceReplicate, reduceIte, beq_self_eq_true, bne_self_eq_false, Int.reduceBEq, Int.reduceBNe, Bool.or_false, Bool.false_or, Bool.not_false, Bool.not_true]
            refine WO.elem (y := l[i]) hl (by simp [St.put]) (ds := []) rfl rfl rfl (by simp [St.put]) (fun _ => rfl) rfl rfl rfl rfl rfl el24 agg46 sz46 (.inl rfl) (by omega) (getIdx l hlt) fun p ces hces => ?_
            obtain rfl := rPit_open hces
            clear hces
            refine WO.go 3 (ds := []) rfl ?_
            simp only [sx, ty, Bool.false_eq_true, Int.reduceEq, Int.reduceLT, Nat.reduceAdd, Nat.reduceSub, Nat.reduceMul, Nat.reduceLT, Nat.reduceLeDiff, Nat.reduceEqDiff, List.reduceReplicate, reduceIte, beq_self_eq_true, bne_self_eq_false, Int.reduceBEq, Int.reduceBNe, Bool.or_false, Bool.false_or, Bool.not_false, Bool.not_true]
            with_reducible refine WO.nil ?_
            refine hK14 _ ?_; clear hK14
            refine W.seqK fun K15 hK15 => ?_
            refine W.regionQ mixed (by kernel_rfl) ?_
            refine WQ.go 2 (ds := []) rfl ?_
            simp only [sx, ty, Bool.false_eq_true, Int.reduceEq, Int.reduceLT, Nat.reduceAdd, Nat.reduceSub, Nat.reduceMul, Nat.reduceLT, Nat.reduceLeDiff, Nat.reduceEqDiff, List.reduceReplicate, reduceIte, sxq, Bool.false_eq_true, beq_self_eq_true, bne_self_eq_false, Int.reduceBEq, Int.reduceBNe, Bool.or_false, Bool.false_or, Bool.not_false, Bool.not_true]
            refine WQ.call (.int .i64 (stGet k (sgRun k (l.take i)).1 l[i])) (ds := []) rfl rfl rfl rfl co38 (fun ρ w1 hb => at_spec (hG.now (hb.first (by simp))) (own_map hb (k := 0) rfl) k l[i]) ?_
            refine WQ.go 3 (ds := []) rfl ?_
            simp only [sx, ty, Bool.false_eq_true, Int.reduceEq, Int.reduceLT, Nat.reduceAdd, Nat.reduceSub, Nat.reduceMul, Nat.reduceLT, Nat.reduceLeDiff, Nat.reduceEqDiff, List.reduceReplicate, reduceIte, sxq, Bool.false_eq_true, beq_self_eq_true, bne_self_eq_false, Int.reduceBEq, Int.reduceBNe, Bool.or_false, Bool.false_or, Bool.not_false, Bool.not_true]
            with_reducible refine WQ.nil ?_
            refine hK15 _ ?_; clear hK15
            refine W.cond rfl rfl (fun hc => ?_) (fun hc => ?_)
            · skip
              have h4 : ¬ stGet k (sgRun k (l.take i)).1 l[i] = l[i].2.1 := by simpa using hc
              obtain ⟨hs1, hs2⟩ := sg_sign hlt h4
              refine W.seqK fun K16 hK16 => W.region ?_
              refine WO.go 5 (ds := []) rfl ?_
              simp only [sx, ty, Bool.false_eq_true, Int.reduceEq, Int.reduceLT, Nat.reduceAdd, Nat.reduceSub, Nat.reduceMul, Nat.reduceLT, Nat.reduceLeDiff, Nat.reduceEqDiff, List.reduceReplicate, reduceIte, beq_self_eq_true, bne_self_eq_false, Int.reduceBEq, Int.reduceBNe, Bool.or_false, Bool.false_or, Bool.not_false, Bool.not_true]
              refine WO.index (ds := []) rfl rfl rfl rfl rfl rfl el25 (by omega) (by omega) ?_
              simp only [sx, ty, Bool.false_eq_true, Int.reduceEq, Int.reduceLT, Nat.reduceAdd, Nat.reduceSub, Nat.reduceMul, Nat.reduceLT, Nat.reduceLeDiff, Nat.reduceEqDiff, List.reduceReplicate, reduceIte, beq_self_eq_true, bne_self_eq_false, Int.reduceBEq, Int.reduceBNe, Bool.or_false, Bool.false_or, Bool.not_false, Bool.not_true]
              refine WO.storeOwn (k := 2) (i := i) (ds := []) rfl rfl rfl rfl rfl rfl rfl hlt rfl rfl sz3 ?_
              rw [wrap_id (x := 10 + l[i].2.1) (by omega) (by omega), hs1]
              simp only [sx, ty, Bool.false_eq_true, Int.reduceEq, Int.reduceLT, Nat.reduceAdd, Nat.reduceSub, Nat.reduceMul, Nat.reduceLT, Nat.reduceLeDiff, Nat.reduceEqDiff, List.reduceReplicate, reduceIte, beq_self_eq_true, bne_self_eq_false, Int.reduceBEq, Int.reduceBNe, Bool.or_false, Bool.false_or, Bool.not_false, Bool.not_true]
              with_reducible refine WO.nil ?_
              refine hK16 _ ?_; clear hK16
              refine W.region ?_
              refine WO.go 4 (ds := []) rfl ?_
              simp only [sx, ty, Bool.false_eq_true, Int.reduceEq, Int.reduceLT, Nat.reduceAdd, Nat.reduceSub, Nat.reduceMul, Nat.reduceLT, Nat.reduceLeDiff, Nat.reduceEqDiff, List.reduceReplicate, reduceIte, beq_self_eq_true, bne_self_eq_false, Int.reduceBEq, Int.reduceBNe, Bool.or_false, Bool.false_or, Bool.not_false, Bool.not_true]
              refine WO.callMap (k := 0) (pmE (pmSet (sgRun k (l.take i)).1 (pk l[i]) l[i].2.1)) (pmSet (sgRun k (l.take i)).1 (pk l[i]) l[i].2.1).length (.tuple #[]) (ds := []) rfl rfl rfl rfl co39 rfl (fun ρ w1 hb hm => put_spec hm k l[i].2.1 l[i]) ?_
              rw [← hs2]
              simp only [sx, ty, Bool.false_eq_true, Int.reduceEq, Int.reduceLT, Nat.reduceAdd, Nat.reduceSub, Nat.reduceMul, Nat.reduceLT, Nat.reduceLeDiff, Nat.reduceEqDiff, List.reduceReplicate, reduceIte, beq_self_eq_true, bne_self_eq_false, Int.reduceBEq, Int.reduceBNe, Bool.or_false, Bool.false_or, Bool.not_false, Bool.not_true]
              with_reducible refine WO.nil ?_
              refine hK13 _ ?_
              refine W.region ?_
              refine WO.go 2 (ds := []) rfl ?_
              simp only [sx, ty, Bool.false_eq_true, Int.reduceEq, Int.reduceLT, Nat.reduceAdd, Nat.reduceSub, Nat.reduceMul, Nat.reduceLT, Nat.reduceLeDiff, Nat.reduceEqDiff, List.reduceReplicate, reduceIte, beq_self_eq_true, bne_self_eq_false, Int.reduceBEq, Int.reduceBNe, Bool.or_false, Bool.false_or, Bool.not_false, Bool.not_true]
              with_reducible refine WO.nil ?_
              refine ⟨i + 1, ?_, by first | omega | (simp; omega), rfl, by simp [getE, bnd, keepE, wrap_succ (show i + 1 ≤ 9223372036854775807 by omega)], ⟨_, rfl⟩, by simp [Own.bnd, bndL, bnd, boxO], by simp⟩
              exact hlt
            · skip
              have h4 : stGet k (sgRun k (l.take i)).1 l[i] = l[i].2.1 := by simpa using hc
              obtain ⟨hs1, hs2⟩ := sg_same hlt h4
              refine W.skip (hK13 _ ?_)
              refine W.region ?_
              refine WO.go 2 (ds := []) rfl ?_
              simp only [sx, ty, Bool.false_eq_true, Int.reduceEq, Int.reduceLT, Nat.reduceAdd, Nat.reduceSub, Nat.reduceMul, Nat.reduceLT, Nat.reduceLeDiff, Nat.reduceEqDiff, List.reduceReplicate, reduceIte, beq_self_eq_true, bne_self_eq_false, Int.reduceBEq, Int.reduceBNe, Bool.or_false, Bool.false_or, Bool.not_false, Bool.not_true]
              with_reducible refine WO.nil ?_
              refine ⟨i + 1, hlt, by omega, rfl, by simp [getE, bnd, keepE, wrap_succ (show i + 1 ≤ 9223372036854775807 by omega)], ⟨_, by rw [hs2, ← hs1]; rfl⟩, by simp [Own.bnd, bndL, bnd], by simp⟩
          · skip
            obtain rfl : i = l.length := Nat.le_antisymm hi (by simpa using hc)
            refine W.exit (hK9 _ ?_)
            refine W.pure (ds := []) rfl fun K17 hK17 => ?_
            simp only [sx, ty, Bool.false_eq_true, Int.reduceEq, Int.reduceLT, Nat.reduceAdd, Nat.reduceSub, Nat.reduceMul, Nat.reduceLT, Nat.reduceLeDiff, Nat.reduceEqDiff, List.reduceReplicate, reduceIte, beq_self_eq_true, bne_self_eq_false, Int.reduceBEq, Int.reduceBNe, Bool.or_false, Bool.false_or, Bool.not_false, Bool.not_true]; with_reducible refine hK17 _ ?_; clear hK17
            refine W.ret ⟨by simp, _, rfl, fun ρ w1 hb => ?_⟩
            rw [signsF_good h0 h2]
            have hlen : (sgRun k l).2.length = l.length := by have := sgRun_len k l l.length (Nat.le_refl _); rwa [List.take_length] at this
            have hout : sgOut k l l.length = (sgRun k l).2.map (.int .i64) := by simp [sgOut]
            simp only [den, denL, hlen]
            refine ⟨some ⟨b, 0, none⟩, l.length, rfl, own_slice (A := rInt) (k := 2) (xs := sgOut k l l.length) hb rfl hlen.symm (fun b hb' => own_new hb (by simp) (k := 2) rfl hb') ?_⟩
            rw [hout]
            exact ints_read _
/-- function 19 -/
theorem read_spec {S S2 : Nat → Prop} {w : World} (hG : GS w) {v u : Value} {l : List Pit} {s : List Int} (hl : rPits.rd S w [v] l) (hl2 : rInts.rd S2 w [u] s) (k : Int) : Gives Tryd.prog 19 #[.int .i64 k, v, u] w fun r w' =>
    ∃ p c, r = .tuple #[.slice p (readF k l s).1.length c, .int .i64 (readF k l s).2] ∧ rPits.rd (fun b => w.heap.size ≤ b) w' [.slice p (readF k l s).1.length c] (readF k l s).1 := by
  obtain ⟨p, c, rfl, hc1, hc2⟩ := Rp.slice_val hl
  obtain ⟨p2, c2, rfl, hc3, hc4⟩ := Rp.slice_val hl2
  have hl : (Rp.slice rPit).rd (fun _ => True) w _ l := Rp.any hl
  have hl2 : (Rp.slice rInt).rd (fun _ => True) w _ s := Rp.any hl2
  refine gives_of [.val (.int .i64 k), .val (.slice p l.length c), .val (.slice p2 s.length c2)] 77 [.tmp 6, .tmp 7] Tryd.func19 rfl rfl rfl (by simp) rfl rfl ?_
  refine W.pure (ds := []) rfl fun K1 hK1 => ?_
  simp only [sx, ty, Bool.false_eq_true, Int.reduceEq, Int.reduceLT, Nat.reduceAdd, Nat.reduceSub, Nat.reduceMul, Nat.reduceLT, Nat.reduceLeDiff, Nat.reduceEqDiff, List.reduceReplicate, reduceIte, beq_self_eq_true, bne_self_eq_false, Int.reduceBEq, Int.reduceBNe, Bool.or_false, Bool.false_or, Bool.not_false, Bool.not_true]; with_reducible refine hK1 _ ?_; clear hK1
  refine W.seqK fun K2 hK2 => ?_
  refine W.block ?_
  refine W.pure (ds := []) rfl fun K3 hK3 => ?_
  simp only [sx, ty, Bool.false_eq_true, Int.reduceEq, Int.reduceLT, Nat.reduceAdd, Nat.reduceSub, Nat.reduceMul, Nat.reduceLT, Nat.reduceLeDiff, Nat.reduceEqDiff, List.reduceReplicate, reduceIte, beq_self_eq_true, bne_self_eq_false, Int.reduceBEq, Int.reduceBNe, Bool.or_false, Bool.false_or, Bool.not_false, Bool.not_true]; with_reducible refine hK3 _ ?_; clear hK3
  refine W.cond rfl rfl (fun hc => ?_) (fun hc => ?_)
  · skip
    have h0 : 1000 < l.length := by simp at hc; omega
    refine W.pure (ds := []) rfl fun K4 hK4 => ?_
    simp only [sx, ty, Bool.false_eq_true, Int.reduceEq, Int.reduceLT, Nat.reduceAdd, Nat.reduceSub, Nat.reduceMul, Nat.reduceLT, Nat.reduceLeDiff, Nat.reduceEqDiff, List.reduceReplicate, reduceIte, beq_self_eq_true, bne_self_eq_false, Int.reduceBEq, Int.reduceBNe, Bool.or_false, Bool.false_or, Bool.not_false, Bool.not_true]; with_reducible refine hK4 _ ?_; clear hK4
    refine W.ret ⟨by simp, _, rfl, fun ρ w1 hb => ?_⟩
    rw [readF_long h0]
    exact ⟨none, 0, rfl, Rp.slice_nil (by omega)⟩
  · skip
    have h0 : ¬ 1000 < l.length := by simp at hc; omega
    refine W.join 17 (.val (.bool (!(isKey k && decide (s.length = l.length))))) [0, 1, 2] (W.region ?_) ?_
    · skip
      refine WO.go 1 (ds := [some 18, some 19, some 20, some 21, some 22, some 23, some 24, some 25, some 26, some 27, some 17]) rfl ?_
      simp only [sx, ty, Bool.false_eq_true, Int.reduceEq, Int.reduceLT, Nat.reduceAdd, Nat.reduceSub, Nat.reduceMul, Nat.reduceLT, Nat.reduceLeDiff, Nat.reduceEqDiff, List.reduceReplicate, reduceIte, beq_self_eq_true, bne_self_eq_false, Int.reduceBEq, Int.reduceBNe, Bool.or_false, Bool.false_or, Bool.not_false, Bool.not_true]
      refine WO.call (.bool (isKey k)) (ds := [some 18, some 19, some 20, some 21, some 22, some 23, some 24, some 25, some 26, some 27, some 17]) rfl rfl rfl rfl co28 (fun ρ w1 hb => isKey_spec w1 _) ?_
      refine WO.go 2 (ds := [some 18, some 19, some 20, some 21, some 22, some 23, some 24, some 25, some 26, some 27, some 17]) rfl ?_
      simp only [sx, ty, Bool.false_eq_true, Int.reduceEq, Int.reduceLT, Nat.reduceAdd, Nat.reduceSub, Nat.reduceMul, Nat.reduceLT, Nat.reduceLeDiff, Nat.reduceEqDiff, List.reduceReplicate, reduceIte, beq_self_eq_true, bne_self_eq_false, Int.reduceBEq, Int.reduceBNe, Bool.or_false, Bool.false_or, Bool.not_false, Bool.not_true]
      refine WO.cases 21 _ rfl (fun hg21 => ?_) (fun hg21 => ?_)
      · skip
        refine WO.go 7 (ds := [some 18, some 19, some 20, some 21, some 22, some 23, some 24, some 25, some 26, some 27, some 17]) rfl ?_
        simp only [sx, ty, Bool.false_eq_true, Int.reduceEq, Int.reduceLT, Nat.reduceAdd, Nat.reduceSub, Nat.reduceMul, Nat.reduceLT, Nat.reduceLeDiff, Nat.reduceEqDiff, List.reduceReplicate, reduceIte, beq_self_eq_true, bne_self_eq_false, Int.reduceBEq, Int.reduceBNe, Bool.or_false, Bool.false_or, Bool.not_false, Bool.not_true]
        with_reducible refine WO.nil ?_
        refine ⟨rfl, ?_, ⟨_, rfl⟩, by simp [Own.bnd, bndL, bnd, boxO], by simp⟩
        try rw [hg21]
        simp [getE, bnd, keepE]
        try (cases h : isKey k <;> simp_all)
        try (by_cases h2 : s.length = l.length <;> simp [h2] <;> omega)
      · skip
        refine WO.go 7 (ds := [some 18, some 19, some 20, some 21, some 22, some 23, some 24, some 25, some 26, some 27, some 17]) rfl ?_
        simp only [sx, ty, Bool.false_eq_true, Int.reduceEq, Int.reduceLT, Nat.reduceAdd, Nat.reduceSub, Nat.reduceMul, Nat.reduceLT, Nat.reduceLeDiff, Nat.reduceEqDiff, List.reduceReplicate, reduceIte, beq_self_eq_true, bne_self_eq_false, Int.reduceBEq, Int.reduceBNe, Bool.or_false, Bool.false_or, Bool.not_false, Bool.not_true]
        with_reducible refine WO.nil ?_
        refine ⟨rfl, ?_, ⟨_, rfl⟩, by simp [Own.bnd, bndL, bnd, boxO], by simp⟩
        try rw [hg21]
        simp [getE, bnd, keepE]
        try (cases h : isKey k <;> simp_all)
        try (by_cases h2 : s.length = l.length <;> simp [h2] <;> omega)
    · simp only [sx, ty, Bool.false_eq_true, Int.reduceEq, Int.reduceLT, Nat.reduceAdd, Nat.reduceSub, Nat.reduceMul, Nat.reduceLT, Nat.reduceLeDiff, Nat.reduceEqDiff, List.reduceReplicate, reduceIte, sxk, beq_self_eq_true, bne_self_eq_false, Int.reduceBEq, Int.reduceBNe, Bool.or_false, Bool.false_or, Bool.not_false, Bool.not_true]
      refine W.cond rfl rfl (fun hc => ?_) (fun hc => ?_)
      · skip
        have h2 : (isKey k && decide (s.length = l.length)) = false := by simpa only [Bool.not_eq_true'] using hc
        refine W.pure (ds := []) rfl fun K6 hK6 => ?_
        simp only [sx, ty, Bool.false_eq_true, Int.reduceEq, Int.reduceLT, Nat.reduceAdd, Nat.reduceSub, Nat.reduceMul, Nat.reduceLT, Nat.reduceLeDiff, Nat.reduceEqDiff, List.reduceReplicate, reduceIte, beq_self_eq_true, bne_self_eq_false, Int.reduceBEq, Int.reduceBNe, Bool.or_false, Bool.false_or, Bool.not_false, Bool.not_true]; with_reducible refine hK6 _ ?_; clear hK6
        refine W.ret ⟨by simp, _, rfl, fun ρ w1 hb => ?_⟩
        rw [readF_bad h0 h2]
        exact ⟨none, 0, rfl, Rp.slice_nil (by omega)⟩
      · skip
        have h2 : (isKey k && decide (s.length = l.length)) = true := by simpa only [Bool.not_eq_false'] using hc
        have hsl : s.length = l.length := by simp only [Bool.and_eq_true, decide_eq_true_eq] at h2; exact h2.2
        have hz : (l.zip s).length = l.length := by simp [hsl]
        refine W.skip (hK2 _ ?_)
        refine W.seqK fun K7 hK7 => W.region ?_
        refine WO.go 1 (ds := []) rfl ?_
        simp only [sx, ty, Bool.false_eq_true, Int.reduceEq, Int.reduceLT, Nat.reduceAdd, Nat.reduceSub, Nat.reduceMul, Nat.reduceLT, Nat.reduceLeDiff, Nat.reduceEqDiff, List.reduceReplicate, reduceIte, beq_self_eq_true, bne_self_eq_false, Int.reduceBEq, Int.reduceBNe, Bool.or_false, Bool.false_or, Bool.not_false, Bool.not_true]
        refine WO.callO (fun r : Nat => .agg #[.int .i64 k, .map (some r)]) (fun r => .map r (pmE []) 0) (ds := []) rfl rfl rfl rfl co37 (fun _ _ _ h => by cases h) (fun ρ w1 hb => newStaff_spec w1 k) fun r => ?_
        refine WO.go 2 (ds := []) rfl ?_
        simp only [sx, ty, Bool.false_eq_true, Int.reduceEq, Int.reduceLT, Nat.reduceAdd, Nat.reduceSub, Nat.reduceMul, Nat.reduceLT, Nat.reduceLeDiff, Nat.reduceEqDiff, List.reduceReplicate, reduceIte, beq_self_eq_true, bne_self_eq_false, Int.reduceBEq, Int.reduceBNe, Bool.or_false, Bool.false_or, Bool.not_false, Bool.not_true]
        with_reducible refine WO.nil ?_
        refine hK7 _ ?_; clear hK7
        refine W.seqK fun K8 hK8 => W.region ?_
        refine WO.go 2 (ds := []) rfl ?_
        simp only [sx, ty, Bool.false_eq_true, Int.reduceEq, Int.reduceLT, Nat.reduceAdd, Nat.reduceSub, Nat.reduceMul, Nat.reduceLT, Nat.reduceLeDiff, Nat.reduceEqDiff, List.reduceReplicate, reduceIte, beq_self_eq_true, bne_self_eq_false, Int.reduceBEq, Int.reduceBNe, Bool.or_false, Bool.false_or, Bool.not_false, Bool.not_true]
        refine WO.make (ds := []) rfl rfl rfl rfl rfl rfl ek24 (Nat.le_refl _) (by rw [maxLen_eq]; omega) (by omega) fun b => ?_
        rw [rdOut_zero k (l.zip s) l.length]
        refine WO.go 1 (ds := []) rfl ?_
        simp only [sx, ty, Bool.false_eq_true, Int.reduceEq, Int.reduceLT, Nat.reduceAdd, Nat.reduceSub, Nat.reduceMul, Nat.reduceLT, Nat.reduceLeDiff, Nat.reduceEqDiff, List.reduceReplicate, reduceIte, beq_self_eq_true, bne_self_eq_false, Int.reduceBEq, Int.reduceBNe, Bool.or_false, Bool.false_or, Bool.not_false, Bool.not_true]
        with_reducible refine WO.nil ?_
        refine hK8 _ ?_; clear hK8
        refine W.seqK fun K9 hK9 => ?_
        refine W.pure (ds := []) rfl fun K10 hK10 => ?_
        simp only [sx, ty, Bool.false_eq_true, Int.reduceEq, Int.reduceLT, Nat.reduceAdd, Nat.reduceSub, Nat.reduceMul, Nat.reduceLT, Nat.reduceLeDiff, Nat.reduceEqDiff, List.reduceReplicate, reduceIte, beq_self_eq_true, bne_self_eq_false, Int.reduceBEq, Int.reduceBNe, Bool.or_false, Bool.false_or, Bool.not_false, Bool.not_true]; with_reducible refine hK10 _ ?_; clear hK10
        refine W.block ?_
        refine W.loopO (X := Nat) [2, 8, 9, 33, 34] (fun x => [(35, .val (.int .i64 x))]) (fun x => [.map r (pmE (rdRun k ((l.zip s).take x)).1) (rdRun k ((l.zip s).take x)).1.length, .cells 62 [.val (.int .i64 k), .val (.map (some r))], .slice 46 3 (.slice (some ⟨b, 0, none⟩) l.length l.length) l.length (rdOut k (l.zip s) l.length x)]) (fun x => [((fun _ => True), w)]) (fun x => x ≤ l.length ∧ ∀ j, j < x → ∀ q, (l.zip s)[j]? = some q → rdOk q = true) (fun x => l.length - x) 0 ?_ ?_ ?_
        · exact ⟨rfl, by simp [getE, bnd, keepE], ⟨[], by simp [rdRun_nil]⟩, by simp [Own.bnd, bndL, bnd, boxO], by simp⟩
        · skip
          exact ⟨Nat.zero_le _, fun j h => by omega⟩
        · rintro i ⟨hi, hno⟩
          simp only [sx, ty, Bool.false_eq_true, Int.reduceEq, Int.reduceLT, Nat.reduceAdd, Nat.reduceSub, Nat.reduceMul, Nat.reduceLT, Nat.reduceLeDiff, Nat.reduceEqDiff, List.reduceReplicate, reduceIte, sxk, beq_self_eq_true, bne_self_eq_false, Int.reduceBEq, Int.reduceBNe, Bool.or_false, Bool.false_or, Bool.not_false, Bool.not_true]
          refine W.pure (ds := []) rfl fun K11 hK11 => ?_
          simp only [sx, ty, Bool.false_eq_true, Int.reduceEq, Int.reduceLT, Nat.reduceAdd, Nat.reduceSub, Nat.reduceMul, Nat.reduceLT, Nat.reduceLeDiff, Nat.reduceEqDiff, List.reduceReplicate, reduceIte, beq_self_eq_true, bne_self_eq_false, Int.reduceBEq, Int.reduceBNe, Bool.or_false, Bool.false_or, Bool.not_false, Bool.not_true]; with_reducible refine hK11 _ ?_; clear hK11
          refine W.seqK fun K12 hK12 => ?_
          refine W.cond rfl rfl (fun hc => ?_) (fun hc => ?_)
          · skip
            have hlt : i < l.length := by simpa using hc
            have hlts : i < s.length := by omega
            have hzi := zip_get hlt hlts
            refine W.skip (hK12 _ ?_)
            refine W.seqK fun K13 hK13 => ?_
            refine W.block ?_
            refine W.seqK fun K14 hK14 => W.region ?_
            refine WO.go 1 (ds := []) rfl ?_
            simp only [sx, ty, Bool.false_eq_true, Int.reduceEq, Int.reduceLT, Nat.reduceAdd, Nat.reduceSub, Nat.reduceMul, Nat.reduceLT, Nat.reduceLeDiff, Nat.reduceEqDiff, List.reduceReplicate, reduceIte, beq_self_eq_true, bne_self_eq_false, Int.reduceBEq, Int.reduceBNe, Bool.or_false, Bool.false_or, Bool.not_false, Bool.not_true]
            refine WO.elem (y := l[i]) hl (by simp [St.put]) (ds := []) rfl rfl rfl (by simp [St.put]) (fun _ => rfl) rfl rfl rfl rfl rfl el24 agg46 sz46 (.inl rfl) (by omega) (getIdx l hlt) fun p ces hces => ?_
            obtain rfl := rPit_open hces
            clear hces
            refine WO.go 3 (ds := []) rfl ?_
            simp only [sx, ty, Bool.false_eq_true, Int.reduceEq, Int.reduceLT, Nat.reduceAdd, Nat.reduceSub, Nat.reduceMul, Nat.reduceLT, Nat.reduceLeDiff, Nat.reduceEqDiff, List.reduceReplicate, reduceIte, beq_self_eq_true, bne_self_eq_false, Int.reduceBEq, Int.reduceBNe, Bool.or_false, Bool.false_or, Bool.not_false, Bool.not_true]
            with_reducible refine WO.nil ?_
            refine hK14 _ ?_; clear hK14
            refine W.pure (ds := []) rfl fun K15 hK15 => ?_
            simp only [sx, ty, Bool.false_eq_true, Int.reduceEq, Int.reduceLT, Nat.reduceAdd, Nat.reduceSub, Nat.reduceMul, Nat.reduceLT, Nat.reduceLeDiff, Nat.reduceEqDiff, List.reduceReplicate, reduceIte, beq_self_eq_true, bne_self_eq_false, Int.reduceBEq, Int.reduceBNe, Bool.or_false, Bool.false_or, Bool.not_false, Bool.not_true]; with_reducible refine hK15 _ ?_; clear hK15
            refine W.seqK fun K16 hK16 => W.region ?_
            refine WO.go 2 (ds := []) rfl ?_
            simp only [sx, ty, Bool.false_eq_true, Int.reduceEq, Int.reduceLT, Nat.reduceAdd, Nat.reduceSub, Nat.reduceMul, Nat.reduceLT, Nat.reduceLeDiff, Nat.reduceEqDiff, List.reduceReplicate, reduceIte, beq_self_eq_true, bne_self_eq_false, Int.reduceBEq, Int.reduceBNe, Bool.or_false, Bool.false_or, Bool.not_false, Bool.not_true]
            refine WO.elem (y := s[i]) hl2 (by simp [St.put]) (ds := []) rfl rfl rfl (by simp [St.put]) (fun _ => rfl) rfl rfl rfl rfl rfl el25 agg3 sz3 (.inr rfl) (by omega) (getIdx s hlts) fun p ces hces => ?_
            obtain rfl := rInt_open hces
            clear hces
            refine WO.go 1 (ds := []) rfl ?_
            simp only [sx, ty, Bool.false_eq_true, Int.reduceEq, Int.reduceLT, Nat.reduceAdd, Nat.reduceSub, Nat.reduceMul, Nat.reduceLT, Nat.reduceLeDiff, Nat.reduceEqDiff, List.reduceReplicate, reduceIte, beq_self_eq_true, bne_self_eq_false, Int.reduceBEq, Int.reduceBNe, Bool.or_false, Bool.false_or, Bool.not_false, Bool.not_true]
            with_reducible refine WO.nil ?_
            refine hK16 _ ?_; clear hK16
            refine W.seqK fun K17 hK17 => ?_
            refine W.join 59 (.val (.bool (!rdOk (l[i], s[i])))) [2, 8, 9, 10, 11, 12, 33, 34, 35] (W.region ?_) ?_
            · skip
              refine WO.go 1 (ds := [some 45, some 46, some 47, some 48, some 49, some 50, some 51, some 52, some 53, some 54, some 55, some 56, some 57, some 58, some 59]) rfl ?_
              simp only [sx, ty, Bool.false_eq_true, Int.reduceEq, Int.reduceLT, Nat.reduceAdd, Nat.reduceSub, Nat.reduceMul, Nat.reduceLT, Nat.reduceLeDiff, Nat.reduceEqDiff, List.reduceReplicate, reduceIte, beq_self_eq_true, bne_self_eq_false, Int.reduceBEq, Int.reduceBNe, Bool.or_false, Bool.false_or, Bool.not_false, Bool.not_true]
              refine WO.call (.bool (validP (l[i].1, 0, l[i].2.2))) (ds := [some 45, some 46, some 47, some 48, some 49, some 50, some 51, some 52, some 53, some 54, some 55, some 56, some 57, some 58, some 59]) rfl rfl rfl rfl co36 (fun ρ w1 hb => valid_spec w1 (l[i].1, 0, l[i].2.2)) ?_
              refine WO.go 2 (ds := [some 45, some 46, some 47, some 48, some 49, some 50, some 51, some 52, some 53, some 54, some 55, some 56, some 57, some 58, some 59]) rfl ?_
              simp only [sx, ty, Bool.false_eq_true, Int.reduceEq, Int.reduceLT, Nat.reduceAdd, Nat.reduceSub, Nat.reduceMul, Nat.reduceLT, Nat.reduceLeDiff, Nat.reduceEqDiff, List.reduceReplicate, reduceIte, beq_self_eq_true, bne_self_eq_false, Int.reduceBEq, Int.reduceBNe, Bool.or_false, Bool.false_or, Bool.not_false, Bool.not_true]
              refine WO.cases 48 _ rfl (fun hg48 => ?_) (fun hg48 => ?_)
              · skip
                refine WO.go 11 (ds := [some 45, some 46, some 47, some 48, some 49, some 50, some 51, some 52, some 53, some 54, some 55, some 56, some 57, some 58, some 59]) rfl ?_
                simp only [sx, ty, Bool.false_eq_true, Int.reduceEq, Int.reduceLT, Nat.reduceAdd, Nat.reduceSub, Nat.reduceMul, Nat.reduceLT, Nat.reduceLeDiff, Nat.reduceEqDiff, List.reduceReplicate, reduceIte, beq_self_eq_true, bne_self_eq_false, Int.reduceBEq, Int.reduceBNe, Bool.or_false, Bool.false_or, Bool.not_false, Bool.not_true]
                with_reducible refine WO.nil ?_
                refine ⟨rfl, ?_, ⟨_, rfl⟩, by simp [Own.bnd, bndL, bnd, boxO], by simp⟩
                try rw [hg48]
                try rw [hg51]
                try rw [hg54]
                simp [getE, bnd, keepE, rdOk, within]
                try simp_all
                try (by_cases h9 : s[i] ≤ 14 <;> simp [h9] <;> omega)
              · skip
                refine WO.go 3 (ds := [some 45, some 46, some 47, some 48, some 49, some 50, some 51, some 52, some 53, some 54, some 55, some 56, some 57, some 58, some 59]) rfl ?_
                simp only [sx, ty, Bool.false_eq_true, Int.reduceEq, Int.reduceLT, Nat.reduceAdd, Nat.reduceSub, Nat.reduceMul, Nat.reduceLT, Nat.reduceLeDiff, Nat.reduceEqDiff, List.reduceReplicate, reduceIte, beq_self_eq_true, bne_self_eq_false, Int.reduceBEq, Int.reduceBNe, Bool.or_false, Bool.false_or, Bool.not_false, Bool.not_true]
                refine WO.cases 51 _ rfl (fun hg51 => ?_) (fun hg51 => ?_)
                · skip
                  refine WO.go 3 (ds := [some 45, some 46, some 47, some 48, some 49, some 50, some 51, some 52, some 53, some 54, some 55, some 56, some 57, some 58, some 59]) rfl ?_
                  simp only [sx, ty, Bool.false_eq_true, Int.reduceEq, Int.reduceLT, Nat.reduceAdd, Nat.reduceSub, Nat.reduceMul, Nat.reduceLT, Nat.reduceLeDiff, Nat.reduceEqDiff, List.reduceReplicate, reduceIte, beq_self_eq_true, bne_self_eq_false, Int.reduceBEq, Int.reduceBNe, Bool.or_false, Bool.false_or, Bool.not_false, Bool.not_true]
                  refine WO.cases 54 _ rfl (fun hg54 => ?_) (fun hg54 => ?_)
                  · skip
                    refine WO.go 5 (ds := [some 45, some 46, some 47, some 48, some 49, some 50, some 51, some 52, some 53, some 54, some 55, some 56, some 57, some 58, some 59]) rfl ?_
                    simp only [sx, ty, Bool.false_eq_true, Int.reduceEq, Int.reduceLT, Nat.reduceAdd, Nat.reduceSub, Nat.reduceMul, Nat.reduceLT, Nat.reduceLeDiff, Nat.reduceEqDiff, List.reduceReplicate, reduceIte, beq_self_eq_true, bne_self_eq_false, Int.reduceBEq, Int.reduceBNe, Bool.or_false, Bool.false_or, Bool.not_false, Bool.not_true]
                    with_reducible refine WO.nil ?_
                    refine ⟨rfl, ?_, ⟨_, rfl⟩, by simp [Own.bnd, bndL, bnd, boxO], by simp⟩
                    try rw [hg48]
                    try rw [hg51]
                    try rw [hg54]
                    simp [getE, bnd, keepE, rdOk, within]
                    try simp_all
                    try (by_cases h9 : s[i] ≤ 14 <;> simp [h9] <;> omega)
                  · skip
                    refine WO.go 5 (ds := [some 45, some 46, some 47, some 48, some 49, some 50, some 51, some 52, some 53, some 54, some 55, some 56, some 57, some 58, some 59]) rfl ?_
                    simp only [sx, ty, Bool.false_eq_true, Int.reduceEq, Int.reduceLT, Nat.reduceAdd, Nat.reduceSub, Nat.reduceMul, Nat.reduceLT, Nat.reduceLeDiff, Nat.reduceEqDiff, List.reduceReplicate, reduceIte, beq_self_eq_true, bne_self_eq_false, Int.reduceBEq, Int.reduceBNe, Bool.or_false, Bool.false_or, Bool.not_false, Bool.not_true]
                    with_reducible refine WO.nil ?_
                    refine ⟨rfl, ?_, ⟨_, rfl⟩, by simp [Own.bnd, bndL, bnd, boxO], by simp⟩
                    try rw [hg48]
                    try rw [hg51]
                    try rw [hg54]
                    simp [getE, bnd, keepE, rdOk, within]
                    try simp_all
                    try (by_cases h9 : s[i] ≤ 14 <;> simp [h9] <;> omega)
                · skip
                  refine WO.go 8 (ds := [some 45, some 46, some 47, some 48, some 49, some 50, some 51, some 52, some 53, some 54, some 55, some 56, some 57, some 58, some 59]) rfl ?_
                  simp only [sx, ty, Bool.false_eq_true, Int.reduceEq, Int.reduceLT, Nat.reduceAdd, Nat.reduceSub, Nat.reduceMul, Nat.reduceLT, Nat.reduceLeDiff, Nat.reduceEqDiff, List.reduceReplicate, reduceIte, beq_self_eq_true, bne_self_eq_false, Int.reduceBEq, Int.reduceBNe, Bool.or_false, Bool.false_or, Bool.not_false, Bool.not_true]
                  with_reducible refine WO.nil ?_
                  refine ⟨rfl, ?_, ⟨_, rfl⟩, by simp [Own.bnd, bndL, bnd, boxO], by simp⟩
                  try rw [hg48]
                  try rw [hg51]
                  try rw [hg54]
                  simp [getE, bnd, keepE, rdOk, within]
                  try simp_all
                  try (by_cases h9 : s[i] ≤ 14 <;> simp [h9] <;> omega)
            · simp only [sx, ty, Bool.false_eq_true, Int.reduceEq, Int.reduceLT, Nat.reduceAdd, Nat.reduceSub, Nat.reduceMul, Nat.reduceLT, Nat.reduceLeDiff, Nat.reduceEqDiff, List.reduceReplicate, reduceIte, sxk, beq_self_eq_true, bne_self_eq_false, Int.reduceBEq, Int.reduceBNe, Bool.or_false, Bool.false_or, Bool.not_false, Bool.not_true]
              refine W.cond rfl rfl (fun hc => ?_) (fun hc => ?_)
              · skip
                have hok : rdOk (l[i], s[i]) = false := by simpa using hc
                refine W.pure (ds := []) rfl fun K19 hK19 => ?_
                simp only [sx, ty, Bool.false_eq_true, Int.reduceEq, Int.reduceLT, Nat.reduceAdd, Nat.reduceSub, Nat.reduceMul, Nat.reduceLT, Nat.reduceLeDiff, Nat.reduceEqDiff, List.reduceReplicate, reduceIte, beq_self_eq_true, bne_self_eq_false, Int.reduceBEq, Int.reduceBNe, Bool.or_false, Bool.false_or, Bool.not_false, Bool.not_true]; with_reducible refine hK19 _ ?_; clear hK19
                refine W.ret ⟨by simp, _, rfl, fun ρ w1 hb => ?_⟩
                rw [readF_ugly h0 h2 (all_false hzi hok)]
                exact ⟨none, 0, rfl, Rp.slice_nil (by omega)⟩
              · skip
                have hok : rdOk (l[i], s[i]) = true := by simpa using hc
                have hsb : s[i] = 0 ∨ 6 ≤ s[i] ∧ s[i] ≤ 14 := by simp only [rdOk, Bool.and_eq_true, Bool.or_eq_true, decide_eq_true_eq, within_iff] at hok; exact hok.2
                refine W.skip (hK17 _ ?_)
                refine W.seqK fun K20 hK20 => ?_
                refine W.pure (ds := []) rfl fun K21 hK21 => ?_
                simp only [sx, ty, Bool.false_eq_true, Int.reduceEq, Int.reduceLT, Nat.reduceAdd, Nat.reduceSub, Nat.reduceMul, Nat.reduceLT, Nat.reduceLeDiff, Nat.reduceEqDiff, List.reduceReplicate, reduceIte, beq_self_eq_true, bne_self_eq_false, Int.reduceBEq, Int.reduceBNe, Bool.or_false, Bool.false_or, Bool.not_false, Bool.not_true]; with_reducible refine hK21 _ ?_; clear hK21
                refine W.cond rfl rfl (fun hc => ?_) (fun hc => ?_)
                · skip
                  have hn0 : ¬ s[i] = 0 := by simpa using hc
                  have hmm : rdMap (rdRun k ((l.zip s).take i)).1 (l[i], s[i]) = pmSet (rdRun k ((l.zip s).take i)).1 (pk (l[i].1, 0, l[i].2.2)) (s[i] - 10) := if_neg hn0
                  refine W.region ?_
                  refine WO.go 4 (ds := []) rfl ?_
                  simp only [sx, ty, Bool.false_eq_true, Int.reduceEq, Int.reduceLT, Nat.reduceAdd, Nat.reduceSub, Nat.reduceMul, Nat.reduceLT, Nat.reduceLeDiff, Nat.reduceEqDiff, List.reduceReplicate, reduceIte, beq_self_eq_true, bne_self_eq_false, Int.reduceBEq, Int.reduceBNe, Bool.or_false, Bool.false_or, Bool.not_false, Bool.not_true]
                  rw [wrap_id (x := s[i] - 10) (by omega) (by omega)]
                  refine WO.callMap (k := 0) (pmE (pmSet (rdRun k ((l.zip s).take i)).1 (pk (l[i].1, 0, l[i].2.2)) (s[i] - 10))) (pmSet (rdRun k ((l.zip s).take i)).1 (pk (l[i].1, 0, l[i].2.2)) (s[i] - 10)).length (.tuple #[]) (ds := []) rfl rfl rfl rfl co39 rfl (fun ρ w1 hb hm => put_spec hm k (s[i] - 10) (l[i].1, 0, l[i].2.2)) ?_
                  simp only [sx, ty, Bool.false_eq_true, Int.reduceEq, Int.reduceLT, Nat.reduceAdd, Nat.reduceSub, Nat.reduceMul, Nat.reduceLT, Nat.reduceLeDiff, Nat.reduceEqDiff, List.reduceReplicate, reduceIte, beq_self_eq_true, bne_self_eq_false, Int.reduceBEq, Int.reduceBNe, Bool.or_false, Bool.false_or, Bool.not_false, Bool.not_true]
                  with_reducible refine WO.nil ?_
                  refine hK20 _ ?_
                  refine W.seqK fun K22 hK22 => W.region ?_
                  refine WO.go 2 (ds := []) rfl ?_
                  simp only [sx, ty, Bool.false_eq_true, Int.reduceEq, Int.reduceLT, Nat.reduceAdd, Nat.reduceSub, Nat.reduceMul, Nat.reduceLT, Nat.reduceLeDiff, Nat.reduceEqDiff, List.reduceReplicate, reduceIte, beq_self_eq_true, bne_self_eq_false, Int.reduceBEq, Int.reduceBNe, Bool.or_false, Bool.false_or, Bool.not_false, Bool.not_true]
                  refine WO.call (.int .i64 (stGet k (pmSet (rdRun k ((l.zip s).take i)).1 (pk (l[i].1, 0, l[i].2.2)) (s[i] - 10)) (l[i].1, 0, l[i].2.2))) (ds := []) rfl rfl rfl rfl co38 (fun ρ w1 hb => at_spec (hG.now (hb.first (by simp))) (own_map hb (k := 0) rfl) k (l[i].1, 0, l[i].2.2)) ?_
                  refine WO.go 2 (ds := []) rfl ?_
                  simp only [sx, ty, Bool.false_eq_true, Int.reduceEq, Int.reduceLT, Nat.reduceAdd, Nat.reduceSub, Nat.reduceMul, Nat.reduceLT, Nat.reduceLeDiff, Nat.reduceEqDiff, List.reduceReplicate, reduceIte, beq_self_eq_true, bne_self_eq_false, Int.reduceBEq, Int.reduceBNe, Bool.or_false, Bool.false_or, Bool.not_false, Bool.not_true]
                  with_reducible refine WO.nil ?_
                  refine hK22 _ ?_; clear hK22
                  refine W.region ?_
                  refine WO.go 3 (ds := []) rfl ?_
                  simp only [sx, ty, Bool.false_eq_true, Int.reduceEq, Int.reduceLT, Nat.reduceAdd, Nat.reduceSub, Nat.reduceMul, Nat.reduceLT, Nat.reduceLeDiff, Nat.reduceEqDiff, List.reduceReplicate, reduceIte, beq_self_eq_true, bne_self_eq_false, Int.reduceBEq, Int.reduceBNe, Bool.or_false, Bool.false_or, Bool.not_false, Bool.not_true]
                  refine WO.index (ds := []) rfl rfl rfl rfl rfl rfl el24 (by omega) (by omega) ?_
                  simp only [sx, ty, Bool.false_eq_true, Int.reduceEq, Int.reduceLT, Nat.reduceAdd, Nat.reduceSub, Nat.reduceMul, Nat.reduceLT, Nat.reduceLeDiff, Nat.reduceEqDiff, List.reduceReplicate, reduceIte, beq_self_eq_true, bne_self_eq_false, Int.reduceBEq, Int.reduceBNe, Bool.or_false, Bool.false_or, Bool.not_false, Bool.not_true]
                  refine WO.storeRow (k := 2) (sz := 3) (u := .agg (pitV (l[i].1, stGet k (pmSet (rdRun k ((l.zip s).take i)).1 (pk (l[i].1, 0, l[i].2.2)) (s[i] - 10)) (l[i].1, 0, l[i].2.2), l[i].2.2)).toArray) (i * 3) (pitV (l[i].1, stGet k (pmSet (rdRun k ((l.zip s).take i)).1 (pk (l[i].1, 0, l[i].2.2)) (s[i] - 10)) (l[i].1, 0, l[i].2.2), l[i].2.2)) rfl (ds := []) rfl rfl rfl rfl rfl (by simp [Addr.add_mid]) (by rw [rdOut_len k _ hz (by omega)]; simp only [pitV, List.length_cons, List.length_nil]; omega) (by simp [pitV]) ⟨_, rfl, fun ρ => rfl⟩ rfl (by simp [pitV, Value.oneCell']) sz46 ?_
                  simp only [pitV, List.length_cons, List.length_nil, Nat.reduceAdd]
                  simp only [sx, ty, Bool.false_eq_true, Int.reduceEq, Int.reduceLT, Nat.reduceAdd, Nat.reduceSub, Nat.reduceMul, Nat.reduceLT, Nat.reduceLeDiff, Nat.reduceEqDiff, List.reduceReplicate, reduceIte, beq_self_eq_true, bne_self_eq_false, Int.reduceBEq, Int.reduceBNe, Bool.or_false, Bool.false_or, Bool.not_false, Bool.not_true]
                  with_reducible refine WO.nil ?_
                  refine hK13 _ ?_
                  refine W.region ?_
                  refine WO.go 2 (ds := []) rfl ?_
                  simp only [sx, ty, Bool.false_eq_true, Int.reduceEq, Int.reduceLT, Nat.reduceAdd, Nat.reduceSub, Nat.reduceMul, Nat.reduceLT, Nat.reduceLeDiff, Nat.reduceEqDiff, List.reduceReplicate, reduceIte, beq_self_eq_true, bne_self_eq_false, Int.reduceBEq, Int.reduceBNe, Bool.or_false, Bool.false_or, Bool.not_false, Bool.not_true]
                  with_reducible refine WO.nil ?_
                  refine ⟨i + 1, ⟨hlt, fun j hj x hx => ?_⟩, by omega, rfl, by simp [getE, bnd, keepE, wrap_succ (show i + 1 ≤ 9223372036854775807 by omega)], ⟨_, by rw [← rd_set (k := k) hz hlt hzi, rd_map (k := k) hzi, hmm]; rfl⟩, by simp [Own.bnd, bndL, bnd], by simp⟩
                  rcases Nat.lt_succ_iff_lt_or_eq.1 hj with h | rfl
                  · exact hno j h x hx
                  · rw [hzi] at hx; obtain rfl := Option.some.inj hx; exact hok
                · skip
                  have hn0 : s[i] = 0 := by simpa using hc
                  have hmm : rdMap (rdRun k ((l.zip s).take i)).1 (l[i], s[i]) = (rdRun k ((l.zip s).take i)).1 := if_pos hn0
                  refine W.skip (hK20 _ ?_)
                  refine W.seqK fun K23 hK23 => W.region ?_
                  refine WO.go 2 (ds := []) rfl ?_
                  simp only [sx, ty, Bool.false_eq_true, Int.reduceEq, Int.reduceLT, Nat.reduceAdd, Nat.reduceSub, Nat.reduceMul, Nat.reduceLT, Nat.reduceLeDiff, Nat.reduceEqDiff, List.reduceReplicate, reduceIte, beq_self_eq_true, bne_self_eq_false, Int.reduceBEq, Int.reduceBNe, Bool.or_false, Bool.false_or, Bool.not_false, Bool.not_true]
                  refine WO.call (.int .i64 (stGet k (rdRun k ((l.zip s).take i)).1 (l[i].1, 0, l[i].2.2))) (ds := []) rfl rfl rfl rfl co38 (fun ρ w1 hb => at_spec (hG.now (hb.first (by simp))) (own_map hb (k := 0) rfl) k (l[i].1, 0, l[i].2.2)) ?_
                  refine WO.go 2 (ds := []) rfl ?_
                  simp only [sx, ty, Bool.false_eq_true, Int.reduceEq, Int.reduceLT, Nat.reduceAdd, Nat.reduceSub, Nat.reduceMul, Nat.reduceLT, Nat.reduceLeDiff, Nat.reduceEqDiff, List.reduceReplicate, reduceIte, beq_self_eq_true, bne_self_eq_false, Int.reduceBEq, Int.reduceBNe, Bool.or_false, Bool.false_or, Bool.not_false, Bool.not_true]
                  with_reducible refine WO.nil ?_
                  refine hK23 _ ?_; clear hK23
                  refine W.region ?_
                  refine WO.go 3 (ds := []) rfl ?_
                  simp only [sx, ty, Bool.false_eq_true, Int.reduceEq, Int.reduceLT, Nat.reduceAdd, Nat.reduceSub, Nat.reduceMul, Nat.reduceLT, Nat.reduceLeDiff, Nat.reduceEqDiff, List.reduceReplicate, reduceIte, beq_self_eq_true, bne_self_eq_false, Int.reduceBEq, Int.reduceBNe, Bool.or_false, Bool.false_or, Bool.not_false, Bool.not_true]
                  refine WO.index (ds := []) rfl rfl rfl rfl rfl rfl el24 (by omega) (by omega) ?_
                  simp only [sx, ty, Bool.false_eq_true, Int.reduceEq, Int.reduceLT, Nat.reduceAdd, Nat.reduceSub, Nat.reduceMul, Nat.reduceLT, Nat.reduceLeDiff, Nat.reduceEqDiff, List.reduceReplicate, reduceIte, beq_self_eq_true, bne_self_eq_false, Int.reduceBEq, Int.reduceBNe, Bool.or_false, Bool.false_or, Bool.not_false, Bool.not_true]
                  refine WO.storeRow (k := 2) (sz := 3) (u := .agg (pitV (l[i].1, stGet k (rdRun k ((l.zip s).take i)).1 (l[i].1, 0, l[i].2.2), l[i].2.2)).toArray) (i * 3) (pitV (l[i].1, stGet k (rdRun k ((l.zip s).take i)).1 (l[i].1, 0, l[i].2.2), l[i].2.2)) rfl (ds := []) rfl rfl rfl rfl rfl (by simp [Addr.add_mid]) (by rw [rdOut_len k _ hz (by omega)]; simp only [pitV, List.length_cons, List.length_nil]; omega) (by simp [pitV]) ⟨_, rfl, fun ρ => rfl⟩ rfl (by simp [pitV, Value.oneCell']) sz46 ?_
                  simp only [pitV, List.length_cons, List.length_nil, Nat.reduceAdd]
                  simp only [sx, ty, Bool.false_eq_true, Int.reduceEq, Int.reduceLT, Nat.reduceAdd, Nat.reduceSub, Nat.reduceMul, Nat.reduceLT, Nat.reduceLeDiff, Nat.reduceEqDiff, List.reduceReplicate, reduceIte, beq_self_eq_true, bne_self_eq_false, Int.reduceBEq, Int.reduceBNe, Bool.or_false, Bool.false_or, Bool.not_false, Bool.not_true]
                  with_reducible refine WO.nil ?_
                  refine hK13 _ ?_
                  refine W.region ?_
                  refine WO.go 2 (ds := []) rfl ?_
                  simp only [sx, ty, Bool.false_eq_true, Int.reduceEq, Int.reduceLT, Nat.reduceAdd, Nat.reduceSub, Nat.reduceMul, Nat.reduceLT, Nat.reduceLeDiff, Nat.reduceEqDiff, List.reduceReplicate, reduceIte, beq_self_eq_true, bne_self_eq_false, Int.reduceBEq, Int.reduceBNe, Bool.or_false, Bool.false_or, Bool.not_false, Bool.not_true]
                  with_reducible refine WO.nil ?_
                  refine ⟨i + 1, ⟨hlt, fun j hj x hx => ?_⟩, by omega, rfl, by simp [getE, bnd, keepE, wrap_succ (show i + 1 ≤ 9223372036854775807 by omega)], ⟨_, by rw [← rd_set (k := k) hz hlt hzi, rd_map (k := k) hzi, hmm]; rfl⟩, by simp [Own.bnd, bndL, bnd], by simp⟩
                  rcases Nat.lt_succ_iff_lt_or_eq.1 hj with h | rfl
                  · exact hno j h x hx
                  · rw [hzi] at hx; obtain rfl := Option.some.inj hx; exact hok
          · skip
            have hge : l.length ≤ i := by simpa using hc
            obtain rfl : i = l.length := by omega
            refine W.exit (hK9 _ ?_)
            refine W.pure (ds := []) rfl fun K24 hK24 => ?_
            simp only [sx, ty, Bool.false_eq_true, Int.reduceEq, Int.reduceLT, Nat.reduceAdd, Nat.reduceSub, Nat.reduceMul, Nat.reduceLT, Nat.reduceLeDiff, Nat.reduceEqDiff, List.reduceReplicate, reduceIte, beq_self_eq_true, bne_self_eq_false, Int.reduceBEq, Int.reduceBNe, Bool.or_false, Bool.false_or, Bool.not_false, Bool.not_true]; with_reducible refine hK24 _ ?_; clear hK24
            refine W.ret ⟨by simp, _, rfl, fun ρ w1 hb => ?_⟩
            have hall : (l.zip s).all rdOk = true := all_idx (n := l.length) (by omega) hno
            rw [readF_good h0 h2 hall]
            have hlen : (rdRun k (l.zip s)).2.length = l.length := by have := rdRun_len k (l.zip s) (l.zip s).length (Nat.le_refl _); rw [List.take_length] at this; omega
            have hout : rdOut k (l.zip s) l.length l.length = pitsV (rdRun k (l.zip s)).2 := by simp [rdOut, List.take_of_length_le (Nat.le_of_eq hz)]
            simp only [den, denL, hlen]
            refine ⟨some ⟨b, 0, none⟩, l.length, rfl, own_slice (A := rPit) (k := 2) (xs := rdOut k (l.zip s) l.length l.length) hb rfl hlen.symm (fun b hb' => own_new hb (by simp) (k := 2) rfl hb') ?_⟩
            rw [hout]
            exact pits_read _
end Go.Proofs.YtpkbghnjfjnoiaaDoor
