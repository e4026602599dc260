/-
  Layout: small functions: walks.
-/
import Derived.Test.YtpggkomalbbofaaPlain
set_option linter.unusedVariables false
set_option linter.unusedSimpArgs false
set_option maxHeartbeats 1000000
namespace Go.Proofs.Ytpggkomalbbofaa
open Go Go.SX Go.RowKit
/-- function 25 -/
theorem in_spec (w : World) (n lo hi : Int) : Gives Try.prog 25 #[.int .i64 n, .int .i64 lo, .int .i64 hi] w fun r _ => r = .bool (within lo hi n) := by
  refine gives_of [.val (.int .i64 n), .val (.int .i64 lo), .val (.int .i64 hi)] 15 [.tmp 6] Try.func25 rfl rfl rfl (by simp) rfl rfl ?_
  refine W.pure (ds := []) rfl fun K1 hK1 => ?_
  simp only [sx, ty, Bool.false_eq_true, Int.reduceEq, Int.reduceLT, Nat.reduceAdd, Nat.reduceSub, Nat.reduceMul, Nat.reduceLT, Nat.reduceLeDiff, Nat.reduceEqDiff, List.reduceReplicate, reduceIte, beq_self_eq_true, bne_self_eq_false, Int.reduceBEq, Int.reduceBNe, Bool.or_false, Bool.false_or, Bool.not_false, Bool.not_true]; with_reducible refine hK1 _ ?_; clear hK1
  refine W.join 6 (.val (.bool (decide (lo ≤ n) && decide (n ≤ hi)))) [] (W.region ?_) ?_
  · skip
    refine WO.go 4 (ds := [some 7, some 8, some 9, some 10, some 11, some 12, some 13, some 14, some 6]) rfl ?_
    simp only [sx, ty, Bool.false_eq_true, Int.reduceEq, Int.reduceLT, Nat.reduceAdd, Nat.reduceSub, Nat.reduceMul, Nat.reduceLT, Nat.reduceLeDiff, Nat.reduceEqDiff, List.reduceReplicate, reduceIte, beq_self_eq_true, bne_self_eq_false, Int.reduceBEq, Int.reduceBNe, Bool.or_false, Bool.false_or, Bool.not_false, Bool.not_true]
    refine WO.cases 10 _ rfl (fun hg10 => ?_) (fun hg10 => ?_)
    · skip
      refine WO.go 5 (ds := [some 7, some 8, some 9, some 10, some 11, some 12, some 13, some 14, some 6]) rfl ?_
      simp only [sx, ty, Bool.false_eq_true, Int.reduceEq, Int.reduceLT, Nat.reduceAdd, Nat.reduceSub, Nat.reduceMul, Nat.reduceLT, Nat.reduceLeDiff, Nat.reduceEqDiff, List.reduceReplicate, reduceIte, beq_self_eq_true, bne_self_eq_false, Int.reduceBEq, Int.reduceBNe, Bool.or_false, Bool.false_or, Bool.not_false, Bool.not_true]
      with_reducible refine WO.nil ?_
      refine ⟨rfl, ?_, ⟨_, rfl⟩, by simp [Own.bnd, bndL, bnd, boxO], by simp⟩
      try rw [hg10]
      simp [getE, bnd, keepE]
    · skip
      refine WO.go 5 (ds := [some 7, some 8, some 9, some 10, some 11, some 12, some 13, some 14, some 6]) rfl ?_
      simp only [sx, ty, Bool.false_eq_true, Int.reduceEq, Int.reduceLT, Nat.reduceAdd, Nat.reduceSub, Nat.reduceMul, Nat.reduceLT, Nat.reduceLeDiff, Nat.reduceEqDiff, List.reduceReplicate, reduceIte, beq_self_eq_true, bne_self_eq_false, Int.reduceBEq, Int.reduceBNe, Bool.or_false, Bool.false_or, Bool.not_false, Bool.not_true]
      with_reducible refine WO.nil ?_
      refine ⟨rfl, ?_, ⟨_, rfl⟩, by simp [Own.bnd, bndL, bnd, boxO], by simp⟩
      try rw [hg10]
      simp [getE, bnd, keepE]
  · simp only [sx, ty, Bool.false_eq_true, Int.reduceEq, Int.reduceLT, Nat.reduceAdd, Nat.reduceSub, Nat.reduceMul, Nat.reduceLT, Nat.reduceLeDiff, Nat.reduceEqDiff, List.reduceReplicate, reduceIte, sxk, beq_self_eq_true, bne_self_eq_false, Int.reduceBEq, Int.reduceBNe, Bool.or_false, Bool.false_or, Bool.not_false, Bool.not_true]
    refine W.ret ⟨by simp, _, rfl, fun ρ w1 hb => ?_⟩
    rfl

theorem wrong_eq (n : Int) : (decide (n < 1) || decide (100000 < n)) = !within 1 100000 n := by
  rw [Bool.eq_iff_iff]; simp [within]
/-- function 19 -/
theorem wrong_spec (w : World) (n : Int) : Gives Try.prog 19 #[.int .i64 n] w fun r _ => r = .bool (!within 1 100000 n) := by
  refine gives_of [.val (.int .i64 n)] 9 [.tmp 2] Try.func19 rfl rfl rfl (by simp) rfl rfl ?_
  refine W.pure (ds := []) rfl fun K1 hK1 => ?_
  simp only [sx, ty, Bool.false_eq_true, Int.reduceEq, Int.reduceLT, Nat.reduceAdd, Nat.reduceSub, Nat.reduceMul, Nat.reduceLT, Nat.reduceLeDiff, Nat.reduceEqDiff, List.reduceReplicate, reduceIte, beq_self_eq_true, bne_self_eq_false, Int.reduceBEq, Int.reduceBNe, Bool.or_false, Bool.false_or, Bool.not_false, Bool.not_true]; with_reducible refine hK1 _ ?_; clear hK1
  refine W.join 2 (.val (.bool (decide (n < 1) || decide (100000 < n)))) [] (W.region ?_) ?_
  · skip
    refine WO.go 3 (ds := [some 3, some 4, some 5, some 6, some 7, some 8, some 2]) rfl ?_
    simp only [sx, ty, Bool.false_eq_true, Int.reduceEq, Int.reduceLT, Nat.reduceAdd, Nat.reduceSub, Nat.reduceMul, Nat.reduceLT, Nat.reduceLeDiff, Nat.reduceEqDiff, List.reduceReplicate, reduceIte, beq_self_eq_true, bne_self_eq_false, Int.reduceBEq, Int.reduceBNe, Bool.or_false, Bool.false_or, Bool.not_false, Bool.not_true]
    refine WO.cases 5 _ rfl (fun hg5 => ?_) (fun hg5 => ?_)
    · skip
      refine WO.go 4 (ds := [some 3, some 4, some 5, some 6, some 7, some 8, some 2]) rfl ?_
      simp only [sx, ty, Bool.false_eq_true, Int.reduceEq, Int.reduceLT, Nat.reduceAdd, Nat.reduceSub, Nat.reduceMul, Nat.reduceLT, Nat.reduceLeDiff, Nat.reduceEqDiff, List.reduceReplicate, reduceIte, beq_self_eq_true, bne_self_eq_false, Int.reduceBEq, Int.reduceBNe, Bool.or_false, Bool.false_or, Bool.not_false, Bool.not_true]
      with_reducible refine WO.nil ?_
      refine ⟨rfl, ?_, ⟨_, rfl⟩, by simp [Own.bnd, bndL, bnd, boxO], by simp⟩
      try rw [hg5]
      simp [getE, bnd, keepE]
    · skip
      refine WO.go 4 (ds := [some 3, some 4, some 5, some 6, some 7, some 8, some 2]) rfl ?_
      simp only [sx, ty, Bool.false_eq_true, Int.reduceEq, Int.reduceLT, Nat.reduceAdd, Nat.reduceSub, Nat.reduceMul, Nat.reduceLT, Nat.reduceLeDiff, Nat.reduceEqDiff, List.reduceReplicate, reduceIte, beq_self_eq_true, bne_self_eq_false, Int.reduceBEq, Int.reduceBNe, Bool.or_false, Bool.false_or, Bool.not_false, Bool.not_true]
      with_reducible refine WO.nil ?_
      refine ⟨rfl, ?_, ⟨_, rfl⟩, by simp [Own.bnd, bndL, bnd, boxO], by simp⟩
      try rw [hg5]
      simp [getE, bnd, keepE]
  · simp only [sx, ty, Bool.false_eq_true, Int.reduceEq, Int.reduceLT, Nat.reduceAdd, Nat.reduceSub, Nat.reduceMul, Nat.reduceLT, Nat.reduceLeDiff, Nat.reduceEqDiff, List.reduceReplicate, reduceIte, sxk, beq_self_eq_true, bne_self_eq_false, Int.reduceBEq, Int.reduceBNe, Bool.or_false, Bool.false_or, Bool.not_false, Bool.not_true]
    refine W.ret ⟨by simp, _, rfl, fun ρ w1 hb => ?_⟩
    simp only [den, wrong_eq]
/-- function 24 -/
theorem widths_spec {S : Nat → Prop} {w : World} {v : Value} {l : List Int} (hl : rInts.rd S w [v] l) : Gives Try.prog 24 #[v] w fun r _ => r = .bool (widthsF l) := by
  obtain ⟨p, c, rfl, hc1, hc2⟩ := Rp.slice_val hl
  have hl : (Rp.slice rInt).rd (fun _ => True) w _ l := Rp.any hl
  refine gives_of [.val (.slice p l.length c)] 25 [.tmp 2] Try.func24 rfl rfl rfl (by simp) rfl rfl ?_
  refine W.pure (ds := []) rfl fun K1 hK1 => ?_
  simp only [sx, ty, Bool.false_eq_true, Int.reduceEq, Int.reduceLT, Nat.reduceAdd, Nat.reduceSub, Nat.reduceMul, Nat.reduceLT, Nat.reduceLeDiff, Nat.reduceEqDiff, List.reduceReplicate, reduceIte, beq_self_eq_true, bne_self_eq_false, Int.reduceBEq, Int.reduceBNe, Bool.or_false, Bool.false_or, Bool.not_false, Bool.not_true]; with_reducible refine hK1 _ ?_; clear hK1
  refine W.seqK fun K2 hK2 => ?_
  refine W.pure (ds := []) rfl fun K3 hK3 => ?_
  simp only [sx, ty, Bool.false_eq_true, Int.reduceEq, Int.reduceLT, Nat.reduceAdd, Nat.reduceSub, Nat.reduceMul, Nat.reduceLT, Nat.reduceLeDiff, Nat.reduceEqDiff, List.reduceReplicate, reduceIte, beq_self_eq_true, bne_self_eq_false, Int.reduceBEq, Int.reduceBNe, Bool.or_false, Bool.false_or, Bool.not_false, Bool.not_true]; with_reducible refine hK3 _ ?_; clear hK3
  refine W.block ?_
  refine W.loopK (X := Nat) [0] (fun x => [(3, .val (.int .i64 x))]) (fun x => x ≤ l.length ∧ ∀ j, j < x → ∀ q, l[j]? = some q → within 1 100000 q = true) (fun x => l.length - x) 0 ?_ ?_ ?_
  · exact ⟨rfl, by simp [getE, bnd, keepE], ⟨[], by simp⟩, by simp [Own.bnd, bndL, bnd, boxO], by simp⟩
  · skip
    exact ⟨Nat.zero_le _, fun j h => by omega⟩
  · rintro i ⟨hi, hno⟩
    simp only [sx, ty, Bool.false_eq_true, Int.reduceEq, Int.reduceLT, Nat.reduceAdd, Nat.reduceSub, Nat.reduceMul, Nat.reduceLT, Nat.reduceLeDiff, Nat.reduceEqDiff, List.reduceReplicate, reduceIte, sxk, beq_self_eq_true, bne_self_eq_false, Int.reduceBEq, Int.reduceBNe, Bool.or_false, Bool.false_or, Bool.not_false, Bool.not_true]
    refine W.seqK fun K4 hK4 => ?_
    refine W.pure (ds := []) rfl fun K5 hK5 => ?_
    simp only [sx, ty, Bool.false_eq_true, Int.reduceEq, Int.reduceLT, Nat.reduceAdd, Nat.reduceSub, Nat.reduceMul, Nat.reduceLT, Nat.reduceLeDiff, Nat.reduceEqDiff, List.reduceReplicate, reduceIte, beq_self_eq_true, bne_self_eq_false, Int.reduceBEq, Int.reduceBNe, Bool.or_false, Bool.false_or, Bool.not_false, Bool.not_true]; with_reducible refine hK5 _ ?_; clear hK5
    refine W.cond rfl rfl (fun hc => ?_) (fun hc => ?_)
    · skip
      have hlt : i < l.length := by simpa using hc
      refine W.skip (hK4 _ ?_)
      refine W.seqK fun K6 hK6 => ?_
      refine W.block ?_
      refine W.join 21 (.val (.bool (decide (l[i] < 1) || decide (100000 < l[i])))) [0, 3] (W.region ?_) ?_
      · skip
        refine WO.go 2 (ds := [some 10, some 11, some 12, some 13, some 14, some 15, some 16, some 17, some 18, some 19, some 20, some 21]) rfl ?_
        simp only [sx, ty, Bool.false_eq_true, Int.reduceEq, Int.reduceLT, Nat.reduceAdd, Nat.reduceSub, Nat.reduceMul, Nat.reduceLT, Nat.reduceLeDiff, Nat.reduceEqDiff, List.reduceReplicate, reduceIte, beq_self_eq_true, bne_self_eq_false, Int.reduceBEq, Int.reduceBNe, Bool.or_false, Bool.false_or, Bool.not_false, Bool.not_true]
        refine WO.elem (y := l[i]) hl (by simp [St.put]) (ds := [some 10, some 11, some 12, some 13, some 14, some 15, some 16, some 17, some 18, some 19, some 20, some 21]) rfl rfl rfl (by simp [St.put]) (fun _ => rfl) rfl rfl rfl rfl rfl el22 agg3 sz3 (.inr rfl) (by omega) (getIdx l hlt) fun p ces hces => ?_
        obtain rfl := rInt_open hces
        clear hces
        refine WO.go 2 (ds := [some 10, some 11, some 12, some 13, some 14, some 15, some 16, some 17, some 18, some 19, some 20, some 21]) rfl ?_
        simp only [sx, ty, Bool.false_eq_true, Int.reduceEq, Int.reduceLT, Nat.reduceAdd, Nat.reduceSub, Nat.reduceMul, Nat.reduceLT, Nat.reduceLeDiff, Nat.reduceEqDiff, List.reduceReplicate, reduceIte, beq_self_eq_true, bne_self_eq_false, Int.reduceBEq, Int.reduceBNe, Bool.or_false, Bool.false_or, Bool.not_false, Bool.not_true]
        refine WO.cases 15 _ rfl (fun hg15 => ?_) (fun hg15 => ?_)
        · skip
          refine WO.go 6 (ds := [some 10, some 11, some 12, some 13, some 14, some 15, some 16, some 17, some 18, some 19, some 20, some 21]) rfl ?_
          simp only [sx, ty, Bool.false_eq_true, Int.reduceEq, Int.reduceLT, Nat.reduceAdd, Nat.reduceSub, Nat.reduceMul, Nat.reduceLT, Nat.reduceLeDiff, Nat.reduceEqDiff, List.reduceReplicate, reduceIte, beq_self_eq_true, bne_self_eq_false, Int.reduceBEq, Int.reduceBNe, Bool.or_false, Bool.false_or, Bool.not_false, Bool.not_true]
          with_reducible refine WO.nil ?_
          refine ⟨rfl, ?_, ⟨_, rfl⟩, by simp [Own.bnd, bndL, bnd, boxO], by simp⟩
          try rw [hg15]
          simp [getE, bnd, keepE]
        · skip
          refine WO.go 2 (ds := [some 10, some 11, some 12, some 13, some 14, some 15, some 16, some 17, some 18, some 19, some 20, some 21]) rfl ?_
          simp only [sx, ty, Bool.false_eq_true, Int.reduceEq, Int.reduceLT, Nat.reduceAdd, Nat.reduceSub, Nat.reduceMul, Nat.reduceLT, Nat.reduceLeDiff, Nat.reduceEqDiff, List.reduceReplicate, reduceIte, beq_self_eq_true, bne_self_eq_false, Int.reduceBEq, Int.reduceBNe, Bool.or_false, Bool.false_or, Bool.not_false, Bool.not_true]
          refine WO.elem (y := l[i]) hl (by simp [St.put]) (ds := [some 10, some 11, some 12, some 13, some 14, some 15, some 16, some 17, some 18, some 19, some 20, some 21]) rfl rfl rfl (by simp [St.put]) (fun _ => rfl) rfl rfl rfl rfl rfl el22 agg3 sz3 (.inr rfl) (by omega) (getIdx l hlt) fun p ces hces => ?_
          obtain rfl := rInt_open hces
          clear hces
          refine WO.go 2 (ds := [some 10, some 11, some 12, some 13, some 14, some 15, some 16, some 17, some 18, some 19, some 20, some 21]) rfl ?_
          simp only [sx, ty, Bool.false_eq_true, Int.reduceEq, Int.reduceLT, Nat.reduceAdd, Nat.reduceSub, Nat.reduceMul, Nat.reduceLT, Nat.reduceLeDiff, Nat.reduceEqDiff, List.reduceReplicate, reduceIte, beq_self_eq_true, bne_self_eq_false, Int.reduceBEq, Int.reduceBNe, Bool.or_false, Bool.false_or, Bool.not_false, Bool.not_true]
          with_reducible refine WO.nil ?_
          refine ⟨rfl, ?_, ⟨_, rfl⟩, by simp [Own.bnd, bndL, bnd, boxO], by simp⟩
          try rw [hg15]
          simp [getE, bnd, keepE]
      · simp only [sx, ty, Bool.false_eq_true, Int.reduceEq, Int.reduceLT, Nat.reduceAdd, Nat.reduceSub, Nat.reduceMul, Nat.reduceLT, Nat.reduceLeDiff, Nat.reduceEqDiff, List.reduceReplicate, reduceIte, sxk, beq_self_eq_true, bne_self_eq_false, Int.reduceBEq, Int.reduceBNe, Bool.or_false, Bool.false_or, Bool.not_false, Bool.not_true]
        refine W.cond rfl rfl (fun hc => ?_) (fun hc => ?_)
        · skip
          have hbad : within 1 100000 l[i] = false := by rw [wrong_eq] at hc; simpa using hc
          refine W.pure (ds := []) rfl fun K8 hK8 => ?_
          simp only [sx, ty, Bool.false_eq_true, Int.reduceEq, Int.reduceLT, Nat.reduceAdd, Nat.reduceSub, Nat.reduceMul, Nat.reduceLT, Nat.reduceLeDiff, Nat.reduceEqDiff, List.reduceReplicate, reduceIte, beq_self_eq_true, bne_self_eq_false, Int.reduceBEq, Int.reduceBNe, Bool.or_false, Bool.false_or, Bool.not_false, Bool.not_true]; with_reducible refine hK8 _ ?_; clear hK8
          refine W.ret ⟨by simp, _, rfl, fun ρ w1 hb => ?_⟩
          simp only [den, widthsF, all_false (getIdx l hlt) hbad, Bool.false_and]
        · skip
          have hok : within 1 100000 l[i] = true := by rw [wrong_eq] at hc; simpa using hc
          refine W.skip (hK6 _ ?_)
          refine W.region ?_
          refine WO.go 3 (ds := []) rfl ?_
          simp only [sx, ty, Bool.false_eq_true, Int.reduceEq, Int.reduceLT, Nat.reduceAdd, Nat.reduceSub, Nat.reduceMul, Nat.reduceLT, Nat.reduceLeDiff, Nat.reduceEqDiff, List.reduceReplicate, reduceIte, beq_self_eq_true, bne_self_eq_false, Int.reduceBEq, Int.reduceBNe, Bool.or_false, Bool.false_or, Bool.not_false, Bool.not_true]
          with_reducible refine WO.nil ?_
          refine ⟨i + 1, ?_, by first | omega | (simp; omega), rfl, by simp [getE, bnd, keepE, wrap_succ (show i + 1 ≤ 9223372036854775807 by omega)], ⟨_, rfl⟩, by simp [Own.bnd, bndL, bnd, boxO], by simp⟩
          refine ⟨hlt, fun j hj y hy => ?_⟩
          rcases Nat.lt_succ_iff_lt_or_eq.1 hj with h | rfl
          · exact hno j h y hy
          · rw [getIdx l hlt] at hy; obtain rfl := Option.some.inj hy; exact hok
    · skip
      obtain rfl : i = l.length := Nat.le_antisymm hi (by simpa using hc)
      have hv : l.all (within 1 100000) = true := all_idx (Nat.le_refl _) hno
      refine W.exit (hK2 _ ?_)
      refine W.pure (ds := []) rfl fun K9 hK9 => ?_
      simp only [sx, ty, Bool.false_eq_true, Int.reduceEq, Int.reduceLT, Nat.reduceAdd, Nat.reduceSub, Nat.reduceMul, Nat.reduceLT, Nat.reduceLeDiff, Nat.reduceEqDiff, List.reduceReplicate, reduceIte, beq_self_eq_true, bne_self_eq_false, Int.reduceBEq, Int.reduceBNe, Bool.or_false, Bool.false_or, Bool.not_false, Bool.not_true]; with_reducible refine hK9 _ ?_; clear hK9
      refine W.ret ⟨by simp, _, rfl, fun ρ w1 hb => ?_⟩
      simp only [den, widthsF, hv, Bool.true_and, Value.bool.injEq]
      rw [Bool.eq_iff_iff]; simp; try omega
/-- function 27 -/
theorem paged_spec {S : Nat → Prop} {w : World} {v : Value} {l : List Pg} (hl : rPgs.rd S w [v] l) (many : Int) : Gives Try.prog 27 #[v, .int .i64 many] w fun r _ => r = .bool (pagedF l many) := by
  obtain ⟨p, c, rfl, hc1, hc2⟩ := Rp.slice_val hl
  have hl : (Rp.slice rPg).rd (fun _ => True) w _ l := Rp.any hl
  refine gives_of [.val (.slice p l.length c), .val (.int .i64 many)] 41 [.tmp 4] Try.func27 rfl rfl rfl (by simp) rfl rfl ?_
  refine W.pure (ds := []) rfl fun K1 hK1 => ?_
  simp only [sx, ty, Bool.false_eq_true, Int.reduceEq, Int.reduceLT, Nat.reduceAdd, Nat.reduceSub, Nat.reduceMul, Nat.reduceLT, Nat.reduceLeDiff, Nat.reduceEqDiff, List.reduceReplicate, reduceIte, beq_self_eq_true, bne_self_eq_false, Int.reduceBEq, Int.reduceBNe, Bool.or_false, Bool.false_or, Bool.not_false, Bool.not_true]; with_reducible refine hK1 _ ?_; clear hK1
  refine W.pure (ds := []) rfl fun K2 hK2 => ?_
  simp only [sx, ty, Bool.false_eq_true, Int.reduceEq, Int.reduceLT, Nat.reduceAdd, Nat.reduceSub, Nat.reduceMul, Nat.reduceLT, Nat.reduceLeDiff, Nat.reduceEqDiff, List.reduceReplicate, reduceIte, beq_self_eq_true, bne_self_eq_false, Int.reduceBEq, Int.reduceBNe, Bool.or_false, Bool.false_or, Bool.not_false, Bool.not_true]; with_reducible refine hK2 _ ?_; clear hK2
  refine W.seqK fun K3 hK3 => ?_
  refine W.pure (ds := []) rfl fun K4 hK4 => ?_
  simp only [sx, ty, Bool.false_eq_true, Int.reduceEq, Int.reduceLT, Nat.reduceAdd, Nat.reduceSub, Nat.reduceMul, Nat.reduceLT, Nat.reduceLeDiff, Nat.reduceEqDiff, List.reduceReplicate, reduceIte, beq_self_eq_true, bne_self_eq_false, Int.reduceBEq, Int.reduceBNe, Bool.or_false, Bool.false_or, Bool.not_false, Bool.not_true]; with_reducible refine hK4 _ ?_; clear hK4
  refine W.block ?_
  refine W.loopK (X := Nat × Int) [0, 1, 8, 9] (fun x => [(5, .val (.int .i64 x.2)), (10, .val (.int .i64 x.1))]) (fun x => x.1 ≤ l.length ∧ pgGo many 0 (l.take x.1) = some x.2) (fun x => l.length - x.1) (0, 0) ?_ ?_ ?_
  · exact ⟨rfl, by simp [getE, bnd, keepE], ⟨[], by simp⟩, by simp [Own.bnd, bndL, bnd, boxO], by simp⟩
  · skip
    exact ⟨Nat.zero_le _, rfl⟩
  · rintro ⟨i, f⟩ ⟨hi, hf⟩
    simp only at hi hf
    simp only [sx, ty, Bool.false_eq_true, Int.reduceEq, Int.reduceLT, Nat.reduceAdd, Nat.reduceSub, Nat.reduceMul, Nat.reduceLT, Nat.reduceLeDiff, Nat.reduceEqDiff, List.reduceReplicate, reduceIte, sxk, beq_self_eq_true, bne_self_eq_false, Int.reduceBEq, Int.reduceBNe, Bool.or_false, Bool.false_or, Bool.not_false, Bool.not_true]
    refine W.pure (ds := []) rfl fun K5 hK5 => ?_
    simp only [sx, ty, Bool.false_eq_true, Int.reduceEq, Int.reduceLT, Nat.reduceAdd, Nat.reduceSub, Nat.reduceMul, Nat.reduceLT, Nat.reduceLeDiff, Nat.reduceEqDiff, List.reduceReplicate, reduceIte, beq_self_eq_true, bne_self_eq_false, Int.reduceBEq, Int.reduceBNe, Bool.or_false, Bool.false_or, Bool.not_false, Bool.not_true]; with_reducible refine hK5 _ ?_; clear hK5
    refine W.seqK fun K6 hK6 => ?_
    refine W.cond rfl rfl (fun hc => ?_) (fun hc => ?_)
    · skip
      have hlt : i < l.length := by simpa using hc
      have hst := pgGo_step hlt hf
      refine W.skip (hK6 _ ?_)
      refine W.seqK fun K7 hK7 => ?_
      refine W.block ?_
      refine W.seqK fun K8 hK8 => W.region ?_
      refine WO.elem (y := l[i]) hl (by simp [St.put]) (ds := []) rfl rfl rfl (by simp [St.put]) (fun _ => rfl) rfl rfl rfl rfl rfl el24 agg36 sz36 (.inl rfl) (by omega) (getIdx l hlt) fun p ces hces => ?_
      obtain rfl := rPg_open hces
      clear hces
      refine WO.go 2 (ds := []) rfl ?_
      simp only [sx, ty, Bool.false_eq_true, Int.reduceEq, Int.reduceLT, Nat.reduceAdd, Nat.reduceSub, Nat.reduceMul, Nat.reduceLT, Nat.reduceLeDiff, Nat.reduceEqDiff, List.reduceReplicate, reduceIte, beq_self_eq_true, bne_self_eq_false, Int.reduceBEq, Int.reduceBNe, Bool.or_false, Bool.false_or, Bool.not_false, Bool.not_true]
      with_reducible refine WO.nil ?_
      refine hK8 _ ?_; clear hK8
      refine W.seqK fun K9 hK9 => ?_
      refine W.join 29 (.val (.bool (!(decide (l[i].1 = f) && (decide (f < l[i].2) && decide (l[i].2 ≤ many)))))) [0, 1, 7, 8, 9, 10] (W.region ?_) ?_
      · skip
        refine WO.go 5 (ds := [some 14, some 15, some 16, some 17, some 18, some 19, some 20, some 21, some 22, some 23, some 24, some 25, some 26, some 27, some 28, some 29]) rfl ?_
        simp only [sx, ty, Bool.false_eq_true, Int.reduceEq, Int.reduceLT, Nat.reduceAdd, Nat.reduceSub, Nat.reduceMul, Nat.reduceLT, Nat.reduceLeDiff, Nat.reduceEqDiff, List.reduceReplicate, reduceIte, beq_self_eq_true, bne_self_eq_false, Int.reduceBEq, Int.reduceBNe, Bool.or_false, Bool.false_or, Bool.not_false, Bool.not_true]
        refine WO.cases 18 _ rfl (fun hg18 => ?_) (fun hg18 => ?_)
        · skip
          refine WO.go 11 (ds := [some 14, some 15, some 16, some 17, some 18, some 19, some 20, some 21, some 22, some 23, some 24, some 25, some 26, some 27, some 28, some 29]) rfl ?_
          simp only [sx, ty, Bool.false_eq_true, Int.reduceEq, Int.reduceLT, Nat.reduceAdd, Nat.reduceSub, Nat.reduceMul, Nat.reduceLT, Nat.reduceLeDiff, Nat.reduceEqDiff, List.reduceReplicate, reduceIte, beq_self_eq_true, bne_self_eq_false, Int.reduceBEq, Int.reduceBNe, Bool.or_false, Bool.false_or, Bool.not_false, Bool.not_true]
          with_reducible refine WO.nil ?_
          refine ⟨rfl, ?_, ⟨_, rfl⟩, by simp [Own.bnd, bndL, bnd, boxO], by simp⟩
          try rw [hg18]
          try rw [hg24]
          simp [getE, bnd, keepE]
          try simp_all
          try (rw [Bool.eq_iff_iff]; simp)
          try omega
        · skip
          refine WO.go 6 (ds := [some 14, some 15, some 16, some 17, some 18, some 19, some 20, some 21, some 22, some 23, some 24, some 25, some 26, some 27, some 28, some 29]) rfl ?_
          simp only [sx, ty, Bool.false_eq_true, Int.reduceEq, Int.reduceLT, Nat.reduceAdd, Nat.reduceSub, Nat.reduceMul, Nat.reduceLT, Nat.reduceLeDiff, Nat.reduceEqDiff, List.reduceReplicate, reduceIte, beq_self_eq_true, bne_self_eq_false, Int.reduceBEq, Int.reduceBNe, Bool.or_false, Bool.false_or, Bool.not_false, Bool.not_true]
          refine WO.cases 24 _ rfl (fun hg24 => ?_) (fun hg24 => ?_)
          · skip
            refine WO.go 5 (ds := [some 14, some 15, some 16, some 17, some 18, some 19, some 20, some 21, some 22, some 23, some 24, some 25, some 26, some 27, some 28, some 29]) rfl ?_
            simp only [sx, ty, Bool.false_eq_true, Int.reduceEq, Int.reduceLT, Nat.reduceAdd, Nat.reduceSub, Nat.reduceMul, Nat.reduceLT, Nat.reduceLeDiff, Nat.reduceEqDiff, List.reduceReplicate, reduceIte, beq_self_eq_true, bne_self_eq_false, Int.reduceBEq, Int.reduceBNe, Bool.or_false, Bool.false_or, Bool.not_false, Bool.not_true]
            with_reducible refine WO.nil ?_
            refine ⟨rfl, ?_, ⟨_, rfl⟩, by simp [Own.bnd, bndL, bnd, boxO], by simp⟩
            try rw [hg18]
            try rw [hg24]
            simp [getE, bnd, keepE]
            try simp_all
            try (rw [Bool.eq_iff_iff]; simp)
            try omega
          · skip
            refine WO.go 5 (ds := [some 14, some 15, some 16, some 17, some 18, some 19, some 20, some 21, some 22, some 23, some 24, some 25, some 26, some 27, some 28, some 29]) rfl ?_
            simp only [sx, ty, Bool.false_eq_true, Int.reduceEq, Int.reduceLT, Nat.reduceAdd, Nat.reduceSub, Nat.reduceMul, Nat.reduceLT, Nat.reduceLeDiff, Nat.reduceEqDiff, List.reduceReplicate, reduceIte, beq_self_eq_true, bne_self_eq_false, Int.reduceBEq, Int.reduceBNe, Bool.or_false, Bool.false_or, Bool.not_false, Bool.not_true]
            with_reducible refine WO.nil ?_
            refine ⟨rfl, ?_, ⟨_, rfl⟩, by simp [Own.bnd, bndL, bnd, boxO], by simp⟩
            try rw [hg18]
            try rw [hg24]
            simp [getE, bnd, keepE]
            try simp_all
            try (rw [Bool.eq_iff_iff]; simp)
            try omega
      · simp only [sx, ty, Bool.false_eq_true, Int.reduceEq, Int.reduceLT, Nat.reduceAdd, Nat.reduceSub, Nat.reduceMul, Nat.reduceLT, Nat.reduceLeDiff, Nat.reduceEqDiff, List.reduceReplicate, reduceIte, sxk, beq_self_eq_true, bne_self_eq_false, Int.reduceBEq, Int.reduceBNe, Bool.or_false, Bool.false_or, Bool.not_false, Bool.not_true]
        refine W.cond rfl rfl (fun hc => ?_) (fun hc => ?_)
        · skip
          have hbad : ¬ (l[i].1 = f ∧ f < l[i].2 ∧ l[i].2 ≤ many) := by simp at hc; omega
          rw [if_neg hbad] at hst
          have hno := pgGo_bad hst
          refine W.pure (ds := []) rfl fun K11 hK11 => ?_
          simp only [sx, ty, Bool.false_eq_true, Int.reduceEq, Int.reduceLT, Nat.reduceAdd, Nat.reduceSub, Nat.reduceMul, Nat.reduceLT, Nat.reduceLeDiff, Nat.reduceEqDiff, List.reduceReplicate, reduceIte, beq_self_eq_true, bne_self_eq_false, Int.reduceBEq, Int.reduceBNe, Bool.or_false, Bool.false_or, Bool.not_false, Bool.not_true]; with_reducible refine hK11 _ ?_; clear hK11
          refine W.ret ⟨by simp, _, rfl, fun ρ w1 hb => ?_⟩
          simp only [den, pagedF, hno]; rfl
        · skip
          have hgood : l[i].1 = f ∧ f < l[i].2 ∧ l[i].2 ≤ many := by simp at hc; omega
          rw [if_pos hgood] at hst
          refine W.skip (hK9 _ ?_)
          refine W.region ?_
          refine WO.go 3 (ds := []) rfl ?_
          simp only [sx, ty, Bool.false_eq_true, Int.reduceEq, Int.reduceLT, Nat.reduceAdd, Nat.reduceSub, Nat.reduceMul, Nat.reduceLT, Nat.reduceLeDiff, Nat.reduceEqDiff, List.reduceReplicate, reduceIte, beq_self_eq_true, bne_self_eq_false, Int.reduceBEq, Int.reduceBNe, Bool.or_false, Bool.false_or, Bool.not_false, Bool.not_true]
          with_reducible refine WO.nil ?_
          refine hK7 _ ?_
          refine W.region ?_
          refine WO.go 2 (ds := []) rfl ?_
          simp only [sx, ty, Bool.false_eq_true, Int.reduceEq, Int.reduceLT, Nat.reduceAdd, Nat.reduceSub, Nat.reduceMul, Nat.reduceLT, Nat.reduceLeDiff, Nat.reduceEqDiff, List.reduceReplicate, reduceIte, beq_self_eq_true, bne_self_eq_false, Int.reduceBEq, Int.reduceBNe, Bool.or_false, Bool.false_or, Bool.not_false, Bool.not_true]
          with_reducible refine WO.nil ?_
          refine ⟨(i + 1, l[i].2), ?_, by first | omega | (simp; omega), rfl, by simp [getE, bnd, keepE, wrap_succ (show i + 1 ≤ 9223372036854775807 by omega)], ⟨_, rfl⟩, by simp [Own.bnd, bndL, bnd, boxO], by simp⟩
          exact ⟨hlt, hst⟩
    · skip
      obtain rfl : i = l.length := Nat.le_antisymm hi (by simpa using hc)
      rw [List.take_length] at hf
      refine W.exit (hK3 _ ?_)
      refine W.join 4 (.val (.bool (decide (f = many) && decide ((l.length : Int) ≤ 1000)))) [] (W.region ?_) ?_
      · skip
        refine WO.go 4 (ds := [some 33, some 34, some 35, some 36, some 37, some 38, some 39, some 40, some 4]) rfl ?_
        simp only [sx, ty, Bool.false_eq_true, Int.reduceEq, Int.reduceLT, Nat.reduceAdd, Nat.reduceSub, Nat.reduceMul, Nat.reduceLT, Nat.reduceLeDiff, Nat.reduceEqDiff, List.reduceReplicate, reduceIte, beq_self_eq_true, bne_self_eq_false, Int.reduceBEq, Int.reduceBNe, Bool.or_false, Bool.false_or, Bool.not_false, Bool.not_true]
        refine WO.cases 36 _ rfl (fun hg36 => ?_) (fun hg36 => ?_)
        · skip
          refine WO.go 5 (ds := [some 33, some 34, some 35, some 36, some 37, some 38, some 39, some 40, some 4]) rfl ?_
          simp only [sx, ty, Bool.false_eq_true, Int.reduceEq, Int.reduceLT, Nat.reduceAdd, Nat.reduceSub, Nat.reduceMul, Nat.reduceLT, Nat.reduceLeDiff, Nat.reduceEqDiff, List.reduceReplicate, reduceIte, beq_self_eq_true, bne_self_eq_false, Int.reduceBEq, Int.reduceBNe, Bool.or_false, Bool.false_or, Bool.not_false, Bool.not_true]
          with_reducible refine WO.nil ?_
          refine ⟨rfl, ?_, ⟨_, rfl⟩, by simp [Own.bnd, bndL, bnd, boxO], by simp⟩
          try rw [hg36]
          simp [getE, bnd, keepE]
          try simp_all
        · skip
          refine WO.go 5 (ds := [some 33, some 34, some 35, some 36, some 37, some 38, some 39, some 40, some 4]) rfl ?_
          simp only [sx, ty, Bool.false_eq_true, Int.reduceEq, Int.reduceLT, Nat.reduceAdd, Nat.reduceSub, Nat.reduceMul, Nat.reduceLT, Nat.reduceLeDiff, Nat.reduceEqDiff, List.reduceReplicate, reduceIte, beq_self_eq_true, bne_self_eq_false, Int.reduceBEq, Int.reduceBNe, Bool.or_false, Bool.false_or, Bool.not_false, Bool.not_true]
          with_reducible refine WO.nil ?_
          refine ⟨rfl, ?_, ⟨_, rfl⟩, by simp [Own.bnd, bndL, bnd, boxO], by simp⟩
          try rw [hg36]
          simp [getE, bnd, keepE]
          try simp_all
      · simp only [sx, ty, Bool.false_eq_true, Int.reduceEq, Int.reduceLT, Nat.reduceAdd, Nat.reduceSub, Nat.reduceMul, Nat.reduceLT, Nat.reduceLeDiff, Nat.reduceEqDiff, List.reduceReplicate, reduceIte, sxk, beq_self_eq_true, bne_self_eq_false, Int.reduceBEq, Int.reduceBNe, Bool.or_false, Bool.false_or, Bool.not_false, Bool.not_true]
        refine W.ret ⟨by simp, _, rfl, fun ρ w1 hb => ?_⟩
        simp only [den, pagedF, hf, Option.some.injEq, Value.bool.injEq]
        rw [Bool.eq_iff_iff]; simp; try omega
/-- function 28 -/
theorem rpages_spec {S : Nat → Prop} {w : World} {v : Value} {l : List Pg} (hl : rPgs.rd S w [v] l) (many : Int) : Gives Try.prog 28 #[v, .int .i64 many] w fun r _ => r = .bool (pagedF l many) := by
  obtain ⟨p, c, rfl, hc1, hc2⟩ := Rp.slice_val hl
  have hl : (Rp.slice rPg).rd (fun _ => True) w _ l := Rp.any hl
  refine gives_of [.val (.slice p l.length c), .val (.int .i64 many)] 51 [.tmp 4] Try.func28 rfl rfl rfl (by simp) rfl rfl ?_
  refine W.pure (ds := []) rfl fun K1 hK1 => ?_
  simp only [sx, ty, Bool.false_eq_true, Int.reduceEq, Int.reduceLT, Nat.reduceAdd, Nat.reduceSub, Nat.reduceMul, Nat.reduceLT, Nat.reduceLeDiff, Nat.reduceEqDiff, List.reduceReplicate, reduceIte, beq_self_eq_true, bne_self_eq_false, Int.reduceBEq, Int.reduceBNe, Bool.or_false, Bool.false_or, Bool.not_false, Bool.not_true]; with_reducible refine hK1 _ ?_; clear hK1
  refine W.pure (ds := []) rfl fun K2 hK2 => ?_
  simp only [sx, ty, Bool.false_eq_true, Int.reduceEq, Int.reduceLT, Nat.reduceAdd, Nat.reduceSub, Nat.reduceMul, Nat.reduceLT, Nat.reduceLeDiff, Nat.reduceEqDiff, List.reduceReplicate, reduceIte, beq_self_eq_true, bne_self_eq_false, Int.reduceBEq, Int.reduceBNe, Bool.or_false, Bool.false_or, Bool.not_false, Bool.not_true]; with_reducible refine hK2 _ ?_; clear hK2
  refine W.seqK fun K3 hK3 => ?_
  refine W.pure (ds := []) rfl fun K4 hK4 => ?_
  simp only [sx, ty, Bool.false_eq_true, Int.reduceEq, Int.reduceLT, Nat.reduceAdd, Nat.reduceSub, Nat.reduceMul, Nat.reduceLT, Nat.reduceLeDiff, Nat.reduceEqDiff, List.reduceReplicate, reduceIte, beq_self_eq_true, bne_self_eq_false, Int.reduceBEq, Int.reduceBNe, Bool.or_false, Bool.false_or, Bool.not_false, Bool.not_true]; with_reducible refine hK4 _ ?_; clear hK4
  refine W.block ?_
  refine W.loopK (X := Nat × Int) [0, 1] (fun x => [(5, .val (.int .i64 x.2)), (6, .val (.int .i64 x.1))]) (fun x => x.1 ≤ l.length ∧ pgGo many 0 (l.take x.1) = some x.2) (fun x => l.length - x.1) (0, 0) ?_ ?_ ?_
  · exact ⟨rfl, by simp [getE, bnd, keepE], ⟨[], by simp⟩, by simp [Own.bnd, bndL, bnd, boxO], by simp⟩
  · skip
    exact ⟨Nat.zero_le _, rfl⟩
  · rintro ⟨i, f⟩ ⟨hi, hf⟩
    simp only at hi hf
    simp only [sx, ty, Bool.false_eq_true, Int.reduceEq, Int.reduceLT, Nat.reduceAdd, Nat.reduceSub, Nat.reduceMul, Nat.reduceLT, Nat.reduceLeDiff, Nat.reduceEqDiff, List.reduceReplicate, reduceIte, sxk, beq_self_eq_true, bne_self_eq_false, Int.reduceBEq, Int.reduceBNe, Bool.or_false, Bool.false_or, Bool.not_false, Bool.not_true]
    refine W.seqK fun K5 hK5 => ?_
    refine W.pure (ds := []) rfl fun K6 hK6 => ?_
    simp only [sx, ty, Bool.false_eq_true, Int.reduceEq, Int.reduceLT, Nat.reduceAdd, Nat.reduceSub, Nat.reduceMul, Nat.reduceLT, Nat.reduceLeDiff, Nat.reduceEqDiff, List.reduceReplicate, reduceIte, beq_self_eq_true, bne_self_eq_false, Int.reduceBEq, Int.reduceBNe, Bool.or_false, Bool.false_or, Bool.not_false, Bool.not_true]; with_reducible refine hK6 _ ?_; clear hK6
    refine W.cond rfl rfl (fun hc => ?_) (fun hc => ?_)
    · skip
      have hlt : i < l.length := by simpa using hc
      have hst := pgGo_step hlt hf
      refine W.skip (hK5 _ ?_)
      refine W.seqK fun K7 hK7 => ?_
      refine W.block ?_
      refine W.seqK fun K8 hK8 => ?_
      refine W.join 37 (.val (.bool (!(decide (l[i].1 = f) && (decide (f < l[i].2) && decide (l[i].2 ≤ many)))))) [0, 1, 6] (W.region ?_) ?_
      · skip
        refine WO.go 2 (ds := [some 13, some 14, some 15, some 16, some 17, some 18, some 19, some 20, some 21, some 22, some 23, some 24, some 25, some 26, some 27, some 28, some 29, some 30, some 31, some 32, some 33, some 34, some 35, some 36, some 37]) rfl ?_
        simp only [sx, ty, Bool.false_eq_true, Int.reduceEq, Int.reduceLT, Nat.reduceAdd, Nat.reduceSub, Nat.reduceMul, Nat.reduceLT, Nat.reduceLeDiff, Nat.reduceEqDiff, List.reduceReplicate, reduceIte, beq_self_eq_true, bne_self_eq_false, Int.reduceBEq, Int.reduceBNe, Bool.or_false, Bool.false_or, Bool.not_false, Bool.not_true]
        refine WO.elemF (y := l[i]) hl (by simp [St.put]) (ds := [some 13, some 14, some 15, some 16, some 17, some 18, some 19, some 20, some 21, some 22, some 23, some 24, some 25, some 26, some 27, some 28, some 29, some 30, some 31, some 32, some 33, some 34, some 35, some 36, some 37]) rfl rfl rfl (by simp [St.put]) (fun _ => rfl) rfl (by simp [St.put]) (fun _ _ => rfl) rfl rfl rfl rfl rfl rfl el24 fo36_0 agg3 sz3 (by decide) (.inr rfl) (by omega) (getIdx l hlt) fun p q ces hces => ?_
        obtain rfl := rPg_open hces
        clear hces
        refine WO.go 3 (ds := [some 13, some 14, some 15, some 16, some 17, some 18, some 19, some 20, some 21, some 22, some 23, some 24, some 25, some 26, some 27, some 28, some 29, some 30, some 31, some 32, some 33, some 34, some 35, some 36, some 37]) rfl ?_
        simp only [sx, ty, Bool.false_eq_true, Int.reduceEq, Int.reduceLT, Nat.reduceAdd, Nat.reduceSub, Nat.reduceMul, Nat.reduceLT, Nat.reduceLeDiff, Nat.reduceEqDiff, List.reduceReplicate, reduceIte, beq_self_eq_true, bne_self_eq_false, Int.reduceBEq, Int.reduceBNe, Bool.or_false, Bool.false_or, Bool.not_false, Bool.not_true]
        refine WO.cases 20 _ rfl (fun hg20 => ?_) (fun hg20 => ?_)
        · skip
          refine WO.go 17 (ds := [some 13, some 14, some 15, some 16, some 17, some 18, some 19, some 20, some 21, some 22, some 23, some 24, some 25, some 26, some 27, some 28, some 29, some 30, some 31, some 32, some 33, some 34, some 35, some 36, some 37]) rfl ?_
          simp only [sx, ty, Bool.false_eq_true, Int.reduceEq, Int.reduceLT, Nat.reduceAdd, Nat.reduceSub, Nat.reduceMul, Nat.reduceLT, Nat.reduceLeDiff, Nat.reduceEqDiff, List.reduceReplicate, reduceIte, beq_self_eq_true, bne_self_eq_false, Int.reduceBEq, Int.reduceBNe, Bool.or_false, Bool.false_or, Bool.not_false, Bool.not_true]
          with_reducible refine WO.nil ?_
          refine ⟨rfl, ?_, ⟨_, rfl⟩, by simp [Own.bnd, bndL, bnd, boxO], by simp⟩
          try rw [hg20]
          try rw [hg29]
          simp [getE, bnd, keepE]
          try simp_all
          try (rw [Bool.eq_iff_iff]; simp)
          try omega
        · skip
          refine WO.go 2 (ds := [some 13, some 14, some 15, some 16, some 17, some 18, some 19, some 20, some 21, some 22, some 23, some 24, some 25, some 26, some 27, some 28, some 29, some 30, some 31, some 32, some 33, some 34, some 35, some 36, some 37]) rfl ?_
          simp only [sx, ty, Bool.false_eq_true, Int.reduceEq, Int.reduceLT, Nat.reduceAdd, Nat.reduceSub, Nat.reduceMul, Nat.reduceLT, Nat.reduceLeDiff, Nat.reduceEqDiff, List.reduceReplicate, reduceIte, beq_self_eq_true, bne_self_eq_false, Int.reduceBEq, Int.reduceBNe, Bool.or_false, Bool.false_or, Bool.not_false, Bool.not_true]
          refine WO.elemF (y := l[i]) hl (by simp [St.put]) (ds := [some 13, some 14, some 15, some 16, some 17, some 18, some 19, some 20, some 21, some 22, some 23, some 24, some 25, some 26, some 27, some 28, some 29, some 30, some 31, some 32, some 33, some 34, some 35, some 36, some 37]) rfl rfl rfl (by simp [St.put]) (fun _ => rfl) rfl (by simp [St.put]) (fun _ _ => rfl) rfl rfl rfl rfl rfl rfl el24 fo36_1 agg3 sz3 (by decide) (.inr rfl) (by omega) (getIdx l hlt) fun p q ces hces => ?_
          obtain rfl := rPg_open hces
          clear hces
          refine WO.go 4 (ds := [some 13, some 14, some 15, some 16, some 17, some 18, some 19, some 20, some 21, some 22, some 23, some 24, some 25, some 26, some 27, some 28, some 29, some 30, some 31, some 32, some 33, some 34, some 35, some 36, some 37]) rfl ?_
          simp only [sx, ty, Bool.false_eq_true, Int.reduceEq, Int.reduceLT, Nat.reduceAdd, Nat.reduceSub, Nat.reduceMul, Nat.reduceLT, Nat.reduceLeDiff, Nat.reduceEqDiff, List.reduceReplicate, reduceIte, beq_self_eq_true, bne_self_eq_false, Int.reduceBEq, Int.reduceBNe, Bool.or_false, Bool.false_or, Bool.not_false, Bool.not_true]
          refine WO.cases 29 _ rfl (fun hg29 => ?_) (fun hg29 => ?_)
          · skip
            refine WO.go 8 (ds := [some 13, some 14, some 15, some 16, some 17, some 18, some 19, some 20, some 21, some 22, some 23, some 24, some 25, some 26, some 27, some 28, some 29, some 30, some 31, some 32, some 33, some 34, some 35, some 36, some 37]) rfl ?_
            simp only [sx, ty, Bool.false_eq_true, Int.reduceEq, Int.reduceLT, Nat.reduceAdd, Nat.reduceSub, Nat.reduceMul, Nat.reduceLT, Nat.reduceLeDiff, Nat.reduceEqDiff, List.reduceReplicate, reduceIte, beq_self_eq_true, bne_self_eq_false, Int.reduceBEq, Int.reduceBNe, Bool.or_false, Bool.false_or, Bool.not_false, Bool.not_true]
            with_reducible refine WO.nil ?_
            refine ⟨rfl, ?_, ⟨_, rfl⟩, by simp [Own.bnd, bndL, bnd, boxO], by simp⟩
            try rw [hg20]
            try rw [hg29]
            simp [getE, bnd, keepE]
            try simp_all
            try (rw [Bool.eq_iff_iff]; simp)
            try omega
          · skip
            refine WO.go 2 (ds := [some 13, some 14, some 15, some 16, some 17, some 18, some 19, some 20, some 21, some 22, some 23, some 24, some 25, some 26, some 27, some 28, some 29, some 30, some 31, some 32, some 33, some 34, some 35, some 36, some 37]) rfl ?_
            simp only [sx, ty, Bool.false_eq_true, Int.reduceEq, Int.reduceLT, Nat.reduceAdd, Nat.reduceSub, Nat.reduceMul, Nat.reduceLT, Nat.reduceLeDiff, Nat.reduceEqDiff, List.reduceReplicate, reduceIte, beq_self_eq_true, bne_self_eq_false, Int.reduceBEq, Int.reduceBNe, Bool.or_false, Bool.false_or, Bool.not_false, Bool.not_true]
            refine WO.elemF (y := l[i]) hl (by simp [St.put]) (ds := [some 13, some 14, some 15, some 16, some 17, some 18, some 19, some 20, some 21, some 22, some 23, some 24, some 25, some 26, some 27, some 28, some 29, some 30, some 31, some 32, some 33, some 34, some 35, some 36, some 37]) rfl rfl rfl (by simp [St.put]) (fun _ => rfl) rfl (by simp [St.put]) (fun _ _ => rfl) rfl rfl rfl rfl rfl rfl el24 fo36_1 agg3 sz3 (by decide) (.inr rfl) (by omega) (getIdx l hlt) fun p q ces hces => ?_
            obtain rfl := rPg_open hces
            clear hces
            refine WO.go 3 (ds := [some 13, some 14, some 15, some 16, some 17, some 18, some 19, some 20, some 21, some 22, some 23, some 24, some 25, some 26, some 27, some 28, some 29, some 30, some 31, some 32, some 33, some 34, some 35, some 36, some 37]) rfl ?_
            simp only [sx, ty, Bool.false_eq_true, Int.reduceEq, Int.reduceLT, Nat.reduceAdd, Nat.reduceSub, Nat.reduceMul, Nat.reduceLT, Nat.reduceLeDiff, Nat.reduceEqDiff, List.reduceReplicate, reduceIte, beq_self_eq_true, bne_self_eq_false, Int.reduceBEq, Int.reduceBNe, Bool.or_false, Bool.false_or, Bool.not_false, Bool.not_true]
            with_reducible refine WO.nil ?_
            refine ⟨rfl, ?_, ⟨_, rfl⟩, by simp [Own.bnd, bndL, bnd, boxO], by simp⟩
            try rw [hg20]
            try rw [hg29]
            simp [getE, bnd, keepE]
            try simp_all
            try (rw [Bool.eq_iff_iff]; simp)
            try omega
      · simp only [sx, ty, Bool.false_eq_true, Int.reduceEq, Int.reduceLT, Nat.reduceAdd, Nat.reduceSub, Nat.reduceMul, Nat.reduceLT, Nat.reduceLeDiff, Nat.reduceEqDiff, List.reduceReplicate, reduceIte, sxk, beq_self_eq_true, bne_self_eq_false, Int.reduceBEq, Int.reduceBNe, Bool.or_false, Bool.false_or, Bool.not_false, Bool.not_true]
        refine W.cond rfl rfl (fun hc => ?_) (fun hc => ?_)
        · skip
          have hbad : ¬ (l[i].1 = f ∧ f < l[i].2 ∧ l[i].2 ≤ many) := by simp at hc; omega
          rw [if_neg hbad] at hst
          have hno := pgGo_bad hst
          refine W.pure (ds := []) rfl fun K10 hK10 => ?_
          simp only [sx, ty, Bool.false_eq_true, Int.reduceEq, Int.reduceLT, Nat.reduceAdd, Nat.reduceSub, Nat.reduceMul, Nat.reduceLT, Nat.reduceLeDiff, Nat.reduceEqDiff, List.reduceReplicate, reduceIte, beq_self_eq_true, bne_self_eq_false, Int.reduceBEq, Int.reduceBNe, Bool.or_false, Bool.false_or, Bool.not_false, Bool.not_true]; with_reducible refine hK10 _ ?_; clear hK10
          refine W.ret ⟨by simp, _, rfl, fun ρ w1 hb => ?_⟩
          simp only [den, pagedF, hno]; rfl
        · skip
          have hgood : l[i].1 = f ∧ f < l[i].2 ∧ l[i].2 ≤ many := by simp at hc; omega
          rw [if_pos hgood] at hst
          refine W.skip (hK8 _ ?_)
          refine W.region ?_
          refine WO.go 2 (ds := []) rfl ?_
          simp only [sx, ty, Bool.false_eq_true, Int.reduceEq, Int.reduceLT, Nat.reduceAdd, Nat.reduceSub, Nat.reduceMul, Nat.reduceLT, Nat.reduceLeDiff, Nat.reduceEqDiff, List.reduceReplicate, reduceIte, beq_self_eq_true, bne_self_eq_false, Int.reduceBEq, Int.reduceBNe, Bool.or_false, Bool.false_or, Bool.not_false, Bool.not_true]
          refine WO.elemF (y := l[i]) hl (by simp [St.put]) (ds := []) rfl rfl rfl (by simp [St.put]) (fun _ => rfl) rfl (by simp [St.put]) (fun _ _ => rfl) rfl rfl rfl rfl rfl rfl el24 fo36_1 agg3 sz3 (by decide) (.inr rfl) (by omega) (getIdx l hlt) fun p q ces hces => ?_
          obtain rfl := rPg_open hces
          clear hces
          refine WO.go 1 (ds := []) rfl ?_
          simp only [sx, ty, Bool.false_eq_true, Int.reduceEq, Int.reduceLT, Nat.reduceAdd, Nat.reduceSub, Nat.reduceMul, Nat.reduceLT, Nat.reduceLeDiff, Nat.reduceEqDiff, List.reduceReplicate, reduceIte, beq_self_eq_true, bne_self_eq_false, Int.reduceBEq, Int.reduceBNe, Bool.or_false, Bool.false_or, Bool.not_false, Bool.not_true]
          with_reducible refine WO.nil ?_
          refine hK7 _ ?_
          refine W.region ?_
          refine WO.go 3 (ds := []) rfl ?_
          simp only [sx, ty, Bool.false_eq_true, Int.reduceEq, Int.reduceLT, Nat.reduceAdd, Nat.reduceSub, Nat.reduceMul, Nat.reduceLT, Nat.reduceLeDiff, Nat.reduceEqDiff, List.reduceReplicate, reduceIte, beq_self_eq_true, bne_self_eq_false, Int.reduceBEq, Int.reduceBNe, Bool.or_false, Bool.false_or, Bool.not_false, Bool.not_true]
          with_reducible refine WO.nil ?_
          refine ⟨(i + 1, l[i].2), ?_, by first | omega | (simp; omega), rfl, by simp [getE, bnd, keepE, wrap_succ (show i + 1 ≤ 9223372036854775807 by omega)], ⟨_, rfl⟩, by simp [Own.bnd, bndL, bnd, boxO], by simp⟩
          exact ⟨hlt, hst⟩
    · skip
      obtain rfl : i = l.length := Nat.le_antisymm hi (by simpa using hc)
      rw [List.take_length] at hf
      refine W.exit (hK3 _ ?_)
      refine W.join 4 (.val (.bool (decide (f = many) && decide ((l.length : Int) ≤ 1000)))) [] (W.region ?_) ?_
      · skip
        refine WO.go 4 (ds := [some 43, some 44, some 45, some 46, some 47, some 48, some 49, some 50, some 4]) rfl ?_
        simp only [sx, ty, Bool.false_eq_true, Int.reduceEq, Int.reduceLT, Nat.reduceAdd, Nat.reduceSub, Nat.reduceMul, Nat.reduceLT, Nat.reduceLeDiff, Nat.reduceEqDiff, List.reduceReplicate, reduceIte, beq_self_eq_true, bne_self_eq_false, Int.reduceBEq, Int.reduceBNe, Bool.or_false, Bool.false_or, Bool.not_false, Bool.not_true]
        refine WO.cases 46 _ rfl (fun hg46 => ?_) (fun hg46 => ?_)
        · skip
          refine WO.go 5 (ds := [some 43, some 44, some 45, some 46, some 47, some 48, some 49, some 50, some 4]) rfl ?_
          simp only [sx, ty, Bool.false_eq_true, Int.reduceEq, Int.reduceLT, Nat.reduceAdd, Nat.reduceSub, Nat.reduceMul, Nat.reduceLT, Nat.reduceLeDiff, Nat.reduceEqDiff, List.reduceReplicate, reduceIte, beq_self_eq_true, bne_self_eq_false, Int.reduceBEq, Int.reduceBNe, Bool.or_false, Bool.false_or, Bool.not_false, Bool.not_true]
          with_reducible refine WO.nil ?_
          refine ⟨rfl, ?_, ⟨_, rfl⟩, by simp [Own.bnd, bndL, bnd, boxO], by simp⟩
          try rw [hg46]
          simp [getE, bnd, keepE]
          try simp_all
        · skip
          refine WO.go 5 (ds := [some 43, some 44, some 45, some 46, some 47, some 48, some 49, some 50, some 4]) rfl ?_
          simp only [sx, ty, Bool.false_eq_true, Int.reduceEq, Int.reduceLT, Nat.reduceAdd, Nat.reduceSub, Nat.reduceMul, Nat.reduceLT, Nat.reduceLeDiff, Nat.reduceEqDiff, List.reduceReplicate, reduceIte, beq_self_eq_true, bne_self_eq_false, Int.reduceBEq, Int.reduceBNe, Bool.or_false, Bool.false_or, Bool.not_false, Bool.not_true]
          with_reducible refine WO.nil ?_
          refine ⟨rfl, ?_, ⟨_, rfl⟩, by simp [Own.bnd, bndL, bnd, boxO], by simp⟩
          try rw [hg46]
          simp [getE, bnd, keepE]
          try simp_all
      · simp only [sx, ty, Bool.false_eq_true, Int.reduceEq, Int.reduceLT, Nat.reduceAdd, Nat.reduceSub, Nat.reduceMul, Nat.reduceLT, Nat.reduceLeDiff, Nat.reduceEqDiff, List.reduceReplicate, reduceIte, sxk, beq_self_eq_true, bne_self_eq_false, Int.reduceBEq, Int.reduceBNe, Bool.or_false, Bool.false_or, Bool.not_false, Bool.not_true]
        refine W.ret ⟨by simp, _, rfl, fun ρ w1 hb => ?_⟩
        simp only [den, pagedF, hf, Option.some.injEq, Value.bool.injEq]
        rw [Bool.eq_iff_iff]; simp; try omega
/-- function 10 -/
theorem few_spec {S S2 S3 : Nat → Prop} {w : World} {v u z : Value} {a : List Int} {b : List Bool} {l : List Pg} (hl : rInts.rd S w [v] a) (hl2 : rBools.rd S2 w [u] b) (hl3 : rPgs.rd S3 w [z] l) : Gives Try.prog 10 #[v, u, z] w fun r _ => r = .bool (decide ((a.length : Int) ≤ 60) && (decide ((b.length : Int) ≤ 60) && decide ((l.length : Int) ≤ 80))) := by
  obtain ⟨p, c, rfl, hc1, hc2⟩ := Rp.slice_val hl
  obtain ⟨p2, c2, rfl, hc3, hc4⟩ := Rp.slice_val hl2
  obtain ⟨p3, c3, rfl, hc5, hc6⟩ := Rp.slice_val hl3
  refine gives_of [.val (.slice p a.length c), .val (.slice p2 b.length c2), .val (.slice p3 l.length c3)] 20 [.tmp 6] Try.func10 rfl rfl rfl (by simp) rfl rfl ?_
  refine W.pure (ds := []) rfl fun K1 hK1 => ?_
  simp only [sx, ty, Bool.false_eq_true, Int.reduceEq, Int.reduceLT, Nat.reduceAdd, Nat.reduceSub, Nat.reduceMul, Nat.reduceLT, Nat.reduceLeDiff, Nat.reduceEqDiff, List.reduceReplicate, reduceIte, beq_self_eq_true, bne_self_eq_false, Int.reduceBEq, Int.reduceBNe, Bool.or_false, Bool.false_or, Bool.not_false, Bool.not_true]; with_reducible refine hK1 _ ?_; clear hK1
  refine W.join 6 (.val (.bool (decide ((a.length : Int) ≤ 60) && (decide ((b.length : Int) ≤ 60) && decide ((l.length : Int) ≤ 80))))) [] (W.region ?_) ?_
  · skip
    refine WO.go 4 (ds := [some 7, some 8, some 9, some 10, some 11, some 12, some 13, some 14, some 15, some 16, some 17, some 18, some 19, some 6]) rfl ?_
    simp only [sx, ty, Bool.false_eq_true, Int.reduceEq, Int.reduceLT, Nat.reduceAdd, Nat.reduceSub, Nat.reduceMul, Nat.reduceLT, Nat.reduceLeDiff, Nat.reduceEqDiff, List.reduceReplicate, reduceIte, beq_self_eq_true, bne_self_eq_false, Int.reduceBEq, Int.reduceBNe, Bool.or_false, Bool.false_or, Bool.not_false, Bool.not_true]
    refine WO.cases 10 _ rfl (fun hg10 => ?_) (fun hg10 => ?_)
    · skip
      refine WO.go 5 (ds := [some 7, some 8, some 9, some 10, some 11, some 12, some 13, some 14, some 15, some 16, some 17, some 18, some 19, some 6]) rfl ?_
      simp only [sx, ty, Bool.false_eq_true, Int.reduceEq, Int.reduceLT, Nat.reduceAdd, Nat.reduceSub, Nat.reduceMul, Nat.reduceLT, Nat.reduceLeDiff, Nat.reduceEqDiff, List.reduceReplicate, reduceIte, beq_self_eq_true, bne_self_eq_false, Int.reduceBEq, Int.reduceBNe, Bool.or_false, Bool.false_or, Bool.not_false, Bool.not_true]
      refine WO.cases 15 _ rfl (fun hg15 => ?_) (fun hg15 => ?_)
      · skip
        refine WO.go 5 (ds := [some 7, some 8, some 9, some 10, some 11, some 12, some 13, some 14, some 15, some 16, some 17, some 18, some 19, some 6]) rfl ?_
        simp only [sx, ty, Bool.false_eq_true, Int.reduceEq, Int.reduceLT, Nat.reduceAdd, Nat.reduceSub, Nat.reduceMul, Nat.reduceLT, Nat.reduceLeDiff, Nat.reduceEqDiff, List.reduceReplicate, reduceIte, beq_self_eq_true, bne_self_eq_false, Int.reduceBEq, Int.reduceBNe, Bool.or_false, Bool.false_or, Bool.not_false, Bool.not_true]
        with_reducible refine WO.nil ?_
        refine ⟨rfl, ?_, ⟨_, rfl⟩, by simp [Own.bnd, bndL, bnd, boxO], by simp⟩
        try rw [hg10]
        try rw [hg15]
        simp [getE, bnd, keepE]
        try simp_all
      · skip
        refine WO.go 5 (ds := [some 7, some 8, some 9, some 10, some 11, some 12, some 13, some 14, some 15, some 16, some 17, some 18, some 19, some 6]) rfl ?_
        simp only [sx, ty, Bool.false_eq_true, Int.reduceEq, Int.reduceLT, Nat.reduceAdd, Nat.reduceSub, Nat.reduceMul, Nat.reduceLT, Nat.reduceLeDiff, Nat.reduceEqDiff, List.reduceReplicate, reduceIte, beq_self_eq_true, bne_self_eq_false, Int.reduceBEq, Int.reduceBNe, Bool.or_false, Bool.false_or, Bool.not_false, Bool.not_true]
        with_reducible refine WO.nil ?_
        refine ⟨rfl, ?_, ⟨_, rfl⟩, by simp [Own.bnd, bndL, bnd, boxO], by simp⟩
        try rw [hg10]
        try rw [hg15]
        simp [getE, bnd, keepE]
        try simp_all
    · skip
      refine WO.go 10 (ds := [some 7, some 8, some 9, some 10, some 11, some 12, some 13, some 14, some 15, some 16, some 17, some 18, some 19, some 6]) rfl ?_
      simp only [sx, ty, Bool.false_eq_true, Int.reduceEq, Int.reduceLT, Nat.reduceAdd, Nat.reduceSub, Nat.reduceMul, Nat.reduceLT, Nat.reduceLeDiff, Nat.reduceEqDiff, List.reduceReplicate, reduceIte, beq_self_eq_true, bne_self_eq_false, Int.reduceBEq, Int.reduceBNe, Bool.or_false, Bool.false_or, Bool.not_false, Bool.not_true]
      with_reducible refine WO.nil ?_
      refine ⟨rfl, ?_, ⟨_, rfl⟩, by simp [Own.bnd, bndL, bnd, boxO], by simp⟩
      try rw [hg10]
      try rw [hg15]
      simp [getE, bnd, keepE]
      try simp_all
  · simp only [sx, ty, Bool.false_eq_true, Int.reduceEq, Int.reduceLT, Nat.reduceAdd, Nat.reduceSub, Nat.reduceMul, Nat.reduceLT, Nat.reduceLeDiff, Nat.reduceEqDiff, List.reduceReplicate, reduceIte, sxk, beq_self_eq_true, bne_self_eq_false, Int.reduceBEq, Int.reduceBNe, Bool.or_false, Bool.false_or, Bool.not_false, Bool.not_true]
    refine W.ret ⟨by simp, _, rfl, fun ρ w1 hb => ?_⟩
    rfl
end Go.Proofs.Ytpggkomalbbofaa
