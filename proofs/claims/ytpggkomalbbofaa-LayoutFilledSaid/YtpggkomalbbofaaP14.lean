/-
  Layout: the fifth law: the walk.
-/
import Derived.Test.YtpggkomalbbofaaP12
set_option linter.unusedVariables false
set_option linter.unusedSimpArgs false
set_option maxHeartbeats 1000000
namespace Go.Proofs.Ytpggkomalbbofaa
open Go Go.SX Go.RowKit
/-- function 7 -/
theorem law5 {S : Nat → Prop} {w : World} {v : Value} {ws : List Int} (hl : rInts.rd S w [v] ws) (wd : Int) : Gives Try.prog 7 #[v, .int .i64 wd] w fun r _ => r = .bool true := by
  obtain ⟨p, c, rfl, hc1, hc2⟩ := Rp.slice_val hl
  have hl : (Rp.slice rInt).rd (fun _ => True) w _ ws := Rp.any hl
  refine gives_of [.val (.slice p ws.length c), .val (.int .i64 wd)] 89 [.tmp 4] Try.func7 rfl rfl rfl (by simp) rfl rfl ?_
  refine W.pure (ds := []) rfl fun K1 hK1 => ?_
  simp only [sx, ty, Bool.false_eq_true, Int.reduceEq, Int.reduceLT, Nat.reduceAdd, Nat.reduceSub, Nat.reduceMul, Nat.reduceLT, Nat.reduceLeDiff, Nat.reduceEqDiff, List.reduceReplicate, reduceIte, beq_self_eq_true, bne_self_eq_false, Int.reduceBEq, Int.reduceBNe, Bool.or_false, Bool.false_or, Bool.not_false, Bool.not_true]; with_reducible refine hK1 _ ?_; clear hK1
  refine W.seqK fun K2 hK2 => W.region ?_
  refine WO.call (.bool true) (ds := []) rfl rfl rfl rfl co9 (fun ρ w1 hb => head_spec w1) ?_
  refine WO.go 1 (ds := []) rfl ?_
  simp only [sx, ty, Bool.false_eq_true, Int.reduceEq, Int.reduceLT, Nat.reduceAdd, Nat.reduceSub, Nat.reduceMul, Nat.reduceLT, Nat.reduceLeDiff, Nat.reduceEqDiff, List.reduceReplicate, reduceIte, beq_self_eq_true, bne_self_eq_false, Int.reduceBEq, Int.reduceBNe, Bool.or_false, Bool.false_or, Bool.not_false, Bool.not_true]
  with_reducible refine WO.nil ?_
  refine hK2 _ ?_; clear hK2
  refine W.seqK fun K3 hK3 => ?_
  refine W.seqK fun K4 hK4 => W.region ?_
  refine WO.go 1 (ds := []) rfl ?_
  simp only [sx, ty, Bool.false_eq_true, Int.reduceEq, Int.reduceLT, Nat.reduceAdd, Nat.reduceSub, Nat.reduceMul, Nat.reduceLT, Nat.reduceLeDiff, Nat.reduceEqDiff, List.reduceReplicate, reduceIte, beq_self_eq_true, bne_self_eq_false, Int.reduceBEq, Int.reduceBNe, Bool.or_false, Bool.false_or, Bool.not_false, Bool.not_true]
  refine WO.call (.bool (decide ((ws.length : Int) ≤ 60))) (ds := []) rfl rfl rfl rfl co10 (fun ρ w1 hb => few_w (Rp.now hl (hb.first (by simp)))) ?_
  refine WO.go 1 (ds := []) rfl ?_
  simp only [sx, ty, Bool.false_eq_true, Int.reduceEq, Int.reduceLT, Nat.reduceAdd, Nat.reduceSub, Nat.reduceMul, Nat.reduceLT, Nat.reduceLeDiff, Nat.reduceEqDiff, List.reduceReplicate, reduceIte, beq_self_eq_true, bne_self_eq_false, Int.reduceBEq, Int.reduceBNe, Bool.or_false, Bool.false_or, Bool.not_false, Bool.not_true]
  with_reducible refine WO.nil ?_
  refine hK4 _ ?_; clear hK4
  refine W.cond rfl rfl (fun hc => ?_) (fun hc => ?_)
  · skip
    refine W.pure (ds := []) rfl fun K5 hK5 => ?_
    simp only [sx, ty, Bool.false_eq_true, Int.reduceEq, Int.reduceLT, Nat.reduceAdd, Nat.reduceSub, Nat.reduceMul, Nat.reduceLT, Nat.reduceLeDiff, Nat.reduceEqDiff, List.reduceReplicate, reduceIte, beq_self_eq_true, bne_self_eq_false, Int.reduceBEq, Int.reduceBNe, Bool.or_false, Bool.false_or, Bool.not_false, Bool.not_true]; with_reducible refine hK5 _ ?_; clear hK5
    refine W.ret ⟨by simp, _, rfl, fun ρ w1 hb => ?_⟩
    rfl
  · skip
    have hn : ws.length ≤ 60 := by simp at hc; omega
    refine W.skip (hK3 _ ?_)
    refine W.seqK fun K6 hK6 => W.region ?_
    refine WO.go 2 (ds := []) rfl ?_
    simp only [sx, ty, Bool.false_eq_true, Int.reduceEq, Int.reduceLT, Nat.reduceAdd, Nat.reduceSub, Nat.reduceMul, Nat.reduceLT, Nat.reduceLeDiff, Nat.reduceEqDiff, List.reduceReplicate, reduceIte, beq_self_eq_true, bne_self_eq_false, Int.reduceBEq, Int.reduceBNe, Bool.or_false, Bool.false_or, Bool.not_false, Bool.not_true]
    refine WO.make (ds := []) rfl rfl rfl rfl rfl rfl ek23 (Nat.le_refl _) (by rw [maxLen_eq]; omega) (by omega) fun b0 => ?_
    rw [reps_false]
    refine WO.go 1 (ds := []) rfl ?_
    simp only [sx, ty, Bool.false_eq_true, Int.reduceEq, Int.reduceLT, Nat.reduceAdd, Nat.reduceSub, Nat.reduceMul, Nat.reduceLT, Nat.reduceLeDiff, Nat.reduceEqDiff, List.reduceReplicate, reduceIte, beq_self_eq_true, bne_self_eq_false, Int.reduceBEq, Int.reduceBNe, Bool.or_false, Bool.false_or, Bool.not_false, Bool.not_true]
    with_reducible refine WO.nil ?_
    refine hK6 _ ?_; clear hK6
    refine W.seqK fun K7 hK7 => ?_
    refine W.pure (ds := []) rfl fun K8 hK8 => ?_
    simp only [sx, ty, Bool.false_eq_true, Int.reduceEq, Int.reduceLT, Nat.reduceAdd, Nat.reduceSub, Nat.reduceMul, Nat.reduceLT, Nat.reduceLeDiff, Nat.reduceEqDiff, List.reduceReplicate, reduceIte, beq_self_eq_true, bne_self_eq_false, Int.reduceBEq, Int.reduceBNe, Bool.or_false, Bool.false_or, Bool.not_false, Bool.not_true]; with_reducible refine hK8 _ ?_; clear hK8
    refine W.block ?_
    refine W.loopO (X := Nat) [0, 1, 5, 6, 23] (fun x => [(24, .val (.int .i64 x))]) (fun x => [.slice 4 1 (.slice (some ⟨b0, 0, none⟩) ws.length ws.length) ws.length ((List.replicate x true ++ List.replicate (ws.length - x) false).map Value.bool)]) (fun x => [((fun _ => True), w)]) (fun x => x ≤ ws.length) (fun x => ws.length - x) 0 ?_ ?_ ?_
    · exact ⟨rfl, by simp [getE, bnd, keepE], ⟨[], by simp⟩, by simp [Own.bnd, bndL, bnd, boxO], by simp⟩
    · skip
      exact Nat.zero_le _
    · rintro i hi
      simp only [sx, ty, Bool.false_eq_true, Int.reduceEq, Int.reduceLT, Nat.reduceAdd, Nat.reduceSub, Nat.reduceMul, Nat.reduceLT, Nat.reduceLeDiff, Nat.reduceEqDiff, List.reduceReplicate, reduceIte, sxk, beq_self_eq_true, bne_self_eq_false, Int.reduceBEq, Int.reduceBNe, Bool.or_false, Bool.false_or, Bool.not_false, Bool.not_true]
      refine W.pure (ds := []) rfl fun K9 hK9 => ?_
      simp only [sx, ty, Bool.false_eq_true, Int.reduceEq, Int.reduceLT, Nat.reduceAdd, Nat.reduceSub, Nat.reduceMul, Nat.reduceLT, Nat.reduceLeDiff, Nat.reduceEqDiff, List.reduceReplicate, reduceIte, beq_self_eq_true, bne_self_eq_false, Int.reduceBEq, Int.reduceBNe, Bool.or_false, Bool.false_or, Bool.not_false, Bool.not_true]; with_reducible refine hK9 _ ?_; clear hK9
      refine W.seqK fun K10 hK10 => ?_
      refine W.cond rfl rfl (fun hc => ?_) (fun hc => ?_)
      · skip
        have hlt : i < ws.length := by simpa using hc
        refine W.skip (hK10 _ ?_)
        refine W.seqK fun K11 hK11 => ?_
        refine W.block ?_
        refine W.pure (ds := []) rfl fun K12 hK12 => ?_
        simp only [sx, ty, Bool.false_eq_true, Int.reduceEq, Int.reduceLT, Nat.reduceAdd, Nat.reduceSub, Nat.reduceMul, Nat.reduceLT, Nat.reduceLeDiff, Nat.reduceEqDiff, List.reduceReplicate, reduceIte, beq_self_eq_true, bne_self_eq_false, Int.reduceBEq, Int.reduceBNe, Bool.or_false, Bool.false_or, Bool.not_false, Bool.not_true]; with_reducible refine hK12 _ ?_; clear hK12
        refine W.region ?_
        refine WO.go 2 (ds := []) rfl ?_
        simp only [sx, ty, Bool.false_eq_true, Int.reduceEq, Int.reduceLT, Nat.reduceAdd, Nat.reduceSub, Nat.reduceMul, Nat.reduceLT, Nat.reduceLeDiff, Nat.reduceEqDiff, List.reduceReplicate, reduceIte, beq_self_eq_true, bne_self_eq_false, Int.reduceBEq, Int.reduceBNe, Bool.or_false, Bool.false_or, Bool.not_false, Bool.not_true]
        refine WO.index (ds := []) rfl rfl rfl rfl rfl rfl el23 (by omega) (by omega) ?_
        simp only [sx, ty, Bool.false_eq_true, Int.reduceEq, Int.reduceLT, Nat.reduceAdd, Nat.reduceSub, Nat.reduceMul, Nat.reduceLT, Nat.reduceLeDiff, Nat.reduceEqDiff, List.reduceReplicate, reduceIte, beq_self_eq_true, bne_self_eq_false, Int.reduceBEq, Int.reduceBNe, Bool.or_false, Bool.false_or, Bool.not_false, Bool.not_true]
        refine WO.storeOwn (k := 0) (i := i) (ds := []) rfl rfl rfl rfl rfl rfl rfl hlt rfl rfl sz4 ?_
        rw [reps_set hlt]
        simp only [sx, ty, Bool.false_eq_true, Int.reduceEq, Int.reduceLT, Nat.reduceAdd, Nat.reduceSub, Nat.reduceMul, Nat.reduceLT, Nat.reduceLeDiff, Nat.reduceEqDiff, List.reduceReplicate, reduceIte, beq_self_eq_true, bne_self_eq_false, Int.reduceBEq, Int.reduceBNe, Bool.or_false, Bool.false_or, Bool.not_false, Bool.not_true]
        with_reducible refine WO.nil ?_
        refine hK11 _ ?_
        refine W.region ?_
        refine WO.go 2 (ds := []) rfl ?_
        simp only [sx, ty, Bool.false_eq_true, Int.reduceEq, Int.reduceLT, Nat.reduceAdd, Nat.reduceSub, Nat.reduceMul, Nat.reduceLT, Nat.reduceLeDiff, Nat.reduceEqDiff, List.reduceReplicate, reduceIte, beq_self_eq_true, bne_self_eq_false, Int.reduceBEq, Int.reduceBNe, Bool.or_false, Bool.false_or, Bool.not_false, Bool.not_true]
        with_reducible refine WO.nil ?_
        refine ⟨i + 1, ?_, by first | omega | (simp; omega), rfl, by simp [getE, bnd, keepE, wrap_succ (show i + 1 ≤ 9223372036854775807 by omega)], ⟨_, rfl⟩, by simp [Own.bnd, bndL, bnd, boxO], by simp⟩
        exact hlt
      · skip
        obtain rfl : i = ws.length := Nat.le_antisymm hi (by simpa using hc)
        refine W.exit (hK7 _ ?_)
        refine W.seqK fun K13 hK13 => W.region ?_
        refine WO.go 3 (ds := []) rfl ?_
        simp only [sx, ty, Bool.false_eq_true, Int.reduceEq, Int.reduceLT, Nat.reduceAdd, Nat.reduceSub, Nat.reduceMul, Nat.reduceLT, Nat.reduceLeDiff, Nat.reduceEqDiff, List.reduceReplicate, reduceIte, beq_self_eq_true, bne_self_eq_false, Int.reduceBEq, Int.reduceBNe, Bool.or_false, Bool.false_or, Bool.not_false, Bool.not_true]
        refine WO.callM (fun x : Option Addr × Nat => .tuple #[.slice x.1 (bestF ws (List.replicate ws.length true ++ List.replicate (ws.length - ws.length) false) wd).1.length x.2, .int .i64 (bestF ws (List.replicate ws.length true ++ List.replicate (ws.length - ws.length) false) wd).2]) (fun lo x s9 => rPgs.rd (fun b => lo ≤ b) s9 [.slice x.1 (bestF ws (List.replicate ws.length true ++ List.replicate (ws.length - ws.length) false) wd).1.length x.2] (bestF ws (List.replicate ws.length true ++ List.replicate (ws.length - ws.length) false) wd).1) (ds := []) rfl rfl rfl rfl co11 (fun ρ w1 hb => best_call rfl (Rp.now hl (hb.first (by simp))) (own_slice (A := Rp.bool) (S := fun _ => True) (k := 0) (xs := ((List.replicate ws.length true ++ List.replicate (ws.length - ws.length) false).map Value.bool)) hb rfl (by simp) (fun _ _ => trivial) (bools_read _))) fun x lo hr1s hr1 => ?_
        obtain ⟨hr1p, hr1c⟩ := x
        simp only at hr1
        refine WO.go 5 (ds := []) rfl ?_
        simp only [sx, ty, Bool.false_eq_true, Int.reduceEq, Int.reduceLT, Nat.reduceAdd, Nat.reduceSub, Nat.reduceMul, Nat.reduceLT, Nat.reduceLeDiff, Nat.reduceEqDiff, List.reduceReplicate, reduceIte, beq_self_eq_true, bne_self_eq_false, Int.reduceBEq, Int.reduceBNe, Bool.or_false, Bool.false_or, Bool.not_false, Bool.not_true]
        with_reducible refine WO.nil ?_
        refine hK13 _ ?_; clear hK13
        refine W.seqK fun K14 hK14 => ?_
        refine W.pure (ds := []) rfl fun K15 hK15 => ?_
        simp only [sx, ty, Bool.false_eq_true, Int.reduceEq, Int.reduceLT, Nat.reduceAdd, Nat.reduceSub, Nat.reduceMul, Nat.reduceLT, Nat.reduceLeDiff, Nat.reduceEqDiff, List.reduceReplicate, reduceIte, beq_self_eq_true, bne_self_eq_false, Int.reduceBEq, Int.reduceBNe, Bool.or_false, Bool.false_or, Bool.not_false, Bool.not_true]; with_reducible refine hK15 _ ?_; clear hK15
        refine W.cond rfl rfl (fun hc => ?_) (fun hc => ?_)
        · skip
          have he : (bestF ws (List.replicate ws.length true ++ List.replicate (ws.length - ws.length) false) wd).2 ≠ 0 := by simpa using hc
          have hnil : (bestF ws (List.replicate ws.length true ++ List.replicate (ws.length - ws.length) false) wd).1 = [] := by
            rcases bestF_few (good := (List.replicate ws.length true ++ List.replicate (ws.length - ws.length) false)) (W := wd) hn with h | h
            · exact h.2
            · exact absurd h.1 he
          refine W.seqK fun K16 hK16 => W.region ?_
          refine WO.go 7 (ds := [some 40, some 41, some 42, some 43, some 44, some 45, some 4]) rfl ?_
          simp only [sx, ty, Bool.false_eq_true, Int.reduceEq, Int.reduceLT, Nat.reduceAdd, Nat.reduceSub, Nat.reduceMul, Nat.reduceLT, Nat.reduceLeDiff, Nat.reduceEqDiff, List.reduceReplicate, reduceIte, beq_self_eq_true, bne_self_eq_false, Int.reduceBEq, Int.reduceBNe, Bool.or_false, Bool.false_or, Bool.not_false, Bool.not_true]
          with_reducible refine WO.nil ?_
          refine hK16 _ ?_; clear hK16
          refine W.ret ⟨by simp, _, rfl, fun ρ w1 hb => ?_⟩
          simp only [den, hnil]; rfl
        · skip
          have hee : (bestF ws (List.replicate ws.length true ++ List.replicate (ws.length - ws.length) false) wd).2 = 0 := by simpa using hc
          have hokk : (List.replicate ws.length true ++ List.replicate (ws.length - ws.length) false).length = ws.length ∧ (1 ≤ wd ∧ wd ≤ 100000) ∧ ws.all (within 1 100000) = true ∧ (∀ x, x ∈ ws → x ≤ wd) ∧ (bestF ws (List.replicate ws.length true ++ List.replicate (ws.length - ws.length) false) wd).1 = path ws (List.replicate ws.length true ++ List.replicate (ws.length - ws.length) false) wd ws.length 0 0 := by
            rcases bestF_few (good := (List.replicate ws.length true ++ List.replicate (ws.length - ws.length) false)) (W := wd) hn with h | h
            · exact absurd hee h.1
            · exact h.2
          obtain ⟨hg, hWr, hv, hW, hpath⟩ := hokk
          refine W.skip (hK14 _ ?_)
          refine W.pure (ds := []) rfl fun K17 hK17 => ?_
          simp only [sx, ty, Bool.false_eq_true, Int.reduceEq, Int.reduceLT, Nat.reduceAdd, Nat.reduceSub, Nat.reduceMul, Nat.reduceLT, Nat.reduceLeDiff, Nat.reduceEqDiff, List.reduceReplicate, reduceIte, beq_self_eq_true, bne_self_eq_false, Int.reduceBEq, Int.reduceBNe, Bool.or_false, Bool.false_or, Bool.not_false, Bool.not_true]; with_reducible refine hK17 _ ?_; clear hK17
          refine W.seqK fun K18 hK18 => ?_
          refine W.pure (ds := []) rfl fun K19 hK19 => ?_
          simp only [sx, ty, Bool.false_eq_true, Int.reduceEq, Int.reduceLT, Nat.reduceAdd, Nat.reduceSub, Nat.reduceMul, Nat.reduceLT, Nat.reduceLeDiff, Nat.reduceEqDiff, List.reduceReplicate, reduceIte, beq_self_eq_true, bne_self_eq_false, Int.reduceBEq, Int.reduceBNe, Bool.or_false, Bool.false_or, Bool.not_false, Bool.not_true]; with_reducible refine hK19 _ ?_; clear hK19
          refine W.block ?_
          refine W.ownNil 36 2 ?_
          simp only [sx, ty, Bool.false_eq_true, Int.reduceEq, Int.reduceLT, Nat.reduceAdd, Nat.reduceSub, Nat.reduceMul, Nat.reduceLT, Nat.reduceLeDiff, Nat.reduceEqDiff, List.reduceReplicate, reduceIte]
          refine W.loopO (X := List Pg × Nat × Option Addr × Nat) [0, 1, 5, 8] (fun x => [(10, .val (.slice x.2.2.1 x.1.length x.2.2.2)), (11, .val (.int .i64 x.2.1))]) (fun x => [.slice 4 1 (.slice (some ⟨b0, 0, none⟩) ws.length ws.length) ws.length ((List.replicate ws.length true ++ List.replicate (ws.length - ws.length) false).map Value.bool), .slice 36 2 (.slice x.2.2.1 x.1.length x.2.2.2) x.1.length (pgsV x.1)]) (fun x => [((fun b => lo ≤ b), hr1s), ((fun _ => True), w)]) (fun x => x.2.1 ≤ ws.length ∧ x.1.length ≤ x.2.1 ∧ greedy ws wd ws.length 0 = x.1 ++ greedy ws wd (ws.length - x.2.1) x.2.1) (fun x => ws.length - x.2.1) ([], 0, none, 0) ?_ ?_ ?_
          · exact ⟨rfl, by simp [getE, bnd, keepE], ⟨[], by simp [pgsV]⟩, by simp [Own.bnd, bndL, bnd, boxO], by simp⟩
          · skip
            exact ⟨Nat.zero_le _, Nat.le_refl _, rfl⟩
          · rintro ⟨l, i, p3, c3⟩ ⟨hi, hll, hgr⟩
            simp only at hi hll hgr
            simp only [sx, ty, Bool.false_eq_true, Int.reduceEq, Int.reduceLT, Nat.reduceAdd, Nat.reduceSub, Nat.reduceMul, Nat.reduceLT, Nat.reduceLeDiff, Nat.reduceEqDiff, List.reduceReplicate, reduceIte, sxk, beq_self_eq_true, bne_self_eq_false, Int.reduceBEq, Int.reduceBNe, Bool.or_false, Bool.false_or, Bool.not_false, Bool.not_true]
            refine W.seqK fun K20 hK20 => ?_
            refine W.pure (ds := []) rfl fun K21 hK21 => ?_
            simp only [sx, ty, Bool.false_eq_true, Int.reduceEq, Int.reduceLT, Nat.reduceAdd, Nat.reduceSub, Nat.reduceMul, Nat.reduceLT, Nat.reduceLeDiff, Nat.reduceEqDiff, List.reduceReplicate, reduceIte, beq_self_eq_true, bne_self_eq_false, Int.reduceBEq, Int.reduceBNe, Bool.or_false, Bool.false_or, Bool.not_false, Bool.not_true]; with_reducible refine hK21 _ ?_; clear hK21
            refine W.cond rfl rfl (fun hc => ?_) (fun hc => ?_)
            · skip
              have hil : i < ws.length := by simpa using hc
              obtain ⟨sub, hsub⟩ : ∃ sub, sub = ws.drop i := ⟨_, rfl⟩
              have hsl : sub.length = ws.length - i := by rw [hsub]; simp
              have hsv : sub.all (within 1 100000) = true := by rw [hsub]; exact all_drop hv i
              have hfl := fitL_le wd sub
              have hfp : 0 < fitL wd sub := by rw [hsub]; exact fit_pos hv hW hil
              have hst := greedy_step (W := wd) hv hW hil
              rw [← hsub] at hst
              refine W.skip (hK20 _ ?_)
              refine W.block ?_
              refine W.pure (ds := []) rfl fun K22 hK22 => ?_
              simp only [sx, ty, Bool.false_eq_true, Int.reduceEq, Int.reduceLT, Nat.reduceAdd, Nat.reduceSub, Nat.reduceMul, Nat.reduceLT, Nat.reduceLeDiff, Nat.reduceEqDiff, List.reduceReplicate, reduceIte, beq_self_eq_true, bne_self_eq_false, Int.reduceBEq, Int.reduceBNe, Bool.or_false, Bool.false_or, Bool.not_false, Bool.not_true]; with_reducible refine hK22 _ ?_; clear hK22
              refine W.seqK fun K23 hK23 => ?_
              refine W.block ?_
              refine W.loopO (X := Nat) [0, 1, 5, 8, 10, 11] (fun x => [(12, .val (.int .i64 ((i + x : Nat) : Int))), (13, .val (.int .i64 (preS sub x)))]) (fun x => [.slice 4 1 (.slice (some ⟨b0, 0, none⟩) ws.length ws.length) ws.length ((List.replicate ws.length true ++ List.replicate (ws.length - ws.length) false).map Value.bool), .slice 36 2 (.slice p3 l.length c3) l.length (pgsV l)]) (fun x => [((fun b => lo ≤ b), hr1s), ((fun _ => True), w)]) (fun x => x ≤ fitL wd sub) (fun x => ws.length - (i + x)) 0 ?_ ?_ ?_
              · exact ⟨rfl, by simp [getE, bnd, keepE, preS], ⟨[], by simp⟩, by simp [Own.bnd, bndL, bnd, boxO], by simp⟩
              · skip
                exact Nat.zero_le _
              · rintro m hm
                have hfi : m < sub.length → (preS sub m + ws.getD (i + m) 0 ≤ wd ↔ m < fitL wd sub) := fun h => by
                  rw [fitL_lt wd sub hsv m h, preS, hsub]; simp [List.getD_eq_getElem?_getD]
                have hge : i + m < ws.length → ws[i + m]? = some (ws.getD (i + m) 0) := fun h => by rw [List.getD_eq_getElem?_getD, List.getElem?_eq_getElem h]; rfl
                have hmm := preS_mono hsv m (Nat.zero_le m) (by omega)
                have hz : preS sub 0 = 0 := rfl
                have hwk : i + m < ws.length → 1 ≤ ws.getD (i + m) 0 ∧ ws.getD (i + m) 0 ≤ 100000 := fun h => by
                  have := width_at hv h
                  rwa [List.getD_eq_getElem?_getD, List.getElem?_eq_getElem h]
                have hwp : i + m < ws.length → IntKind.i64.wrap (preS sub m + ws.getD (i + m) 0) = preS sub m + ws.getD (i + m) 0 := fun h => by have := hwk h; exact wrap_id (by omega) (by omega)
                simp only [sx, ty, Bool.false_eq_true, Int.reduceEq, Int.reduceLT, Nat.reduceAdd, Nat.reduceSub, Nat.reduceMul, Nat.reduceLT, Nat.reduceLeDiff, Nat.reduceEqDiff, List.reduceReplicate, reduceIte, sxk, beq_self_eq_true, bne_self_eq_false, Int.reduceBEq, Int.reduceBNe, Bool.or_false, Bool.false_or, Bool.not_false, Bool.not_true]
                refine W.seqK fun K24 hK24 => ?_
                refine W.join 64 (.val (.bool (decide (m < fitL wd sub)))) [0, 1, 5, 8, 10, 11, 12, 13] (W.region ?_) ?_
                · skip
                  refine WO.go 5 (ds := [some 51, some 52, some 53, some 54, some 55, some 56, some 57, some 58, some 59, some 60, some 61, some 62, some 63, some 64]) rfl ?_
                  simp only [sx, ty, Bool.false_eq_true, Int.reduceEq, Int.reduceLT, Nat.reduceAdd, Nat.reduceSub, Nat.reduceMul, Nat.reduceLT, Nat.reduceLeDiff, Nat.reduceEqDiff, List.reduceReplicate, reduceIte, beq_self_eq_true, bne_self_eq_false, Int.reduceBEq, Int.reduceBNe, Bool.or_false, Bool.false_or, Bool.not_false, Bool.not_true]
                  refine WO.cases 55 _ rfl (fun hg55 => ?_) (fun hg55 => ?_)
                  · skip
                    refine WO.go 3 (ds := [some 51, some 52, some 53, some 54, some 55, some 56, some 57, some 58, some 59, some 60, some 61, some 62, some 63, some 64]) rfl ?_
                    simp only [sx, ty, Bool.false_eq_true, Int.reduceEq, Int.reduceLT, Nat.reduceAdd, Nat.reduceSub, Nat.reduceMul, Nat.reduceLT, Nat.reduceLeDiff, Nat.reduceEqDiff, List.reduceReplicate, reduceIte, beq_self_eq_true, bne_self_eq_false, Int.reduceBEq, Int.reduceBNe, Bool.or_false, Bool.false_or, Bool.not_false, Bool.not_true]
                    refine WO.elem (y := (ws.getD (i + m) 0)) hl (by simp [St.put]) (ds := [some 51, some 52, some 53, some 54, some 55, some 56, some 57, some 58, some 59, some 60, some 61, some 62, some 63, some 64]) rfl rfl rfl (by simp [St.put]) (fun _ => rfl) rfl rfl rfl rfl rfl el22 agg3 sz3 (.inr rfl) (by omega) (hge (by simp at hg55; omega)) fun p ces hces => ?_
                    obtain rfl := rInt_open hces
                    clear hces
                    refine WO.go 4 (ds := [some 51, some 52, some 53, some 54, some 55, some 56, some 57, some 58, some 59, some 60, some 61, some 62, some 63, some 64]) rfl ?_
                    simp only [sx, ty, Bool.false_eq_true, Int.reduceEq, Int.reduceLT, Nat.reduceAdd, Nat.reduceSub, Nat.reduceMul, Nat.reduceLT, Nat.reduceLeDiff, Nat.reduceEqDiff, List.reduceReplicate, reduceIte, beq_self_eq_true, bne_self_eq_false, Int.reduceBEq, Int.reduceBNe, Bool.or_false, Bool.false_or, Bool.not_false, Bool.not_true]
                    with_reducible refine WO.nil ?_
                    refine ⟨rfl, ?_, ⟨_, rfl⟩, by simp [Own.bnd, bndL, bnd, boxO], by simp⟩
                    try rw [hg55]
                    simp [getE, bnd, keepE]
                    simp at hg55
                    rcases Nat.lt_or_ge (i + m) ws.length with h8 | h8
                    · have h9 := hfi (by omega)
                      have h7 := hwp h8
                      simp only [List.getD_eq_getElem?_getD] at h9 h7
                      first | (rw [h7]; exact h9) | omega
                    · omega
                  · skip
                    refine WO.go 9 (ds := [some 51, some 52, some 53, some 54, some 55, some 56, some 57, some 58, some 59, some 60, some 61, some 62, some 63, some 64]) rfl ?_
                    simp only [sx, ty, Bool.false_eq_true, Int.reduceEq, Int.reduceLT, Nat.reduceAdd, Nat.reduceSub, Nat.reduceMul, Nat.reduceLT, Nat.reduceLeDiff, Nat.reduceEqDiff, List.reduceReplicate, reduceIte, beq_self_eq_true, bne_self_eq_false, Int.reduceBEq, Int.reduceBNe, Bool.or_false, Bool.false_or, Bool.not_false, Bool.not_true]
                    with_reducible refine WO.nil ?_
                    refine ⟨rfl, ?_, ⟨_, rfl⟩, by simp [Own.bnd, bndL, bnd, boxO], by simp⟩
                    try rw [hg55]
                    simp [getE, bnd, keepE]
                    simp at hg55
                    rcases Nat.lt_or_ge (i + m) ws.length with h8 | h8
                    · have h9 := hfi (by omega)
                      have h7 := hwp h8
                      simp only [List.getD_eq_getElem?_getD] at h9 h7
                      first | (rw [h7]; exact h9) | omega
                    · omega
                · simp only [sx, ty, Bool.false_eq_true, Int.reduceEq, Int.reduceLT, Nat.reduceAdd, Nat.reduceSub, Nat.reduceMul, Nat.reduceLT, Nat.reduceLeDiff, Nat.reduceEqDiff, List.reduceReplicate, reduceIte, sxk, beq_self_eq_true, bne_self_eq_false, Int.reduceBEq, Int.reduceBNe, Bool.or_false, Bool.false_or, Bool.not_false, Bool.not_true]
                  refine W.cond rfl rfl (fun hc => ?_) (fun hc => ?_)
                  · skip
                    have hfit : m < fitL wd sub := by simpa using hc
                    have hlt : i + m < ws.length := by omega
                    refine W.skip (hK24 _ ?_)
                    refine W.block ?_
                    refine W.seqK fun K26 hK26 => W.region ?_
                    refine WO.go 3 (ds := []) rfl ?_
                    simp only [sx, ty, Bool.false_eq_true, Int.reduceEq, Int.reduceLT, Nat.reduceAdd, Nat.reduceSub, Nat.reduceMul, Nat.reduceLT, Nat.reduceLeDiff, Nat.reduceEqDiff, List.reduceReplicate, reduceIte, beq_self_eq_true, bne_self_eq_false, Int.reduceBEq, Int.reduceBNe, Bool.or_false, Bool.false_or, Bool.not_false, Bool.not_true]
                    refine WO.elem (y := (ws.getD (i + m) 0)) hl (by simp [St.put]) (ds := []) rfl rfl rfl (by simp [St.put]) (fun _ => rfl) rfl rfl rfl rfl rfl el22 agg3 sz3 (.inr rfl) (by omega) (hge hlt) fun p ces hces => ?_
                    obtain rfl := rInt_open hces
                    clear hces
                    have hwp5 : IntKind.i64.wrap ((i : Int) + m + 1) = (i : Int) + m + 1 := wrap_id (by omega) (by omega)
                    have hwp6 : IntKind.i64.wrap (preS (ws.drop i) m + ws[i + m]?.getD 0) = preS (ws.drop i) m + ws[i + m]?.getD 0 := by have := hwp hlt; rw [List.getD_eq_getElem?_getD, hsub] at this; exact this
                    refine WO.go 2 (ds := []) rfl ?_
                    simp only [sx, ty, Bool.false_eq_true, Int.reduceEq, Int.reduceLT, Nat.reduceAdd, Nat.reduceSub, Nat.reduceMul, Nat.reduceLT, Nat.reduceLeDiff, Nat.reduceEqDiff, List.reduceReplicate, reduceIte, beq_self_eq_true, bne_self_eq_false, Int.reduceBEq, Int.reduceBNe, Bool.or_false, Bool.false_or, Bool.not_false, Bool.not_true]
                    with_reducible refine WO.nil ?_
                    refine hK26 _ ?_; clear hK26
                    refine W.region ?_
                    refine WO.go 3 (ds := []) rfl ?_
                    simp only [sx, ty, Bool.false_eq_true, Int.reduceEq, Int.reduceLT, Nat.reduceAdd, Nat.reduceSub, Nat.reduceMul, Nat.reduceLT, Nat.reduceLeDiff, Nat.reduceEqDiff, List.reduceReplicate, reduceIte, beq_self_eq_true, bne_self_eq_false, Int.reduceBEq, Int.reduceBNe, Bool.or_false, Bool.false_or, Bool.not_false, Bool.not_true]
                    with_reducible refine WO.nil ?_
                    refine ⟨m + 1, ?_, by omega, rfl, by simp [getE, bnd, keepE, hwp5, hwp6, preS, hsub, wrap_succ (show (i + m) + 1 ≤ 9223372036854775807 by omega), show i + (m + 1) = i + m + 1 from rfl], ⟨_, rfl⟩, by simp [Own.bnd, bndL, bnd, boxO], by simp⟩
                    exact hfit
                  · skip
                    have hfe : m = fitL wd sub := by simp at hc; omega
                    refine W.exit (hK23 _ ?_)
                    refine W.seqK fun K27 hK27 => ?_
                    refine W.pure (ds := []) rfl fun K28 hK28 => ?_
                    simp only [sx, ty, Bool.false_eq_true, Int.reduceEq, Int.reduceLT, Nat.reduceAdd, Nat.reduceSub, Nat.reduceMul, Nat.reduceLT, Nat.reduceLeDiff, Nat.reduceEqDiff, List.reduceReplicate, reduceIte, beq_self_eq_true, bne_self_eq_false, Int.reduceBEq, Int.reduceBNe, Bool.or_false, Bool.false_or, Bool.not_false, Bool.not_true]; with_reducible refine hK28 _ ?_; clear hK28
                    refine W.cond rfl rfl (fun hc => ?_) (fun hc => ?_)
                    · skip
                      simp at hc; omega
                    · skip
                      refine W.skip (hK27 _ ?_)
                      refine W.region ?_
                      refine WO.go 5 (ds := []) rfl ?_
                      simp only [sx, ty, Bool.false_eq_true, Int.reduceEq, Int.reduceLT, Nat.reduceAdd, Nat.reduceSub, Nat.reduceMul, Nat.reduceLT, Nat.reduceLeDiff, Nat.reduceEqDiff, List.reduceReplicate, reduceIte, beq_self_eq_true, bne_self_eq_false, Int.reduceBEq, Int.reduceBNe, Bool.or_false, Bool.false_or, Bool.not_false, Bool.not_true]
                      refine WO.append (k := 1) (m := 1) [.int .i64 i, .int .i64 ((i + m : Nat) : Int)] (ds := []) rfl rfl rfl rfl rfl rfl rfl ek24 (news_own (k2 := 2) rfl fun _ => rfl) rfl (by simp [Value.oneCell']) (by rw [maxLen_eq]; omega) (by omega) fun p6 c6 => ?_
                      refine WO.go 3 (ds := []) rfl ?_
                      simp only [sx, ty, Bool.false_eq_true, Int.reduceEq, Int.reduceLT, Nat.reduceAdd, Nat.reduceSub, Nat.reduceMul, Nat.reduceLT, Nat.reduceLeDiff, Nat.reduceEqDiff, List.reduceReplicate, reduceIte, beq_self_eq_true, bne_self_eq_false, Int.reduceBEq, Int.reduceBNe, Bool.or_false, Bool.false_or, Bool.not_false, Bool.not_true]
                      with_reducible refine WO.nil ?_
                      refine ⟨(l ++ [((i : Int), ((i + m : Nat) : Int))], i + m, p6, c6), ⟨by simp only; omega, by simp; omega, ?_⟩, by simp only; omega, rfl, by simp [getE, bnd, keepE], ⟨_, by simp only [pgsV_app, List.length_append]; rfl⟩, by simp [Own.bnd, bndL, bnd], by simp⟩
                      simp only
                      rw [hgr, hst, List.append_assoc, hfe]; rfl
            · skip
              obtain rfl : i = ws.length := Nat.le_antisymm hi (by simpa using hc)
              have hall : l = (path ws (List.replicate ws.length true ++ List.replicate (ws.length - ws.length) false) wd ws.length 0 0) := by
                rw [path_greedy hv hW fun j => by rw [Nat.sub_self, List.replicate_zero, List.append_nil]; exact true_getD _ _, hgr, Nat.sub_self]; simp [greedy]
              refine W.exit (hK18 _ ?_)
              refine W.seqK fun K29 hK29 => W.region ?_
              refine WO.go 4 (ds := [some 83, some 84, some 85, some 86, some 87, some 88, some 4]) rfl ?_
              simp only [sx, ty, Bool.false_eq_true, Int.reduceEq, Int.reduceLT, Nat.reduceAdd, Nat.reduceSub, Nat.reduceMul, Nat.reduceLT, Nat.reduceLeDiff, Nat.reduceEqDiff, List.reduceReplicate, reduceIte, beq_self_eq_true, bne_self_eq_false, Int.reduceBEq, Int.reduceBNe, Bool.or_false, Bool.false_or, Bool.not_false, Bool.not_true]
              refine WO.call (.bool true) (ds := [some 83, some 84, some 85, some 86, some 87, some 88, some 4]) rfl rfl rfl rfl co13 (fun ρ w1 hb => same_call (a := (path ws (List.replicate ws.length true ++ List.replicate (ws.length - ws.length) false) wd ws.length 0 0)) (by have h9 := Rp.keep hr1 (hb.at (S := fun b => lo ≤ b) (s := hr1s) (by simp)); rw [hpath] at h9; show rPgs.rd _ w1 [.slice hr1p (bestF ws (List.replicate ws.length true ++ List.replicate (ws.length - ws.length) false) wd).1.length hr1c] _; rw [hpath]; exact h9) (by have h9 := own_slice (A := rPg) (S := fun _ => True) (k := 1) (xs := pgsV l) hb rfl rfl (fun _ _ => trivial) (pgs_read l); rwa [← hall])) ?_
              refine WO.go 2 (ds := [some 83, some 84, some 85, some 86, some 87, some 88, some 4]) rfl ?_
              simp only [sx, ty, Bool.false_eq_true, Int.reduceEq, Int.reduceLT, Nat.reduceAdd, Nat.reduceSub, Nat.reduceMul, Nat.reduceLT, Nat.reduceLeDiff, Nat.reduceEqDiff, List.reduceReplicate, reduceIte, beq_self_eq_true, bne_self_eq_false, Int.reduceBEq, Int.reduceBNe, Bool.or_false, Bool.false_or, Bool.not_false, Bool.not_true]
              with_reducible refine WO.nil ?_
              refine hK29 _ ?_; clear hK29
              refine W.ret ⟨by simp, _, rfl, fun ρ w1 hb => ?_⟩
              rfl
end Go.Proofs.Ytpggkomalbbofaa
