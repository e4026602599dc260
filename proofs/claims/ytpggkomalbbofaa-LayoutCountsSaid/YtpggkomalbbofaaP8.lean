/-
  Layout: the table of the reference: the walk.
-/
import Derived.Test.YtpggkomalbbofaaPlainF
set_option linter.unusedVariables false
set_option linter.unusedSimpArgs false
set_option maxHeartbeats 2000000
namespace Go.Proofs.Ytpggkomalbbofaa
open Go Go.SX Go.RowKit
/-- function 26 -/
theorem table_spec {S S2 : Nat → Prop} {w : World} {v u : Value} {ws : List Int} {good : List Bool} (hl : rInts.rd S w [v] ws) (hl2 : rBools.rd S2 w [u] good) (wd : Int) (hg : good.length = ws.length) (hv : ws.all (within 1 100000) = true) (hn : ws.length ≤ 4000) (hWr : 1 ≤ wd ∧ wd ≤ 100000) (hW : ∀ x, x ∈ ws → x ≤ wd) : Gives Try.prog 26 #[v, u, .int .i64 wd] w fun r w' =>
    ∃ x : Nat × Nat, r = .agg #[.slice (some ⟨x.1, 0, none⟩) (ws.length + 1) (ws.length + 1), .slice (some ⟨x.2, 0, none⟩) (ws.length + 1) (ws.length + 1)] ∧ rCells.rd (fun b => w.heap.size ≤ b) w' [.slice (some ⟨x.1, 0, none⟩) (ws.length + 1) (ws.length + 1)] (tabL ws good wd 0) ∧ rCells.rd (fun b => w.heap.size ≤ b) w' [.slice (some ⟨x.2, 0, none⟩) (ws.length + 1) (ws.length + 1)] (tabL ws good wd 1) := by
  obtain ⟨p, c, rfl, hc1, hc2⟩ := Rp.slice_val hl
  obtain ⟨p2, c2, rfl, hc3, hc4⟩ := Rp.slice_val hl2
  have hl : (Rp.slice rInt).rd (fun _ => True) w _ ws := Rp.any hl
  have hl2 : (Rp.slice Rp.bool).rd (fun _ => True) w _ good := Rp.any hl2
  have hw1 := wrap_succ (i := ws.length) (by omega)
  have hw2 : IntKind.i64.wrap ((ws.length : Int) - 1) = (ws.length : Int) - 1 := wrap_id (by omega) (by omega)
  refine gives_of [.val (.slice p ws.length c), .val (.slice p2 good.length c2), .val (.int .i64 wd)] 108 [.cell 6 54] Try.func26 rfl rfl rfl (by simp) rfl rfl ?_
  refine W.pure (ds := []) rfl fun K1 hK1 => ?_
  simp only [sx, ty, Bool.false_eq_true, Int.reduceEq, Int.reduceLT, Nat.reduceAdd, Nat.reduceSub, Nat.reduceMul, Nat.reduceLT, Nat.reduceLeDiff, Nat.reduceEqDiff, List.reduceReplicate, reduceIte, beq_self_eq_true, bne_self_eq_false, Int.reduceBEq, Int.reduceBNe, Bool.or_false, Bool.false_or, Bool.not_false, Bool.not_true, Int.reduceToNat, Nat.zero_mul, Nat.zero_add, Nat.one_mul, Nat.mul_one, Int.toNat_natCast, hw1, hw2]; with_reducible refine hK1 _ ?_; clear hK1
  refine W.pure (ds := []) rfl fun K2 hK2 => ?_
  simp only [sx, ty, Bool.false_eq_true, Int.reduceEq, Int.reduceLT, Nat.reduceAdd, Nat.reduceSub, Nat.reduceMul, Nat.reduceLT, Nat.reduceLeDiff, Nat.reduceEqDiff, List.reduceReplicate, reduceIte, beq_self_eq_true, bne_self_eq_false, Int.reduceBEq, Int.reduceBNe, Bool.or_false, Bool.false_or, Bool.not_false, Bool.not_true, Int.reduceToNat, Nat.zero_mul, Nat.zero_add, Nat.one_mul, Nat.mul_one, Int.toNat_natCast, hw1, hw2]; with_reducible refine hK2 _ ?_; clear hK2
  refine W.pure (ds := []) rfl fun K3 hK3 => ?_
  simp only [sx, ty, Bool.false_eq_true, Int.reduceEq, Int.reduceLT, Nat.reduceAdd, Nat.reduceSub, Nat.reduceMul, Nat.reduceLT, Nat.reduceLeDiff, Nat.reduceEqDiff, List.reduceReplicate, reduceIte, beq_self_eq_true, bne_self_eq_false, Int.reduceBEq, Int.reduceBNe, Bool.or_false, Bool.false_or, Bool.not_false, Bool.not_true, Int.reduceToNat, Nat.zero_mul, Nat.zero_add, Nat.one_mul, Nat.mul_one, Int.toNat_natCast, hw1, hw2]; with_reducible refine hK3 _ ?_; clear hK3
  refine W.seqK fun K4 hK4 => W.region ?_
  refine WO.go 2 (ds := []) rfl ?_
  simp only [sx, ty, Bool.false_eq_true, Int.reduceEq, Int.reduceLT, Nat.reduceAdd, Nat.reduceSub, Nat.reduceMul, Nat.reduceLT, Nat.reduceLeDiff, Nat.reduceEqDiff, List.reduceReplicate, reduceIte, beq_self_eq_true, bne_self_eq_false, Int.reduceBEq, Int.reduceBNe, Bool.or_false, Bool.false_or, Bool.not_false, Bool.not_true, Int.reduceToNat, Nat.zero_mul, Nat.zero_add, Nat.one_mul, Nat.mul_one, Int.toNat_natCast, hw1, hw2]
  refine WO.make (ds := []) rfl rfl rfl rfl rfl rfl ek53 (Nat.le_refl _) (by rw [maxLen_eq]; omega) (by omega) fun b0 => ?_
  rw [rowR_zero ws good wd 0]
  simp only [sx, ty, Bool.false_eq_true, Int.reduceEq, Int.reduceLT, Nat.reduceAdd, Nat.reduceSub, Nat.reduceMul, Nat.reduceLT, Nat.reduceLeDiff, Nat.reduceEqDiff, List.reduceReplicate, reduceIte, beq_self_eq_true, bne_self_eq_false, Int.reduceBEq, Int.reduceBNe, Bool.or_false, Bool.false_or, Bool.not_false, Bool.not_true, Int.reduceToNat, Nat.zero_mul, Nat.zero_add, Nat.one_mul, Nat.mul_one, Int.toNat_natCast, hw1, hw2]
  refine WO.q (ds := []) rfl rfl rfl (QR.arr rfl rfl rfl ar54 (by omega) (by omega)) ?_
  simp only [sx, ty, Bool.false_eq_true, Int.reduceEq, Int.reduceLT, Nat.reduceAdd, Nat.reduceSub, Nat.reduceMul, Nat.reduceLT, Nat.reduceLeDiff, Nat.reduceEqDiff, List.reduceReplicate, reduceIte, beq_self_eq_true, bne_self_eq_false, Int.reduceBEq, Int.reduceBNe, Bool.or_false, Bool.false_or, Bool.not_false, Bool.not_true, Int.reduceToNat, Nat.zero_mul, Nat.zero_add, Nat.one_mul, Nat.mul_one, Int.toNat_natCast, hw1, hw2]
  refine WO.go 1 (ds := []) rfl ?_
  simp only [sx, ty, Bool.false_eq_true, Int.reduceEq, Int.reduceLT, Nat.reduceAdd, Nat.reduceSub, Nat.reduceMul, Nat.reduceLT, Nat.reduceLeDiff, Nat.reduceEqDiff, List.reduceReplicate, reduceIte, beq_self_eq_true, bne_self_eq_false, Int.reduceBEq, Int.reduceBNe, Bool.or_false, Bool.false_or, Bool.not_false, Bool.not_true, Int.reduceToNat, Nat.zero_mul, Nat.zero_add, Nat.one_mul, Nat.mul_one, Int.toNat_natCast, hw1, hw2]
  with_reducible refine WO.nil ?_
  refine hK4 _ ?_; clear hK4
  refine W.seqK fun K5 hK5 => W.region ?_
  refine WO.go 2 (ds := []) rfl ?_
  simp only [sx, ty, Bool.false_eq_true, Int.reduceEq, Int.reduceLT, Nat.reduceAdd, Nat.reduceSub, Nat.reduceMul, Nat.reduceLT, Nat.reduceLeDiff, Nat.reduceEqDiff, List.reduceReplicate, reduceIte, beq_self_eq_true, bne_self_eq_false, Int.reduceBEq, Int.reduceBNe, Bool.or_false, Bool.false_or, Bool.not_false, Bool.not_true, Int.reduceToNat, Nat.zero_mul, Nat.zero_add, Nat.one_mul, Nat.mul_one, Int.toNat_natCast, hw1, hw2]
  refine WO.make (ds := []) rfl rfl rfl rfl rfl rfl ek53 (Nat.le_refl _) (by rw [maxLen_eq]; omega) (by omega) fun b1 => ?_
  rw [rowR_zero ws good wd 1]
  simp only [sx, ty, Bool.false_eq_true, Int.reduceEq, Int.reduceLT, Nat.reduceAdd, Nat.reduceSub, Nat.reduceMul, Nat.reduceLT, Nat.reduceLeDiff, Nat.reduceEqDiff, List.reduceReplicate, reduceIte, beq_self_eq_true, bne_self_eq_false, Int.reduceBEq, Int.reduceBNe, Bool.or_false, Bool.false_or, Bool.not_false, Bool.not_true, Int.reduceToNat, Nat.zero_mul, Nat.zero_add, Nat.one_mul, Nat.mul_one, Int.toNat_natCast, hw1, hw2]
  refine WO.q (ds := []) rfl rfl rfl (QR.arr rfl rfl rfl ar54 (by omega) (by omega)) ?_
  simp only [sx, ty, Bool.false_eq_true, Int.reduceEq, Int.reduceLT, Nat.reduceAdd, Nat.reduceSub, Nat.reduceMul, Nat.reduceLT, Nat.reduceLeDiff, Nat.reduceEqDiff, List.reduceReplicate, reduceIte, beq_self_eq_true, bne_self_eq_false, Int.reduceBEq, Int.reduceBNe, Bool.or_false, Bool.false_or, Bool.not_false, Bool.not_true, Int.reduceToNat, Nat.zero_mul, Nat.zero_add, Nat.one_mul, Nat.mul_one, Int.toNat_natCast, hw1, hw2]
  refine WO.go 1 (ds := []) rfl ?_
  simp only [sx, ty, Bool.false_eq_true, Int.reduceEq, Int.reduceLT, Nat.reduceAdd, Nat.reduceSub, Nat.reduceMul, Nat.reduceLT, Nat.reduceLeDiff, Nat.reduceEqDiff, List.reduceReplicate, reduceIte, beq_self_eq_true, bne_self_eq_false, Int.reduceBEq, Int.reduceBNe, Bool.or_false, Bool.false_or, Bool.not_false, Bool.not_true, Int.reduceToNat, Nat.zero_mul, Nat.zero_add, Nat.one_mul, Nat.mul_one, Int.toNat_natCast, hw1, hw2]
  with_reducible refine WO.nil ?_
  refine hK5 _ ?_; clear hK5
  refine W.seqK fun K6 hK6 => ?_
  refine W.pure (ds := []) rfl fun K7 hK7 => ?_
  simp only [sx, ty, Bool.false_eq_true, Int.reduceEq, Int.reduceLT, Nat.reduceAdd, Nat.reduceSub, Nat.reduceMul, Nat.reduceLT, Nat.reduceLeDiff, Nat.reduceEqDiff, List.reduceReplicate, reduceIte, beq_self_eq_true, bne_self_eq_false, Int.reduceBEq, Int.reduceBNe, Bool.or_false, Bool.false_or, Bool.not_false, Bool.not_true, Int.reduceToNat, Nat.zero_mul, Nat.zero_add, Nat.one_mul, Nat.mul_one, Int.toNat_natCast, hw1, hw2]; with_reducible refine hK7 _ ?_; clear hK7
  refine W.block ?_
  obtain ⟨bs, rfl, rfl⟩ : ∃ bs : Nat → Nat, bs 0 = b0 ∧ bs 1 = b1 := ⟨fun r => if r = 0 then b0 else b1, rfl, rfl⟩
  refine W.loopO (X := Nat) [0, 1, 2, 6, 7, 8] (fun x => [(9, .val (.int .i64 ((x : Int) - 1)))]) (fun x => [.cells 54 [.val (.slice none 0 0), .val (.slice none 0 0)], .cells 54 [.val (.slice (some ⟨(bs 0), 0, none⟩) (ws.length + 1) (ws.length + 1)), .val (.slice (some ⟨(bs 1), 0, none⟩) (ws.length + 1) (ws.length + 1))], .slice 57 3 (.slice (some ⟨(bs 0), 0, none⟩) (ws.length + 1) (ws.length + 1)) (ws.length + 1) (rowR ws good wd x 0 0), .slice 57 3 (.slice (some ⟨(bs 1), 0, none⟩) (ws.length + 1) (ws.length + 1)) (ws.length + 1) (rowR ws good wd x 0 1)]) (fun x => [((fun _ => True), w)]) (fun x => x ≤ ws.length) (fun x => x) ws.length ?_ ?_ ?_
  · exact ⟨rfl, by simp [getE, bnd, keepE], ⟨[], by simp⟩, by simp [Own.bnd, bndL, bnd, boxO], by simp⟩
  · skip
    exact Nat.le_refl _
  · rintro i0 hi0
    simp only [sx, ty, Bool.false_eq_true, Int.reduceEq, Int.reduceLT, Nat.reduceAdd, Nat.reduceSub, Nat.reduceMul, Nat.reduceLT, Nat.reduceLeDiff, Nat.reduceEqDiff, List.reduceReplicate, reduceIte, sxk, beq_self_eq_true, bne_self_eq_false, Int.reduceBEq, Int.reduceBNe, Bool.or_false, Bool.false_or, Bool.not_false, Bool.not_true, Int.reduceToNat, Nat.zero_mul, Nat.zero_add, Nat.one_mul, Nat.mul_one, Int.toNat_natCast, hw1, hw2]
    refine W.seqK fun K8 hK8 => ?_
    refine W.pure (ds := []) rfl fun K9 hK9 => ?_
    simp only [sx, ty, Bool.false_eq_true, Int.reduceEq, Int.reduceLT, Nat.reduceAdd, Nat.reduceSub, Nat.reduceMul, Nat.reduceLT, Nat.reduceLeDiff, Nat.reduceEqDiff, List.reduceReplicate, reduceIte, beq_self_eq_true, bne_self_eq_false, Int.reduceBEq, Int.reduceBNe, Bool.or_false, Bool.false_or, Bool.not_false, Bool.not_true, Int.reduceToNat, Nat.zero_mul, Nat.zero_add, Nat.one_mul, Nat.mul_one, Int.toNat_natCast, hw1, hw2]; with_reducible refine hK9 _ ?_; clear hK9
    refine W.cond rfl rfl (fun hc => ?_) (fun hc => ?_)
    · skip
      obtain ⟨i, rfl⟩ : ∃ i, i0 = i + 1 := ⟨i0 - 1, by simp at hc; omega⟩
      have hil : i < ws.length := by omega
      simp only [show ((i + 1 : Nat) : Int) - 1 = (i : Int) by omega]
      refine W.skip (hK8 _ ?_)
      refine W.seqK fun K10 hK10 => ?_
      refine W.block ?_
      refine W.pure (ds := []) rfl fun K11 hK11 => ?_
      simp only [sx, ty, Bool.false_eq_true, Int.reduceEq, Int.reduceLT, Nat.reduceAdd, Nat.reduceSub, Nat.reduceMul, Nat.reduceLT, Nat.reduceLeDiff, Nat.reduceEqDiff, List.reduceReplicate, reduceIte, beq_self_eq_true, bne_self_eq_false, Int.reduceBEq, Int.reduceBNe, Bool.or_false, Bool.false_or, Bool.not_false, Bool.not_true, Int.reduceToNat, Nat.zero_mul, Nat.zero_add, Nat.one_mul, Nat.mul_one, Int.toNat_natCast, hw1, hw2]; with_reducible refine hK11 _ ?_; clear hK11
      refine W.block ?_
      refine W.loopO (X := Nat) [0, 1, 2, 6, 7, 8, 9] (fun x => [(10, .val (.int .i64 x))]) (fun x => [.cells 54 [.val (.slice none 0 0), .val (.slice none 0 0)], .cells 54 [.val (.slice (some ⟨(bs 0), 0, none⟩) (ws.length + 1) (ws.length + 1)), .val (.slice (some ⟨(bs 1), 0, none⟩) (ws.length + 1) (ws.length + 1))], .slice 57 3 (.slice (some ⟨(bs 0), 0, none⟩) (ws.length + 1) (ws.length + 1)) (ws.length + 1) (rowR ws good wd (i + 1) x 0), .slice 57 3 (.slice (some ⟨(bs 1), 0, none⟩) (ws.length + 1) (ws.length + 1)) (ws.length + 1) (rowR ws good wd (i + 1) x 1)]) (fun x => [((fun _ => True), w)]) (fun x => x ≤ 2) (fun x => 2 - x) 0 ?_ ?_ ?_
      · exact ⟨rfl, by simp [getE, bnd, keepE], ⟨[], by simp⟩, by simp [Own.bnd, bndL, bnd, boxO], by simp⟩
      · skip
        exact Nat.zero_le _
      · rintro s hs
        simp only [sx, ty, Bool.false_eq_true, Int.reduceEq, Int.reduceLT, Nat.reduceAdd, Nat.reduceSub, Nat.reduceMul, Nat.reduceLT, Nat.reduceLeDiff, Nat.reduceEqDiff, List.reduceReplicate, reduceIte, sxk, beq_self_eq_true, bne_self_eq_false, Int.reduceBEq, Int.reduceBNe, Bool.or_false, Bool.false_or, Bool.not_false, Bool.not_true, Int.reduceToNat, Nat.zero_mul, Nat.zero_add, Nat.one_mul, Nat.mul_one, Int.toNat_natCast, hw1, hw2]
        refine W.seqK fun K12 hK12 => ?_
        refine W.pure (ds := []) rfl fun K13 hK13 => ?_
        simp only [sx, ty, Bool.false_eq_true, Int.reduceEq, Int.reduceLT, Nat.reduceAdd, Nat.reduceSub, Nat.reduceMul, Nat.reduceLT, Nat.reduceLeDiff, Nat.reduceEqDiff, List.reduceReplicate, reduceIte, beq_self_eq_true, bne_self_eq_false, Int.reduceBEq, Int.reduceBNe, Bool.or_false, Bool.false_or, Bool.not_false, Bool.not_true, Int.reduceToNat, Nat.zero_mul, Nat.zero_add, Nat.one_mul, Nat.mul_one, Int.toNat_natCast, hw1, hw2]; with_reducible refine hK13 _ ?_; clear hK13
        refine W.cond rfl rfl (fun hc => ?_) (fun hc => ?_)
        · skip
          have hs2 : s < 2 := by simp at hc; omega
          have hs01 : s = 0 ∨ s = 1 := by omega
          have hw3 : IntKind.i64.wrap (1 - (s : Int)) = ((1 - s : Nat) : Int) := by rw [wrap_id (by omega) (by omega)]; omega
          obtain ⟨sub, hsub⟩ : ∃ sub, sub = ws.drop i := ⟨_, rfl⟩
          have hsl : sub.length = ws.length - i := by rw [hsub]; simp
          have hsv : sub.all (within 1 100000) = true := by rw [hsub]; exact all_drop hv i
          obtain ⟨cf, hcf⟩ : ∃ cf : Nat → Cell, cf = fun m => cand good ws.length s (i + m + 1) (cell ws good wd (i + m + 1) (1 - s)) := ⟨_, rfl⟩
          have hce : cell ws good wd i s = bestTo ws.length cf (fitL wd sub) := by rw [hcf, hsub]; exact cell_eq ws good wd hil s
          have hfl := fitL_le wd sub
          refine W.skip (hK12 _ ?_)
          refine W.seqK fun K14 hK14 => ?_
          refine W.block ?_
          refine W.pure (ds := []) rfl fun K15 hK15 => ?_
          simp only [sx, ty, Bool.false_eq_true, Int.reduceEq, Int.reduceLT, Nat.reduceAdd, Nat.reduceSub, Nat.reduceMul, Nat.reduceLT, Nat.reduceLeDiff, Nat.reduceEqDiff, List.reduceReplicate, reduceIte, beq_self_eq_true, bne_self_eq_false, Int.reduceBEq, Int.reduceBNe, Bool.or_false, Bool.false_or, Bool.not_false, Bool.not_true, Int.reduceToNat, Nat.zero_mul, Nat.zero_add, Nat.one_mul, Nat.mul_one, Int.toNat_natCast, hw1, hw2]; with_reducible refine hK15 _ ?_; clear hK15
          refine W.pure (ds := []) rfl fun K16 hK16 => ?_
          simp only [sx, ty, Bool.false_eq_true, Int.reduceEq, Int.reduceLT, Nat.reduceAdd, Nat.reduceSub, Nat.reduceMul, Nat.reduceLT, Nat.reduceLeDiff, Nat.reduceEqDiff, List.reduceReplicate, reduceIte, beq_self_eq_true, bne_self_eq_false, Int.reduceBEq, Int.reduceBNe, Bool.or_false, Bool.false_or, Bool.not_false, Bool.not_true, Int.reduceToNat, Nat.zero_mul, Nat.zero_add, Nat.one_mul, Nat.mul_one, Int.toNat_natCast, hw1, hw2]; with_reducible refine hK16 _ ?_; clear hK16
          refine W.seqK fun K17 hK17 => ?_
          refine W.pure (ds := []) rfl fun K18 hK18 => ?_
          simp only [sx, ty, Bool.false_eq_true, Int.reduceEq, Int.reduceLT, Nat.reduceAdd, Nat.reduceSub, Nat.reduceMul, Nat.reduceLT, Nat.reduceLeDiff, Nat.reduceEqDiff, List.reduceReplicate, reduceIte, beq_self_eq_true, bne_self_eq_false, Int.reduceBEq, Int.reduceBNe, Bool.or_false, Bool.false_or, Bool.not_false, Bool.not_true, Int.reduceToNat, Nat.zero_mul, Nat.zero_add, Nat.one_mul, Nat.mul_one, Int.toNat_natCast, hw1, hw2]; with_reducible refine hK18 _ ?_; clear hK18
          refine W.block ?_
          refine W.loopO (X := Nat) [0, 1, 2, 6, 7, 8, 9, 10, 11] (fun x => [(12, .val (.int .i64 (preS sub x))), (13, .val (.int .i64 ((i + x : Nat) : Int)))]) (fun x => [.cells 54 [.val (.slice none 0 0), .val (.slice none 0 0)], .cells 54 [.val (.slice (some ⟨(bs 0), 0, none⟩) (ws.length + 1) (ws.length + 1)), .val (.slice (some ⟨(bs 1), 0, none⟩) (ws.length + 1) (ws.length + 1))], .slice 57 3 (.slice (some ⟨(bs 0), 0, none⟩) (ws.length + 1) (ws.length + 1)) (ws.length + 1) (rowR ws good wd (i + 1) s 0), .slice 57 3 (.slice (some ⟨(bs 1), 0, none⟩) (ws.length + 1) (ws.length + 1)) (ws.length + 1) (rowR ws good wd (i + 1) s 1), .cells 57 [.val (.int .i64 (bestTo ws.length cf x).1), .val (.int .i64 (bestTo ws.length cf x).2.1), .val (.int .i64 (bestTo ws.length cf x).2.2)]]) (fun x => [((fun _ => True), w)]) (fun x => x ≤ fitL wd sub) (fun x => ws.length - (i + x)) 0 ?_ ?_ ?_
          · exact ⟨rfl, by simp [getE, bnd, keepE, preS], ⟨[], by simp [bestTo]⟩, by simp [Own.bnd, bndL, bnd, boxO], by simp⟩
          · skip
            exact Nat.zero_le _
          · rintro m hm
            simp only [sx, ty, Bool.false_eq_true, Int.reduceEq, Int.reduceLT, Nat.reduceAdd, Nat.reduceSub, Nat.reduceMul, Nat.reduceLT, Nat.reduceLeDiff, Nat.reduceEqDiff, List.reduceReplicate, reduceIte, sxk, beq_self_eq_true, bne_self_eq_false, Int.reduceBEq, Int.reduceBNe, Bool.or_false, Bool.false_or, Bool.not_false, Bool.not_true, Int.reduceToNat, Nat.zero_mul, Nat.zero_add, Nat.one_mul, Nat.mul_one, Int.toNat_natCast, hw1, hw2]
            refine W.seqK fun K19 hK19 => ?_
            refine W.pure (ds := []) rfl fun K20 hK20 => ?_
            simp only [sx, ty, Bool.false_eq_true, Int.reduceEq, Int.reduceLT, Nat.reduceAdd, Nat.reduceSub, Nat.reduceMul, Nat.reduceLT, Nat.reduceLeDiff, Nat.reduceEqDiff, List.reduceReplicate, reduceIte, beq_self_eq_true, bne_self_eq_false, Int.reduceBEq, Int.reduceBNe, Bool.or_false, Bool.false_or, Bool.not_false, Bool.not_true, Int.reduceToNat, Nat.zero_mul, Nat.zero_add, Nat.one_mul, Nat.mul_one, Int.toNat_natCast, hw1, hw2]; with_reducible refine hK20 _ ?_; clear hK20
            refine W.cond rfl rfl (fun hc => ?_) (fun hc => ?_)
            · skip
              have hlt : i + m < ws.length := by simp at hc; omega
              have hmm := preS_mono hsv m (Nat.zero_le m) (by omega)
              have hz : preS sub 0 = 0 := rfl
              have hwk := width_at hv hlt
              have hpg : preS sub (m + 1) = preS sub m + ws[i + m] := by rw [preS_get (by omega)]; simp [hsub]
              have hwp : IntKind.i64.wrap (preS sub m + ws[i + m]) = preS sub (m + 1) := by rw [wrap_id (by omega) (by omega)]; omega
              refine W.skip (hK19 _ ?_)
              refine W.seqK fun K21 hK21 => ?_
              refine W.block ?_
              refine W.seqK fun K22 hK22 => W.region ?_
              refine WO.go 3 (ds := []) rfl ?_
              simp only [sx, ty, Bool.false_eq_true, Int.reduceEq, Int.reduceLT, Nat.reduceAdd, Nat.reduceSub, Nat.reduceMul, Nat.reduceLT, Nat.reduceLeDiff, Nat.reduceEqDiff, List.reduceReplicate, reduceIte, beq_self_eq_true, bne_self_eq_false, Int.reduceBEq, Int.reduceBNe, Bool.or_false, Bool.false_or, Bool.not_false, Bool.not_true, Int.reduceToNat, Nat.zero_mul, Nat.zero_add, Nat.one_mul, Nat.mul_one, Int.toNat_natCast, hw1, hw2]
              refine WO.elem (y := ws[i + m]) hl (by simp [St.put]) (ds := []) rfl rfl rfl (by simp [St.put]) (fun _ => rfl) rfl rfl rfl rfl rfl el22 agg3 sz3 (.inr rfl) (by omega) (getIdx ws hlt) fun p ces hces => ?_
              obtain rfl := rInt_open hces
              clear hces
              refine WO.go 2 (ds := []) rfl ?_
              simp only [sx, ty, Bool.false_eq_true, Int.reduceEq, Int.reduceLT, Nat.reduceAdd, Nat.reduceSub, Nat.reduceMul, Nat.reduceLT, Nat.reduceLeDiff, Nat.reduceEqDiff, List.reduceReplicate, reduceIte, beq_self_eq_true, bne_self_eq_false, Int.reduceBEq, Int.reduceBNe, Bool.or_false, Bool.false_or, Bool.not_false, Bool.not_true, Int.reduceToNat, Nat.zero_mul, Nat.zero_add, Nat.one_mul, Nat.mul_one, Int.toNat_natCast, hw1, hw2]
              with_reducible refine WO.nil ?_
              refine hK22 _ ?_; clear hK22
              refine W.seqK fun K23 hK23 => ?_
              refine W.pure (ds := []) rfl fun K24 hK24 => ?_
              simp only [sx, ty, Bool.false_eq_true, Int.reduceEq, Int.reduceLT, Nat.reduceAdd, Nat.reduceSub, Nat.reduceMul, Nat.reduceLT, Nat.reduceLeDiff, Nat.reduceEqDiff, List.reduceReplicate, reduceIte, beq_self_eq_true, bne_self_eq_false, Int.reduceBEq, Int.reduceBNe, Bool.or_false, Bool.false_or, Bool.not_false, Bool.not_true, Int.reduceToNat, Nat.zero_mul, Nat.zero_add, Nat.one_mul, Nat.mul_one, Int.toNat_natCast, hw1, hw2]; with_reducible refine hK24 _ ?_; clear hK24
              refine W.cond rfl rfl (fun hc => ?_) (fun hc => ?_)
              · skip
                have hno : ¬ m < fitL wd sub := fun h => by have := (fitL_lt wd sub hsv m (by omega)).1 h; simp [hwp] at hc; omega
                have hcell : cell ws good wd i s = bestTo ws.length cf m := by rw [hce, show m = fitL wd sub by omega]
                refine W.exit (hK17 _ ?_)
                refine W.regionT' 6 [] [0, 1, 2, 3, 4, 5] mixed (by kernel_rfl) ?_
                simp only [sx, ty, Bool.false_eq_true, Int.reduceEq, Int.reduceLT, Nat.reduceAdd, Nat.reduceSub, Nat.reduceMul, Nat.reduceLT, Nat.reduceLeDiff, Nat.reduceEqDiff, List.reduceReplicate, reduceIte, sxt, List.toList_toArray, beq_self_eq_true, bne_self_eq_false, Int.reduceBEq, Int.reduceBNe, Bool.or_false, Bool.false_or, Bool.not_false, Bool.not_true, Int.reduceToNat, Nat.zero_mul, Nat.zero_add, Nat.one_mul, Nat.mul_one, Int.toNat_natCast, hw1, hw2]
                refine WQ.go 1 (ds := []) rfl ?_
                simp only [sx, ty, Bool.false_eq_true, Int.reduceEq, Int.reduceLT, Nat.reduceAdd, Nat.reduceSub, Nat.reduceMul, Nat.reduceLT, Nat.reduceLeDiff, Nat.reduceEqDiff, List.reduceReplicate, reduceIte, sxq, Bool.false_eq_true, beq_self_eq_true, bne_self_eq_false, Int.reduceBEq, Int.reduceBNe, Bool.or_false, Bool.false_or, Bool.not_false, Bool.not_true, Int.reduceToNat, Nat.zero_mul, Nat.zero_add, Nat.one_mul, Nat.mul_one, Int.toNat_natCast, hw1, hw2]
                refine WQ.q (ds := []) rfl rfl rfl (QR.arr rfl rfl rfl ar54 (by omega) (by omega)) ?_
                refine WQ.q (ds := []) rfl rfl rfl (QR.cell (k := 1) (T := 54) (cs := [.val (.slice (some ⟨(bs 0), 0, none⟩) (ws.length + 1) (ws.length + 1)), .val (.slice (some ⟨(bs 1), 0, none⟩) (ws.length + 1) (ws.length + 1))]) (s := .val (.slice (some ⟨(bs s), 0, none⟩) (ws.length + 1) (ws.length + 1))) rfl rfl rfl (by rcases hs01 with rfl | rfl <;> rfl) agg53 sz53) ?_
                refine WQ.go 2 (ds := []) rfl ?_
                simp only [sx, ty, Bool.false_eq_true, Int.reduceEq, Int.reduceLT, Nat.reduceAdd, Nat.reduceSub, Nat.reduceMul, Nat.reduceLT, Nat.reduceLeDiff, Nat.reduceEqDiff, List.reduceReplicate, reduceIte, sxq, Bool.false_eq_true, beq_self_eq_true, bne_self_eq_false, Int.reduceBEq, Int.reduceBNe, Bool.or_false, Bool.false_or, Bool.not_false, Bool.not_true, Int.reduceToNat, Nat.zero_mul, Nat.zero_add, Nat.one_mul, Nat.mul_one, Int.toNat_natCast, hw1, hw2]
                refine WQ.q (ds := []) rfl rfl rfl (QR.idx rfl rfl rfl el53 (by omega) (by omega)) ?_
                simp only [sx, ty, Bool.false_eq_true, Int.reduceEq, Int.reduceLT, Nat.reduceAdd, Nat.reduceSub, Nat.reduceMul, Nat.reduceLT, Nat.reduceLeDiff, Nat.reduceEqDiff, List.reduceReplicate, reduceIte, beq_self_eq_true, bne_self_eq_false, Int.reduceBEq, Int.reduceBNe, Bool.or_false, Bool.false_or, Bool.not_false, Bool.not_true, Int.reduceToNat, Nat.zero_mul, Nat.zero_add, Nat.one_mul, Nat.mul_one, Int.toNat_natCast, hw1, hw2]
                with_reducible refine WQ.nil ?_
                refine WO.storeRow (T := 57) (k := 2 + s) (b := bs s) (sz := 3) (n := (ws.length + 1)) (c := (ws.length + 1)) (xs := rowR ws good wd (i + 1) s s) (u := .agg (cellV (bestTo ws.length cf m)).toArray) (i * 3) (cellV (bestTo ws.length cf m)) (by rcases hs01 with rfl | rfl <;> rfl) (ds := []) rfl rfl rfl rfl rfl (by simp [Addr.add_mid]) (by rw [rowR_len]; simp only [cellV, List.length_cons, List.length_nil]; omega) (by simp [cellV]) ⟨_, rfl, fun ρ => rfl⟩ rfl (by simp [cellV, Value.oneCell']) sz57 ?_
                rw [← hcell, show (cellV (cell ws good wd i s)).length = 3 from rfl, rowR_set ws good wd hil]
                refine WO.ownIs [.cells 54 [.val (.slice none 0 0), .val (.slice none 0 0)], .cells 54 [.val (.slice (some ⟨(bs 0), 0, none⟩) (ws.length + 1) (ws.length + 1)), .val (.slice (some ⟨(bs 1), 0, none⟩) (ws.length + 1) (ws.length + 1))], .slice 57 3 (.slice (some ⟨(bs 0), 0, none⟩) (ws.length + 1) (ws.length + 1)) (ws.length + 1) (rowR ws good wd (i + 1) (s + 1) 0), .slice 57 3 (.slice (some ⟨(bs 1), 0, none⟩) (ws.length + 1) (ws.length + 1)) (ws.length + 1) (rowR ws good wd (i + 1) (s + 1) 1), .cells 57 [.val (.int .i64 (cell ws good wd i s).1), .val (.int .i64 (cell ws good wd i s).2.1), .val (.int .i64 (cell ws good wd i s).2.2)]] (by rcases hs01 with rfl | rfl <;> simp [setOwn, setN, St.put, rowR_other]) ?_
                simp only [sx, ty, Bool.false_eq_true, Int.reduceEq, Int.reduceLT, Nat.reduceAdd, Nat.reduceSub, Nat.reduceMul, Nat.reduceLT, Nat.reduceLeDiff, Nat.reduceEqDiff, List.reduceReplicate, reduceIte, beq_self_eq_true, bne_self_eq_false, Int.reduceBEq, Int.reduceBNe, Bool.or_false, Bool.false_or, Bool.not_false, Bool.not_true, Int.reduceToNat, Nat.zero_mul, Nat.zero_add, Nat.one_mul, Nat.mul_one, Int.toNat_natCast, hw1, hw2]
                with_reducible refine WO.nil ?_
                refine hK14 _ ?_
                refine W.region ?_
                refine WO.go 3 (ds := []) rfl ?_
                simp only [sx, ty, Bool.false_eq_true, Int.reduceEq, Int.reduceLT, Nat.reduceAdd, Nat.reduceSub, Nat.reduceMul, Nat.reduceLT, Nat.reduceLeDiff, Nat.reduceEqDiff, List.reduceReplicate, reduceIte, beq_self_eq_true, bne_self_eq_false, Int.reduceBEq, Int.reduceBNe, Bool.or_false, Bool.false_or, Bool.not_false, Bool.not_true, Int.reduceToNat, Nat.zero_mul, Nat.zero_add, Nat.one_mul, Nat.mul_one, Int.toNat_natCast, hw1, hw2]
                with_reducible refine WO.nil ?_
                refine ⟨s + 1, ?_, by omega, rfl, by simp [getE, bnd, keepE, wrap_succ (show s + 1 ≤ 9223372036854775807 by omega)], ⟨_, rfl⟩, by simp [Own.bnd, bndL, bnd, boxO], by simp⟩
                show s + 1 ≤ 2; omega
              · skip
                have hfit : m < fitL wd sub := (fitL_lt wd sub hsv m (by omega)).2 (by simp [hwp] at hc; omega)
                have hok := (cell_ok (good := good) hv hW (ws.length - (i + m + 1)) (i + m + 1) (1 - s) (by omega)).1
                have hwk1 : IntKind.i64.wrap (((i + m : Nat) : Int) + 1) = ((i + m + 1 : Nat) : Int) := wrap_succ (by omega)
                have hwk2 : i + (m + 1) = i + m + 1 := rfl
                have hwk3 : IntKind.i64.wrap ((cell ws good wd (i + m + 1) (1 - s)).2.1 + 1) = (cell ws good wd (i + m + 1) (1 - s)).2.1 + 1 := wrap_id (by omega) (by omega)
                have hwk4 : IntKind.i64.wrap ((cell ws good wd (i + m + 1) (1 - s)).1 + 1) = (cell ws good wd (i + m + 1) (1 - s)).1 + 1 := wrap_id (by omega) (by omega)
                refine W.skip (hK23 _ ?_)
                refine W.seqK fun K25 hK25 => ?_
                refine W.regionS (ds := [some 54, some 55, some 56, some 57, some 58, some 59, some 60, some 61, some 62, some 63, some 64, some 65, some 66, some 67, some 68, some 69, some 70, some 71, some 72, some 73, some 74, some 75, some 14, none]) (tg := [none, none, none, none, none, none, none, none, none, none, none, none, none, none, none, none, none, none, none, none, none, none, some 5, some 5]) [⟨[], [], [10], [5], none, false⟩, ⟨[0], [0], [], [5], none, false⟩, ⟨[0, 1], [1], [8], [5], none, false⟩, ⟨[0, 1, 2], [2], [], [5], none, false⟩, ⟨[], [], [13], [5], none, false⟩, ⟨[4], [4], [], [5], none, false⟩, ⟨[0, 1, 2, 3, 4, 5], [3, 5], [], [5], none, false⟩, ⟨[0, 1, 2, 3, 4, 5, 6], [6], [], [5], none, false⟩, ⟨[0, 1, 2, 3, 4, 5, 6, 7], [7], [], [5], none, false⟩, ⟨[], [], [10], [5], none, false⟩, ⟨[9], [9], [], [5], none, false⟩, ⟨[9, 10], [10], [8], [5], none, false⟩, ⟨[9, 10, 11], [11], [], [5], none, false⟩, ⟨[], [], [13], [5], none, false⟩, ⟨[13], [13], [], [5], none, false⟩, ⟨[9, 10, 11, 12, 13, 14], [12, 14], [], [5], none, false⟩, ⟨[9, 10, 11, 12, 13, 14, 15], [15], [], [5], none, false⟩, ⟨[9, 10, 11, 12, 13, 14, 15, 16], [16], [], [5], none, false⟩, ⟨[9, 10, 11, 12, 13, 14, 15, 16, 17], [17], [], [5], none, false⟩, ⟨[], [], [13], [5], none, false⟩, ⟨[19], [19], [], [5], none, false⟩, ⟨[0, 1, 2, 3, 4, 5, 6, 7, 8, 9, 10, 11, 12, 13, 14, 15, 16, 17, 18, 19, 20], [8, 18, 20], [], [5], none, false⟩, ⟨[], [], [], [], some 5, true⟩, ⟨[0, 1, 2, 3, 4, 5, 6, 7, 8, 9, 10, 11, 12, 13, 14, 15, 16, 17, 18, 19, 20, 21, 22], [22, 21], [], [], some 5, false⟩] 1 5 108 mixed rfl rfl (by kernel_rfl) (by kernel_rfl) ?_
                simp only [sx, ty, Bool.false_eq_true, Int.reduceEq, Int.reduceLT, Nat.reduceAdd, Nat.reduceSub, Nat.reduceMul, Nat.reduceLT, Nat.reduceLeDiff, Nat.reduceEqDiff, List.reduceReplicate, reduceIte, sxs, List.toList_toArray, List.cons_append, List.nil_append, List.append_nil, beq_self_eq_true, bne_self_eq_false, Int.reduceBEq, Int.reduceBNe, Bool.or_false, Bool.false_or, Bool.not_false, Bool.not_true, Int.reduceToNat, Nat.zero_mul, Nat.zero_add, Nat.one_mul, Nat.mul_one, Int.toNat_natCast, hw1, hw2, hw3, hwk1, hwk3, hwk4]
                refine WS.go rfl rfl rfl ?_
                simp only [sx, ty, Bool.false_eq_true, Int.reduceEq, Int.reduceLT, Nat.reduceAdd, Nat.reduceSub, Nat.reduceMul, Nat.reduceLT, Nat.reduceLeDiff, Nat.reduceEqDiff, List.reduceReplicate, reduceIte, sxs, List.toList_toArray, List.cons_append, List.nil_append, List.append_nil, beq_self_eq_true, bne_self_eq_false, Int.reduceBEq, Int.reduceBNe, Bool.or_false, Bool.false_or, Bool.not_false, Bool.not_true, Int.reduceToNat, Nat.zero_mul, Nat.zero_add, Nat.one_mul, Nat.mul_one, Int.toNat_natCast, hw1, hw2, hw3, hwk1, hwk3, hwk4]
                refine WS.go rfl rfl rfl ?_
                simp only [sx, ty, Bool.false_eq_true, Int.reduceEq, Int.reduceLT, Nat.reduceAdd, Nat.reduceSub, Nat.reduceMul, Nat.reduceLT, Nat.reduceLeDiff, Nat.reduceEqDiff, List.reduceReplicate, reduceIte, sxs, List.toList_toArray, List.cons_append, List.nil_append, List.append_nil, beq_self_eq_true, bne_self_eq_false, Int.reduceBEq, Int.reduceBNe, Bool.or_false, Bool.false_or, Bool.not_false, Bool.not_true, Int.reduceToNat, Nat.zero_mul, Nat.zero_add, Nat.one_mul, Nat.mul_one, Int.toNat_natCast, hw1, hw2, hw3, hwk1, hwk3, hwk4]
                refine WS.q rfl rfl (QR.arr rfl rfl rfl ar54 (by omega) (by omega)) ?_
                simp only [sx, ty, Bool.false_eq_true, Int.reduceEq, Int.reduceLT, Nat.reduceAdd, Nat.reduceSub, Nat.reduceMul, Nat.reduceLT, Nat.reduceLeDiff, Nat.reduceEqDiff, List.reduceReplicate, reduceIte, sxs, List.toList_toArray, List.cons_append, List.nil_append, List.append_nil, hw3]
                refine WS.q rfl rfl (QR.cell (k := 1) (T := 54) (cs := [.val (.slice (some ⟨(bs 0), 0, none⟩) (ws.length + 1) (ws.length + 1)), .val (.slice (some ⟨(bs 1), 0, none⟩) (ws.length + 1) (ws.length + 1))]) (s := .val (.slice (some ⟨(bs (1 - s)), 0, none⟩) (ws.length + 1) (ws.length + 1))) rfl rfl rfl (by rcases hs01 with rfl | rfl <;> rfl) agg53 sz53) ?_
                simp only [sx, ty, Bool.false_eq_true, Int.reduceEq, Int.reduceLT, Nat.reduceAdd, Nat.reduceSub, Nat.reduceMul, Nat.reduceLT, Nat.reduceLeDiff, Nat.reduceEqDiff, List.reduceReplicate, reduceIte, sxs, List.toList_toArray, List.cons_append, List.nil_append, List.append_nil, beq_self_eq_true, bne_self_eq_false, Int.reduceBEq, Int.reduceBNe, Bool.or_false, Bool.false_or, Bool.not_false, Bool.not_true, Int.reduceToNat, Nat.zero_mul, Nat.zero_add, Nat.one_mul, Nat.mul_one, Int.toNat_natCast, hw1, hw2, hw3, hwk1, hwk3, hwk4]
                refine WS.go rfl rfl rfl ?_
                simp only [sx, ty, Bool.false_eq_true, Int.reduceEq, Int.reduceLT, Nat.reduceAdd, Nat.reduceSub, Nat.reduceMul, Nat.reduceLT, Nat.reduceLeDiff, Nat.reduceEqDiff, List.reduceReplicate, reduceIte, sxs, List.toList_toArray, List.cons_append, List.nil_append, List.append_nil, beq_self_eq_true, bne_self_eq_false, Int.reduceBEq, Int.reduceBNe, Bool.or_false, Bool.false_or, Bool.not_false, Bool.not_true, Int.reduceToNat, Nat.zero_mul, Nat.zero_add, Nat.one_mul, Nat.mul_one, Int.toNat_natCast, hw1, hw2, hw3, hwk1, hwk3, hwk4]
                refine WS.go rfl rfl rfl ?_
                simp only [sx, ty, Bool.false_eq_true, Int.reduceEq, Int.reduceLT, Nat.reduceAdd, Nat.reduceSub, Nat.reduceMul, Nat.reduceLT, Nat.reduceLeDiff, Nat.reduceEqDiff, List.reduceReplicate, reduceIte, sxs, List.toList_toArray, List.cons_append, List.nil_append, List.append_nil, beq_self_eq_true, bne_self_eq_false, Int.reduceBEq, Int.reduceBNe, Bool.or_false, Bool.false_or, Bool.not_false, Bool.not_true, Int.reduceToNat, Nat.zero_mul, Nat.zero_add, Nat.one_mul, Nat.mul_one, Int.toNat_natCast, hw1, hw2, hw3, hwk1, hwk3, hwk4]
                refine WS.index rfl rfl rfl rfl rfl el53 (by omega) (by omega) ?_
                simp only [sx, ty, Bool.false_eq_true, Int.reduceEq, Int.reduceLT, Nat.reduceAdd, Nat.reduceSub, Nat.reduceMul, Nat.reduceLT, Nat.reduceLeDiff, Nat.reduceEqDiff, List.reduceReplicate, reduceIte, sxs, List.toList_toArray, List.cons_append, List.nil_append, List.append_nil, beq_self_eq_true, bne_self_eq_false, Int.reduceBEq, Int.reduceBNe, Bool.or_false, Bool.false_or, Bool.not_false, Bool.not_true, Int.reduceToNat, Nat.zero_mul, Nat.zero_add, Nat.one_mul, Nat.mul_one, Int.toNat_natCast, hw1, hw2, hw3, hwk1, hwk3, hwk4]
                refine WS.go rfl rfl rfl ?_
                simp only [sx, ty, Bool.false_eq_true, Int.reduceEq, Int.reduceLT, Nat.reduceAdd, Nat.reduceSub, Nat.reduceMul, Nat.reduceLT, Nat.reduceLeDiff, Nat.reduceEqDiff, List.reduceReplicate, reduceIte, sxs, List.toList_toArray, List.cons_append, List.nil_append, List.append_nil, beq_self_eq_true, bne_self_eq_false, Int.reduceBEq, Int.reduceBNe, Bool.or_false, Bool.false_or, Bool.not_false, Bool.not_true, Int.reduceToNat, Nat.zero_mul, Nat.zero_add, Nat.one_mul, Nat.mul_one, Int.toNat_natCast, hw1, hw2, hw3, hwk1, hwk3, hwk4]
                refine WS.load [.int .i64 (cell ws good wd (i + m + 1) (1 - s)).1] false rfl rfl rfl rfl agg3 sz3 (.inr rfl) (fun ρ w1 hb => ?_) ?_
                · have h9 := row_at (k := 2 + (1 - s)) (b := bs (1 - s)) (T := 57) (sz := 3) (n := (ws.length + 1)) (c := (ws.length + 1)) (xs := rowR ws good wd (i + 1) s (1 - s)) hb (by rcases hs01 with rfl | rfl <;> rfl) (rowR_f0 ws good wd (s := s) (r := 1 - s) (show i + 1 ≤ i + m + 1 by omega) (by omega))
                  simpa [Addr.add_mid] using h9
                simp only [sx, ty, Bool.false_eq_true, Int.reduceEq, Int.reduceLT, Nat.reduceAdd, Nat.reduceSub, Nat.reduceMul, Nat.reduceLT, Nat.reduceLeDiff, Nat.reduceEqDiff, List.reduceReplicate, reduceIte, sxs, List.toList_toArray, List.cons_append, List.nil_append, List.append_nil, beq_self_eq_true, bne_self_eq_false, Int.reduceBEq, Int.reduceBNe, Bool.or_false, Bool.false_or, Bool.not_false, Bool.not_true, Int.reduceToNat, Nat.zero_mul, Nat.zero_add, Nat.one_mul, Nat.mul_one, Int.toNat_natCast, hw1, hw2, hw3, hwk1, hwk3, hwk4]
                refine WS.go rfl rfl rfl ?_
                simp only [sx, ty, Bool.false_eq_true, Int.reduceEq, Int.reduceLT, Nat.reduceAdd, Nat.reduceSub, Nat.reduceMul, Nat.reduceLT, Nat.reduceLeDiff, Nat.reduceEqDiff, List.reduceReplicate, reduceIte, sxs, List.toList_toArray, List.cons_append, List.nil_append, List.append_nil, beq_self_eq_true, bne_self_eq_false, Int.reduceBEq, Int.reduceBNe, Bool.or_false, Bool.false_or, Bool.not_false, Bool.not_true, Int.reduceToNat, Nat.zero_mul, Nat.zero_add, Nat.one_mul, Nat.mul_one, Int.toNat_natCast, hw1, hw2, hw3, hwk1, hwk3, hwk4]
                refine WS.go rfl rfl rfl ?_
                simp only [sx, ty, Bool.false_eq_true, Int.reduceEq, Int.reduceLT, Nat.reduceAdd, Nat.reduceSub, Nat.reduceMul, Nat.reduceLT, Nat.reduceLeDiff, Nat.reduceEqDiff, List.reduceReplicate, reduceIte, sxs, List.toList_toArray, List.cons_append, List.nil_append, List.append_nil, beq_self_eq_true, bne_self_eq_false, Int.reduceBEq, Int.reduceBNe, Bool.or_false, Bool.false_or, Bool.not_false, Bool.not_true, Int.reduceToNat, Nat.zero_mul, Nat.zero_add, Nat.one_mul, Nat.mul_one, Int.toNat_natCast, hw1, hw2, hw3, hwk1, hwk3, hwk4]
                refine WS.q rfl rfl (QR.arr rfl rfl rfl ar54 (by omega) (by omega)) ?_
                simp only [sx, ty, Bool.false_eq_true, Int.reduceEq, Int.reduceLT, Nat.reduceAdd, Nat.reduceSub, Nat.reduceMul, Nat.reduceLT, Nat.reduceLeDiff, Nat.reduceEqDiff, List.reduceReplicate, reduceIte, sxs, List.toList_toArray, List.cons_append, List.nil_append, List.append_nil, hw3]
                refine WS.q rfl rfl (QR.cell (k := 1) (T := 54) (cs := [.val (.slice (some ⟨(bs 0), 0, none⟩) (ws.length + 1) (ws.length + 1)), .val (.slice (some ⟨(bs 1), 0, none⟩) (ws.length + 1) (ws.length + 1))]) (s := .val (.slice (some ⟨(bs (1 - s)), 0, none⟩) (ws.length + 1) (ws.length + 1))) rfl rfl rfl (by rcases hs01 with rfl | rfl <;> rfl) agg53 sz53) ?_
                simp only [sx, ty, Bool.false_eq_true, Int.reduceEq, Int.reduceLT, Nat.reduceAdd, Nat.reduceSub, Nat.reduceMul, Nat.reduceLT, Nat.reduceLeDiff, Nat.reduceEqDiff, List.reduceReplicate, reduceIte, sxs, List.toList_toArray, List.cons_append, List.nil_append, List.append_nil, beq_self_eq_true, bne_self_eq_false, Int.reduceBEq, Int.reduceBNe, Bool.or_false, Bool.false_or, Bool.not_false, Bool.not_true, Int.reduceToNat, Nat.zero_mul, Nat.zero_add, Nat.one_mul, Nat.mul_one, Int.toNat_natCast, hw1, hw2, hw3, hwk1, hwk3, hwk4]
                refine WS.go rfl rfl rfl ?_
                simp only [sx, ty, Bool.false_eq_true, Int.reduceEq, Int.reduceLT, Nat.reduceAdd, Nat.reduceSub, Nat.reduceMul, Nat.reduceLT, Nat.reduceLeDiff, Nat.reduceEqDiff, List.reduceReplicate, reduceIte, sxs, List.toList_toArray, List.cons_append, List.nil_append, List.append_nil, beq_self_eq_true, bne_self_eq_false, Int.reduceBEq, Int.reduceBNe, Bool.or_false, Bool.false_or, Bool.not_false, Bool.not_true, Int.reduceToNat, Nat.zero_mul, Nat.zero_add, Nat.one_mul, Nat.mul_one, Int.toNat_natCast, hw1, hw2, hw3, hwk1, hwk3, hwk4]
                refine WS.go rfl rfl rfl ?_
                simp only [sx, ty, Bool.false_eq_true, Int.reduceEq, Int.reduceLT, Nat.reduceAdd, Nat.reduceSub, Nat.reduceMul, Nat.reduceLT, Nat.reduceLeDiff, Nat.reduceEqDiff, List.reduceReplicate, reduceIte, sxs, List.toList_toArray, List.cons_append, List.nil_append, List.append_nil, beq_self_eq_true, bne_self_eq_false, Int.reduceBEq, Int.reduceBNe, Bool.or_false, Bool.false_or, Bool.not_false, Bool.not_true, Int.reduceToNat, Nat.zero_mul, Nat.zero_add, Nat.one_mul, Nat.mul_one, Int.toNat_natCast, hw1, hw2, hw3, hwk1, hwk3, hwk4]
                refine WS.index rfl rfl rfl rfl rfl el53 (by omega) (by omega) ?_
                simp only [sx, ty, Bool.false_eq_true, Int.reduceEq, Int.reduceLT, Nat.reduceAdd, Nat.reduceSub, Nat.reduceMul, Nat.reduceLT, Nat.reduceLeDiff, Nat.reduceEqDiff, List.reduceReplicate, reduceIte, sxs, List.toList_toArray, List.cons_append, List.nil_append, List.append_nil, beq_self_eq_true, bne_self_eq_false, Int.reduceBEq, Int.reduceBNe, Bool.or_false, Bool.false_or, Bool.not_false, Bool.not_true, Int.reduceToNat, Nat.zero_mul, Nat.zero_add, Nat.one_mul, Nat.mul_one, Int.toNat_natCast, hw1, hw2, hw3, hwk1, hwk3, hwk4]
                refine WS.go rfl rfl rfl ?_
                simp only [sx, ty, Bool.false_eq_true, Int.reduceEq, Int.reduceLT, Nat.reduceAdd, Nat.reduceSub, Nat.reduceMul, Nat.reduceLT, Nat.reduceLeDiff, Nat.reduceEqDiff, List.reduceReplicate, reduceIte, sxs, List.toList_toArray, List.cons_append, List.nil_append, List.append_nil, beq_self_eq_true, bne_self_eq_false, Int.reduceBEq, Int.reduceBNe, Bool.or_false, Bool.false_or, Bool.not_false, Bool.not_true, Int.reduceToNat, Nat.zero_mul, Nat.zero_add, Nat.one_mul, Nat.mul_one, Int.toNat_natCast, hw1, hw2, hw3, hwk1, hwk3, hwk4]
                refine WS.load [.int .i64 (cell ws good wd (i + m + 1) (1 - s)).2.1] false rfl rfl rfl rfl agg3 sz3 (.inr rfl) (fun ρ w1 hb => ?_) ?_
                · have h9 := row_at (k := 2 + (1 - s)) (b := bs (1 - s)) (T := 57) (sz := 3) (n := (ws.length + 1)) (c := (ws.length + 1)) (xs := rowR ws good wd (i + 1) s (1 - s)) hb (by rcases hs01 with rfl | rfl <;> rfl) (rowR_f1 ws good wd (s := s) (r := 1 - s) (show i + 1 ≤ i + m + 1 by omega) (by omega))
                  simpa [Addr.add_mid] using h9
                simp only [sx, ty, Bool.false_eq_true, Int.reduceEq, Int.reduceLT, Nat.reduceAdd, Nat.reduceSub, Nat.reduceMul, Nat.reduceLT, Nat.reduceLeDiff, Nat.reduceEqDiff, List.reduceReplicate, reduceIte, sxs, List.toList_toArray, List.cons_append, List.nil_append, List.append_nil, beq_self_eq_true, bne_self_eq_false, Int.reduceBEq, Int.reduceBNe, Bool.or_false, Bool.false_or, Bool.not_false, Bool.not_true, Int.reduceToNat, Nat.zero_mul, Nat.zero_add, Nat.one_mul, Nat.mul_one, Int.toNat_natCast, hw1, hw2, hw3, hwk1, hwk3, hwk4]
                refine WS.go rfl rfl rfl ?_
                simp only [sx, ty, Bool.false_eq_true, Int.reduceEq, Int.reduceLT, Nat.reduceAdd, Nat.reduceSub, Nat.reduceMul, Nat.reduceLT, Nat.reduceLeDiff, Nat.reduceEqDiff, List.reduceReplicate, reduceIte, sxs, List.toList_toArray, List.cons_append, List.nil_append, List.append_nil, beq_self_eq_true, bne_self_eq_false, Int.reduceBEq, Int.reduceBNe, Bool.or_false, Bool.false_or, Bool.not_false, Bool.not_true, Int.reduceToNat, Nat.zero_mul, Nat.zero_add, Nat.one_mul, Nat.mul_one, Int.toNat_natCast, hw1, hw2, hw3, hwk1, hwk3, hwk4]
                refine WS.go rfl rfl rfl ?_
                simp only [sx, ty, Bool.false_eq_true, Int.reduceEq, Int.reduceLT, Nat.reduceAdd, Nat.reduceSub, Nat.reduceMul, Nat.reduceLT, Nat.reduceLeDiff, Nat.reduceEqDiff, List.reduceReplicate, reduceIte, sxs, List.toList_toArray, List.cons_append, List.nil_append, List.append_nil, beq_self_eq_true, bne_self_eq_false, Int.reduceBEq, Int.reduceBNe, Bool.or_false, Bool.false_or, Bool.not_false, Bool.not_true, Int.reduceToNat, Nat.zero_mul, Nat.zero_add, Nat.one_mul, Nat.mul_one, Int.toNat_natCast, hw1, hw2, hw3, hwk1, hwk3, hwk4]
                refine WS.go rfl rfl rfl ?_
                simp only [sx, ty, Bool.false_eq_true, Int.reduceEq, Int.reduceLT, Nat.reduceAdd, Nat.reduceSub, Nat.reduceMul, Nat.reduceLT, Nat.reduceLeDiff, Nat.reduceEqDiff, List.reduceReplicate, reduceIte, sxs, List.toList_toArray, List.cons_append, List.nil_append, List.append_nil, beq_self_eq_true, bne_self_eq_false, Int.reduceBEq, Int.reduceBNe, Bool.or_false, Bool.false_or, Bool.not_false, Bool.not_true, Int.reduceToNat, Nat.zero_mul, Nat.zero_add, Nat.one_mul, Nat.mul_one, Int.toNat_natCast, hw1, hw2, hw3, hwk1, hwk3, hwk4]
                refine WS.go rfl rfl rfl ?_
                simp only [sx, ty, Bool.false_eq_true, Int.reduceEq, Int.reduceLT, Nat.reduceAdd, Nat.reduceSub, Nat.reduceMul, Nat.reduceLT, Nat.reduceLeDiff, Nat.reduceEqDiff, List.reduceReplicate, reduceIte, sxs, List.toList_toArray, List.cons_append, List.nil_append, List.append_nil, beq_self_eq_true, bne_self_eq_false, Int.reduceBEq, Int.reduceBNe, Bool.or_false, Bool.false_or, Bool.not_false, Bool.not_true, Int.reduceToNat, Nat.zero_mul, Nat.zero_add, Nat.one_mul, Nat.mul_one, Int.toNat_natCast, hw1, hw2, hw3, hwk1, hwk3, hwk4]
                refine WS.alloc rfl rfl ze57 rfl rfl ?_
                simp only [sx, ty, Bool.false_eq_true, Int.reduceEq, Int.reduceLT, Nat.reduceAdd, Nat.reduceSub, Nat.reduceMul, Nat.reduceLT, Nat.reduceLeDiff, Nat.reduceEqDiff, List.reduceReplicate, reduceIte, sxs, List.toList_toArray, List.cons_append, List.nil_append, List.append_nil, beq_self_eq_true, bne_self_eq_false, Int.reduceBEq, Int.reduceBNe, Bool.or_false, Bool.false_or, Bool.not_false, Bool.not_true, Int.reduceToNat, Nat.zero_mul, Nat.zero_add, Nat.one_mul, Nat.mul_one, Int.toNat_natCast, hw1, hw2, hw3, hwk1, hwk3, hwk4]
                refine WS.store rfl rfl rfl rfl rfl rfl rfl sz57 (Nat.le_of_ble_eq_true rfl) rfl ?_
                simp only [sx, ty, Bool.false_eq_true, Int.reduceEq, Int.reduceLT, Nat.reduceAdd, Nat.reduceSub, Nat.reduceMul, Nat.reduceLT, Nat.reduceLeDiff, Nat.reduceEqDiff, List.reduceReplicate, reduceIte, sxs, List.toList_toArray, List.cons_append, List.nil_append, List.append_nil, beq_self_eq_true, bne_self_eq_false, Int.reduceBEq, Int.reduceBNe, Bool.or_false, Bool.false_or, Bool.not_false, Bool.not_true, Int.reduceToNat, Nat.zero_mul, Nat.zero_add, Nat.one_mul, Nat.mul_one, Int.toNat_natCast, hw1, hw2, hw3, hwk1, hwk3, hwk4]
                refine WS.nil [0, 1, 2, 3, 4, 5, 6, 7, 8, 9, 10, 11, 12, 13, 14, 15, 16, 17, 18, 19, 20, 21, 22, 23] rfl rfl ?_
                simp only [sx, ty, Bool.false_eq_true, Int.reduceEq, Int.reduceLT, Nat.reduceAdd, Nat.reduceSub, Nat.reduceMul, Nat.reduceLT, Nat.reduceLeDiff, Nat.reduceEqDiff, List.reduceReplicate, reduceIte, sxs, List.toList_toArray, List.cons_append, List.nil_append, List.append_nil, beq_self_eq_true, bne_self_eq_false, Int.reduceBEq, Int.reduceBNe, Bool.or_false, Bool.false_or, Bool.not_false, Bool.not_true, Int.reduceToNat, Nat.zero_mul, Nat.zero_add, Nat.one_mul, Nat.mul_one, Int.toNat_natCast, hw1, hw2, hw3, hwk1, hwk3, hwk4]
                refine hK25 _ ?_; clear hK25
                refine W.seqK fun K26 hK26 => ?_
                refine W.join 91 (.val (.bool (decide (s = 0) && (decide (i + m + 1 < ws.length) && !(good.getD (i + m + 1) true))))) [0, 1, 2, 6, 7, 8, 9, 10, 11, 12, 13, 14] (W.region ?_) ?_
                · skip
                  refine WO.go 3 (ds := [some 76, some 77, some 78, some 79, some 80, some 81, some 82, some 83, some 84, some 85, some 86, some 87, some 88, some 89, some 90, some 91]) rfl ?_
                  simp only [sx, ty, Bool.false_eq_true, Int.reduceEq, Int.reduceLT, Nat.reduceAdd, Nat.reduceSub, Nat.reduceMul, Nat.reduceLT, Nat.reduceLeDiff, Nat.reduceEqDiff, List.reduceReplicate, reduceIte, beq_self_eq_true, bne_self_eq_false, Int.reduceBEq, Int.reduceBNe, Bool.or_false, Bool.false_or, Bool.not_false, Bool.not_true, Int.reduceToNat, Nat.zero_mul, Nat.zero_add, Nat.one_mul, Nat.mul_one, Int.toNat_natCast, hw1, hw2, hw3, hwk1, hwk3, hwk4]
                  refine WO.cases 78 _ rfl (fun hg78 => ?_) (fun hg78 => ?_)
                  · skip
                    refine WO.go 6 (ds := [some 76, some 77, some 78, some 79, some 80, some 81, some 82, some 83, some 84, some 85, some 86, some 87, some 88, some 89, some 90, some 91]) rfl ?_
                    simp only [sx, ty, Bool.false_eq_true, Int.reduceEq, Int.reduceLT, Nat.reduceAdd, Nat.reduceSub, Nat.reduceMul, Nat.reduceLT, Nat.reduceLeDiff, Nat.reduceEqDiff, List.reduceReplicate, reduceIte, beq_self_eq_true, bne_self_eq_false, Int.reduceBEq, Int.reduceBNe, Bool.or_false, Bool.false_or, Bool.not_false, Bool.not_true, Int.reduceToNat, Nat.zero_mul, Nat.zero_add, Nat.one_mul, Nat.mul_one, Int.toNat_natCast, hw1, hw2, hw3, hwk1, hwk3, hwk4]
                    refine WO.cases 84 _ rfl (fun hg84 => ?_) (fun hg84 => ?_)
                    · skip
                      refine WO.go 3 (ds := [some 76, some 77, some 78, some 79, some 80, some 81, some 82, some 83, some 84, some 85, some 86, some 87, some 88, some 89, some 90, some 91]) rfl ?_
                      simp only [sx, ty, Bool.false_eq_true, Int.reduceEq, Int.reduceLT, Nat.reduceAdd, Nat.reduceSub, Nat.reduceMul, Nat.reduceLT, Nat.reduceLeDiff, Nat.reduceEqDiff, List.reduceReplicate, reduceIte, beq_self_eq_true, bne_self_eq_false, Int.reduceBEq, Int.reduceBNe, Bool.or_false, Bool.false_or, Bool.not_false, Bool.not_true, Int.reduceToNat, Nat.zero_mul, Nat.zero_add, Nat.one_mul, Nat.mul_one, Int.toNat_natCast, hw1, hw2, hw3, hwk1, hwk3, hwk4]
                      refine WO.elem (y := (good.getD (i + m + 1) true)) hl2 (by simp [St.put]) (ds := [some 76, some 77, some 78, some 79, some 80, some 81, some 82, some 83, some 84, some 85, some 86, some 87, some 88, some 89, some 90, some 91]) rfl rfl rfl (by simp [St.put]) (fun _ => rfl) rfl rfl rfl rfl rfl el23 agg4 sz4 (.inr rfl) (by omega) (good_get (by simp at hg84; omega)) fun p ces hces => ?_
                      obtain rfl := rBool_open hces
                      clear hces
                      refine WO.go 2 (ds := [some 76, some 77, some 78, some 79, some 80, some 81, some 82, some 83, some 84, some 85, some 86, some 87, some 88, some 89, some 90, some 91]) rfl ?_
                      simp only [sx, ty, Bool.false_eq_true, Int.reduceEq, Int.reduceLT, Nat.reduceAdd, Nat.reduceSub, Nat.reduceMul, Nat.reduceLT, Nat.reduceLeDiff, Nat.reduceEqDiff, List.reduceReplicate, reduceIte, beq_self_eq_true, bne_self_eq_false, Int.reduceBEq, Int.reduceBNe, Bool.or_false, Bool.false_or, Bool.not_false, Bool.not_true, Int.reduceToNat, Nat.zero_mul, Nat.zero_add, Nat.one_mul, Nat.mul_one, Int.toNat_natCast, hw1, hw2, hw3, hwk1, hwk3, hwk4]
                      with_reducible refine WO.nil ?_
                      refine ⟨rfl, ?_, ⟨_, rfl⟩, by simp [Own.bnd, bndL, bnd, boxO], by simp⟩
                      try rw [hg78]
                      try rw [hg84]
                      simp [getE, bnd, keepE]
                      try simp_all
                      try omega
                    · skip
                      refine WO.go 7 (ds := [some 76, some 77, some 78, some 79, some 80, some 81, some 82, some 83, some 84, some 85, some 86, some 87, some 88, some 89, some 90, some 91]) rfl ?_
                      simp only [sx, ty, Bool.false_eq_true, Int.reduceEq, Int.reduceLT, Nat.reduceAdd, Nat.reduceSub, Nat.reduceMul, Nat.reduceLT, Nat.reduceLeDiff, Nat.reduceEqDiff, List.reduceReplicate, reduceIte, beq_self_eq_true, bne_self_eq_false, Int.reduceBEq, Int.reduceBNe, Bool.or_false, Bool.false_or, Bool.not_false, Bool.not_true, Int.reduceToNat, Nat.zero_mul, Nat.zero_add, Nat.one_mul, Nat.mul_one, Int.toNat_natCast, hw1, hw2, hw3, hwk1, hwk3, hwk4]
                      with_reducible refine WO.nil ?_
                      refine ⟨rfl, ?_, ⟨_, rfl⟩, by simp [Own.bnd, bndL, bnd, boxO], by simp⟩
                      try rw [hg78]
                      try rw [hg84]
                      simp [getE, bnd, keepE]
                      try simp_all
                      try omega
                  · skip
                    refine WO.go 13 (ds := [some 76, some 77, some 78, some 79, some 80, some 81, some 82, some 83, some 84, some 85, some 86, some 87, some 88, some 89, some 90, some 91]) rfl ?_
                    simp only [sx, ty, Bool.false_eq_true, Int.reduceEq, Int.reduceLT, Nat.reduceAdd, Nat.reduceSub, Nat.reduceMul, Nat.reduceLT, Nat.reduceLeDiff, Nat.reduceEqDiff, List.reduceReplicate, reduceIte, beq_self_eq_true, bne_self_eq_false, Int.reduceBEq, Int.reduceBNe, Bool.or_false, Bool.false_or, Bool.not_false, Bool.not_true, Int.reduceToNat, Nat.zero_mul, Nat.zero_add, Nat.one_mul, Nat.mul_one, Int.toNat_natCast, hw1, hw2, hw3, hwk1, hwk3, hwk4]
                    with_reducible refine WO.nil ?_
                    refine ⟨rfl, ?_, ⟨_, rfl⟩, by simp [Own.bnd, bndL, bnd, boxO], by simp⟩
                    try rw [hg78]
                    try rw [hg84]
                    simp [getE, bnd, keepE]
                    try simp_all
                    try omega
                · simp only [sx, ty, Bool.false_eq_true, Int.reduceEq, Int.reduceLT, Nat.reduceAdd, Nat.reduceSub, Nat.reduceMul, Nat.reduceLT, Nat.reduceLeDiff, Nat.reduceEqDiff, List.reduceReplicate, reduceIte, sxk, beq_self_eq_true, bne_self_eq_false, Int.reduceBEq, Int.reduceBNe, Bool.or_false, Bool.false_or, Bool.not_false, Bool.not_true, Int.reduceToNat, Nat.zero_mul, Nat.zero_add, Nat.one_mul, Nat.mul_one, Int.toNat_natCast, hw1, hw2, hw3, hwk1, hwk3, hwk4]
                  refine W.cond rfl rfl (fun hc => ?_) (fun hc => ?_)
                  · skip
                    simp only [Bool.and_eq_true, decide_eq_true_eq, Bool.not_eq_true'] at hc
                    have hcm : cf m = ((cell ws good wd (i + m + 1) (1 - s)).1 + 1, (cell ws good wd (i + m + 1) (1 - s)).2.1 + 1, ((i + m + 1 : Nat) : Int)) := by rw [hcf]; simp only [cand, badTurn]; rw [if_pos ⟨hc.1, hc.2.1, hc.2.2⟩]
                    refine W.region ?_
                    refine WO.go 5 (ds := []) rfl ?_
                    simp only [sx, ty, Bool.false_eq_true, Int.reduceEq, Int.reduceLT, Nat.reduceAdd, Nat.reduceSub, Nat.reduceMul, Nat.reduceLT, Nat.reduceLeDiff, Nat.reduceEqDiff, List.reduceReplicate, reduceIte, beq_self_eq_true, bne_self_eq_false, Int.reduceBEq, Int.reduceBNe, Bool.or_false, Bool.false_or, Bool.not_false, Bool.not_true, Int.reduceToNat, Nat.zero_mul, Nat.zero_add, Nat.one_mul, Nat.mul_one, Int.toNat_natCast, hw1, hw2, hw3, hwk1, hwk3, hwk4]
                    with_reducible refine WO.nil ?_
                    refine hK26 _ ?_
                    refine W.seqK fun K28 hK28 => W.region ?_
                    refine WO.go 2 (ds := []) rfl ?_
                    simp only [sx, ty, Bool.false_eq_true, Int.reduceEq, Int.reduceLT, Nat.reduceAdd, Nat.reduceSub, Nat.reduceMul, Nat.reduceLT, Nat.reduceLeDiff, Nat.reduceEqDiff, List.reduceReplicate, reduceIte, beq_self_eq_true, bne_self_eq_false, Int.reduceBEq, Int.reduceBNe, Bool.or_false, Bool.false_or, Bool.not_false, Bool.not_true, Int.reduceToNat, Nat.zero_mul, Nat.zero_add, Nat.one_mul, Nat.mul_one, Int.toNat_natCast, hw1, hw2, hw3, hwk1, hwk3, hwk4]
                    refine WO.call (.bool (lessF ((cell ws good wd (i + m + 1) (1 - s)).1 + 1, (cell ws good wd (i + m + 1) (1 - s)).2.1 + 1, ((i + m + 1 : Nat) : Int)) (bestTo ws.length cf m))) (ds := []) rfl rfl rfl rfl co36 (fun ρ w1 hb => less_spec w1 _ _) ?_
                    refine WO.go 1 (ds := []) rfl ?_
                    simp only [sx, ty, Bool.false_eq_true, Int.reduceEq, Int.reduceLT, Nat.reduceAdd, Nat.reduceSub, Nat.reduceMul, Nat.reduceLT, Nat.reduceLeDiff, Nat.reduceEqDiff, List.reduceReplicate, reduceIte, beq_self_eq_true, bne_self_eq_false, Int.reduceBEq, Int.reduceBNe, Bool.or_false, Bool.false_or, Bool.not_false, Bool.not_true, Int.reduceToNat, Nat.zero_mul, Nat.zero_add, Nat.one_mul, Nat.mul_one, Int.toNat_natCast, hw1, hw2, hw3, hwk1, hwk3, hwk4]
                    with_reducible refine WO.nil ?_
                    refine hK28 _ ?_; clear hK28
                    refine W.pure (ds := []) rfl fun K29 hK29 => ?_
                    simp only [sx, ty, Bool.false_eq_true, Int.reduceEq, Int.reduceLT, Nat.reduceAdd, Nat.reduceSub, Nat.reduceMul, Nat.reduceLT, Nat.reduceLeDiff, Nat.reduceEqDiff, List.reduceReplicate, reduceIte, beq_self_eq_true, bne_self_eq_false, Int.reduceBEq, Int.reduceBNe, Bool.or_false, Bool.false_or, Bool.not_false, Bool.not_true, Int.reduceToNat, Nat.zero_mul, Nat.zero_add, Nat.one_mul, Nat.mul_one, Int.toNat_natCast, hw1, hw2, hw3, hwk1, hwk3, hwk4]; with_reducible refine hK29 _ ?_; clear hK29
                    refine W.cond rfl rfl (fun hc => ?_) (fun hc => ?_)
                    · skip
                      have hls : lessF (cf m) (bestTo ws.length cf m) = true := by rw [hcm]; exact hc
                      have hB1 : (bestTo ws.length cf (m + 1)) = ((cell ws good wd (i + m + 1) (1 - s)).1 + 1, (cell ws good wd (i + m + 1) (1 - s)).2.1 + 1, ((i + m + 1 : Nat) : Int)) := by rw [bestTo, if_pos hls, hcm]
                      refine W.region ?_
                      refine WO.go 2 (ds := []) rfl ?_
                      simp only [sx, ty, Bool.false_eq_true, Int.reduceEq, Int.reduceLT, Nat.reduceAdd, Nat.reduceSub, Nat.reduceMul, Nat.reduceLT, Nat.reduceLeDiff, Nat.reduceEqDiff, List.reduceReplicate, reduceIte, beq_self_eq_true, bne_self_eq_false, Int.reduceBEq, Int.reduceBNe, Bool.or_false, Bool.false_or, Bool.not_false, Bool.not_true, Int.reduceToNat, Nat.zero_mul, Nat.zero_add, Nat.one_mul, Nat.mul_one, Int.toNat_natCast, hw1, hw2, hw3, hwk1, hwk3, hwk4]
                      with_reducible refine WO.nil ?_
                      refine hK21 _ ?_
                      refine W.region ?_
                      refine WO.go 3 (ds := []) rfl ?_
                      simp only [sx, ty, Bool.false_eq_true, Int.reduceEq, Int.reduceLT, Nat.reduceAdd, Nat.reduceSub, Nat.reduceMul, Nat.reduceLT, Nat.reduceLeDiff, Nat.reduceEqDiff, List.reduceReplicate, reduceIte, beq_self_eq_true, bne_self_eq_false, Int.reduceBEq, Int.reduceBNe, Bool.or_false, Bool.false_or, Bool.not_false, Bool.not_true, Int.reduceToNat, Nat.zero_mul, Nat.zero_add, Nat.one_mul, Nat.mul_one, Int.toNat_natCast, hw1, hw2, hw3, hwk1, hwk3, hwk4]
                      with_reducible refine WO.nil ?_
                      refine ⟨m + 1, hfit, by omega, rfl, by simp [getE, bnd, keepE, hwk1, hwk2, hwp], ⟨_, by simp only [hB1]; rfl⟩, by simp [Own.bnd, bndL, bnd], by simp⟩
                    · skip
                      have hls : ¬ lessF (cf m) (bestTo ws.length cf m) = true := by rw [hcm]; simpa using hc
                      have hB1 : (bestTo ws.length cf (m + 1)) = (bestTo ws.length cf m) := by rw [bestTo, if_neg hls]
                      refine W.skip (hK21 _ ?_)
                      refine W.region ?_
                      refine WO.go 3 (ds := []) rfl ?_
                      simp only [sx, ty, Bool.false_eq_true, Int.reduceEq, Int.reduceLT, Nat.reduceAdd, Nat.reduceSub, Nat.reduceMul, Nat.reduceLT, Nat.reduceLeDiff, Nat.reduceEqDiff, List.reduceReplicate, reduceIte, beq_self_eq_true, bne_self_eq_false, Int.reduceBEq, Int.reduceBNe, Bool.or_false, Bool.false_or, Bool.not_false, Bool.not_true, Int.reduceToNat, Nat.zero_mul, Nat.zero_add, Nat.one_mul, Nat.mul_one, Int.toNat_natCast, hw1, hw2, hw3, hwk1, hwk3, hwk4]
                      with_reducible refine WO.nil ?_
                      refine ⟨m + 1, hfit, by omega, rfl, by simp [getE, bnd, keepE, hwk1, hwk2, hwp], ⟨_, by simp only [hB1]; rfl⟩, by simp [Own.bnd, bndL, bnd], by simp⟩
                  · skip
                    have hcm : cf m = ((cell ws good wd (i + m + 1) (1 - s)).1, (cell ws good wd (i + m + 1) (1 - s)).2.1 + 1, ((i + m + 1 : Nat) : Int)) := by
                      rw [hcf]; simp only [cand, badTurn]; rw [if_neg, Int.add_zero]
                      rintro ⟨h1, h2, h3⟩; rw [h3] at hc; simp [h1, h2] at hc
                    refine W.skip (hK26 _ ?_)
                    refine W.seqK fun K30 hK30 => W.region ?_
                    refine WO.go 2 (ds := []) rfl ?_
                    simp only [sx, ty, Bool.false_eq_true, Int.reduceEq, Int.reduceLT, Nat.reduceAdd, Nat.reduceSub, Nat.reduceMul, Nat.reduceLT, Nat.reduceLeDiff, Nat.reduceEqDiff, List.reduceReplicate, reduceIte, beq_self_eq_true, bne_self_eq_false, Int.reduceBEq, Int.reduceBNe, Bool.or_false, Bool.false_or, Bool.not_false, Bool.not_true, Int.reduceToNat, Nat.zero_mul, Nat.zero_add, Nat.one_mul, Nat.mul_one, Int.toNat_natCast, hw1, hw2, hw3, hwk1, hwk3, hwk4]
                    refine WO.call (.bool (lessF ((cell ws good wd (i + m + 1) (1 - s)).1, (cell ws good wd (i + m + 1) (1 - s)).2.1 + 1, ((i + m + 1 : Nat) : Int)) (bestTo ws.length cf m))) (ds := []) rfl rfl rfl rfl co36 (fun ρ w1 hb => less_spec w1 _ _) ?_
                    refine WO.go 1 (ds := []) rfl ?_
                    simp only [sx, ty, Bool.false_eq_true, Int.reduceEq, Int.reduceLT, Nat.reduceAdd, Nat.reduceSub, Nat.reduceMul, Nat.reduceLT, Nat.reduceLeDiff, Nat.reduceEqDiff, List.reduceReplicate, reduceIte, beq_self_eq_true, bne_self_eq_false, Int.reduceBEq, Int.reduceBNe, Bool.or_false, Bool.false_or, Bool.not_false, Bool.not_true, Int.reduceToNat, Nat.zero_mul, Nat.zero_add, Nat.one_mul, Nat.mul_one, Int.toNat_natCast, hw1, hw2, hw3, hwk1, hwk3, hwk4]
                    with_reducible refine WO.nil ?_
                    refine hK30 _ ?_; clear hK30
                    refine W.pure (ds := []) rfl fun K31 hK31 => ?_
                    simp only [sx, ty, Bool.false_eq_true, Int.reduceEq, Int.reduceLT, Nat.reduceAdd, Nat.reduceSub, Nat.reduceMul, Nat.reduceLT, Nat.reduceLeDiff, Nat.reduceEqDiff, List.reduceReplicate, reduceIte, beq_self_eq_true, bne_self_eq_false, Int.reduceBEq, Int.reduceBNe, Bool.or_false, Bool.false_or, Bool.not_false, Bool.not_true, Int.reduceToNat, Nat.zero_mul, Nat.zero_add, Nat.one_mul, Nat.mul_one, Int.toNat_natCast, hw1, hw2, hw3, hwk1, hwk3, hwk4]; with_reducible refine hK31 _ ?_; clear hK31
                    refine W.cond rfl rfl (fun hc => ?_) (fun hc => ?_)
                    · skip
                      have hls : lessF (cf m) (bestTo ws.length cf m) = true := by rw [hcm]; exact hc
                      have hB1 : (bestTo ws.length cf (m + 1)) = ((cell ws good wd (i + m + 1) (1 - s)).1, (cell ws good wd (i + m + 1) (1 - s)).2.1 + 1, ((i + m + 1 : Nat) : Int)) := by rw [bestTo, if_pos hls, hcm]
                      refine W.region ?_
                      refine WO.go 2 (ds := []) rfl ?_
                      simp only [sx, ty, Bool.false_eq_true, Int.reduceEq, Int.reduceLT, Nat.reduceAdd, Nat.reduceSub, Nat.reduceMul, Nat.reduceLT, Nat.reduceLeDiff, Nat.reduceEqDiff, List.reduceReplicate, reduceIte, beq_self_eq_true, bne_self_eq_false, Int.reduceBEq, Int.reduceBNe, Bool.or_false, Bool.false_or, Bool.not_false, Bool.not_true, Int.reduceToNat, Nat.zero_mul, Nat.zero_add, Nat.one_mul, Nat.mul_one, Int.toNat_natCast, hw1, hw2, hw3, hwk1, hwk3, hwk4]
                      with_reducible refine WO.nil ?_
                      refine hK21 _ ?_
                      refine W.region ?_
                      refine WO.go 3 (ds := []) rfl ?_
                      simp only [sx, ty, Bool.false_eq_true, Int.reduceEq, Int.reduceLT, Nat.reduceAdd, Nat.reduceSub, Nat.reduceMul, Nat.reduceLT, Nat.reduceLeDiff, Nat.reduceEqDiff, List.reduceReplicate, reduceIte, beq_self_eq_true, bne_self_eq_false, Int.reduceBEq, Int.reduceBNe, Bool.or_false, Bool.false_or, Bool.not_false, Bool.not_true, Int.reduceToNat, Nat.zero_mul, Nat.zero_add, Nat.one_mul, Nat.mul_one, Int.toNat_natCast, hw1, hw2, hw3, hwk1, hwk3, hwk4]
                      with_reducible refine WO.nil ?_
                      refine ⟨m + 1, hfit, by omega, rfl, by simp [getE, bnd, keepE, hwk1, hwk2, hwp], ⟨_, by simp only [hB1]; rfl⟩, by simp [Own.bnd, bndL, bnd], by simp⟩
                    · skip
                      have hls : ¬ lessF (cf m) (bestTo ws.length cf m) = true := by rw [hcm]; simpa using hc
                      have hB1 : (bestTo ws.length cf (m + 1)) = (bestTo ws.length cf m) := by rw [bestTo, if_neg hls]
                      refine W.skip (hK21 _ ?_)
                      refine W.region ?_
                      refine WO.go 3 (ds := []) rfl ?_
                      simp only [sx, ty, Bool.false_eq_true, Int.reduceEq, Int.reduceLT, Nat.reduceAdd, Nat.reduceSub, Nat.reduceMul, Nat.reduceLT, Nat.reduceLeDiff, Nat.reduceEqDiff, List.reduceReplicate, reduceIte, beq_self_eq_true, bne_self_eq_false, Int.reduceBEq, Int.reduceBNe, Bool.or_false, Bool.false_or, Bool.not_false, Bool.not_true, Int.reduceToNat, Nat.zero_mul, Nat.zero_add, Nat.one_mul, Nat.mul_one, Int.toNat_natCast, hw1, hw2, hw3, hwk1, hwk3, hwk4]
                      with_reducible refine WO.nil ?_
                      refine ⟨m + 1, hfit, by omega, rfl, by simp [getE, bnd, keepE, hwk1, hwk2, hwp], ⟨_, by simp only [hB1]; rfl⟩, by simp [Own.bnd, bndL, bnd], by simp⟩
            · skip
              have hme : m = fitL wd sub := by simp at hc; omega
              have hcell : cell ws good wd i s = bestTo ws.length cf m := by rw [hce, hme]
              refine W.exit (hK17 _ ?_)
              refine W.regionT' 6 [] [0, 1, 2, 3, 4, 5] mixed (by kernel_rfl) ?_
              simp only [sx, ty, Bool.false_eq_true, Int.reduceEq, Int.reduceLT, Nat.reduceAdd, Nat.reduceSub, Nat.reduceMul, Nat.reduceLT, Nat.reduceLeDiff, Nat.reduceEqDiff, List.reduceReplicate, reduceIte, sxt, List.toList_toArray, beq_self_eq_true, bne_self_eq_false, Int.reduceBEq, Int.reduceBNe, Bool.or_false, Bool.false_or, Bool.not_false, Bool.not_true, Int.reduceToNat, Nat.zero_mul, Nat.zero_add, Nat.one_mul, Nat.mul_one, Int.toNat_natCast, hw1, hw2]
              refine WQ.go 1 (ds := []) rfl ?_
              simp only [sx, ty, Bool.false_eq_true, Int.reduceEq, Int.reduceLT, Nat.reduceAdd, Nat.reduceSub, Nat.reduceMul, Nat.reduceLT, Nat.reduceLeDiff, Nat.reduceEqDiff, List.reduceReplicate, reduceIte, sxq, Bool.false_eq_true, beq_self_eq_true, bne_self_eq_false, Int.reduceBEq, Int.reduceBNe, Bool.or_false, Bool.false_or, Bool.not_false, Bool.not_true, Int.reduceToNat, Nat.zero_mul, Nat.zero_add, Nat.one_mul, Nat.mul_one, Int.toNat_natCast, hw1, hw2]
              refine WQ.q (ds := []) rfl rfl rfl (QR.arr rfl rfl rfl ar54 (by omega) (by omega)) ?_
              refine WQ.q (ds := []) rfl rfl rfl (QR.cell (k := 1) (T := 54) (cs := [.val (.slice (some ⟨(bs 0), 0, none⟩) (ws.length + 1) (ws.length + 1)), .val (.slice (some ⟨(bs 1), 0, none⟩) (ws.length + 1) (ws.length + 1))]) (s := .val (.slice (some ⟨(bs s), 0, none⟩) (ws.length + 1) (ws.length + 1))) rfl rfl rfl (by rcases hs01 with rfl | rfl <;> rfl) agg53 sz53) ?_
              refine WQ.go 2 (ds := []) rfl ?_
              simp only [sx, ty, Bool.false_eq_true, Int.reduceEq, Int.reduceLT, Nat.reduceAdd, Nat.reduceSub, Nat.reduceMul, Nat.reduceLT, Nat.reduceLeDiff, Nat.reduceEqDiff, List.reduceReplicate, reduceIte, sxq, Bool.false_eq_true, beq_self_eq_true, bne_self_eq_false, Int.reduceBEq, Int.reduceBNe, Bool.or_false, Bool.false_or, Bool.not_false, Bool.not_true, Int.reduceToNat, Nat.zero_mul, Nat.zero_add, Nat.one_mul, Nat.mul_one, Int.toNat_natCast, hw1, hw2]
              refine WQ.q (ds := []) rfl rfl rfl (QR.idx rfl rfl rfl el53 (by omega) (by omega)) ?_
              simp only [sx, ty, Bool.false_eq_true, Int.reduceEq, Int.reduceLT, Nat.reduceAdd, Nat.reduceSub, Nat.reduceMul, Nat.reduceLT, Nat.reduceLeDiff, Nat.reduceEqDiff, List.reduceReplicate, reduceIte, beq_self_eq_true, bne_self_eq_false, Int.reduceBEq, Int.reduceBNe, Bool.or_false, Bool.false_or, Bool.not_false, Bool.not_true, Int.reduceToNat, Nat.zero_mul, Nat.zero_add, Nat.one_mul, Nat.mul_one, Int.toNat_natCast, hw1, hw2]
              with_reducible refine WQ.nil ?_
              refine WO.storeRow (T := 57) (k := 2 + s) (b := bs s) (sz := 3) (n := (ws.length + 1)) (c := (ws.length + 1)) (xs := rowR ws good wd (i + 1) s s) (u := .agg (cellV (bestTo ws.length cf m)).toArray) (i * 3) (cellV (bestTo ws.length cf m)) (by rcases hs01 with rfl | rfl <;> rfl) (ds := []) rfl rfl rfl rfl rfl (by simp [Addr.add_mid]) (by rw [rowR_len]; simp only [cellV, List.length_cons, List.length_nil]; omega) (by simp [cellV]) ⟨_, rfl, fun ρ => rfl⟩ rfl (by simp [cellV, Value.oneCell']) sz57 ?_
              rw [← hcell, show (cellV (cell ws good wd i s)).length = 3 from rfl, rowR_set ws good wd hil]
              refine WO.ownIs [.cells 54 [.val (.slice none 0 0), .val (.slice none 0 0)], .cells 54 [.val (.slice (some ⟨(bs 0), 0, none⟩) (ws.length + 1) (ws.length + 1)), .val (.slice (some ⟨(bs 1), 0, none⟩) (ws.length + 1) (ws.length + 1))], .slice 57 3 (.slice (some ⟨(bs 0), 0, none⟩) (ws.length + 1) (ws.length + 1)) (ws.length + 1) (rowR ws good wd (i + 1) (s + 1) 0), .slice 57 3 (.slice (some ⟨(bs 1), 0, none⟩) (ws.length + 1) (ws.length + 1)) (ws.length + 1) (rowR ws good wd (i + 1) (s + 1) 1), .cells 57 [.val (.int .i64 (cell ws good wd i s).1), .val (.int .i64 (cell ws good wd i s).2.1), .val (.int .i64 (cell ws good wd i s).2.2)]] (by rcases hs01 with rfl | rfl <;> simp [setOwn, setN, St.put, rowR_other]) ?_
              simp only [sx, ty, Bool.false_eq_true, Int.reduceEq, Int.reduceLT, Nat.reduceAdd, Nat.reduceSub, Nat.reduceMul, Nat.reduceLT, Nat.reduceLeDiff, Nat.reduceEqDiff, List.reduceReplicate, reduceIte, beq_self_eq_true, bne_self_eq_false, Int.reduceBEq, Int.reduceBNe, Bool.or_false, Bool.false_or, Bool.not_false, Bool.not_true, Int.reduceToNat, Nat.zero_mul, Nat.zero_add, Nat.one_mul, Nat.mul_one, Int.toNat_natCast, hw1, hw2]
              with_reducible refine WO.nil ?_
              refine hK14 _ ?_
              refine W.region ?_
              refine WO.go 3 (ds := []) rfl ?_
              simp only [sx, ty, Bool.false_eq_true, Int.reduceEq, Int.reduceLT, Nat.reduceAdd, Nat.reduceSub, Nat.reduceMul, Nat.reduceLT, Nat.reduceLeDiff, Nat.reduceEqDiff, List.reduceReplicate, reduceIte, beq_self_eq_true, bne_self_eq_false, Int.reduceBEq, Int.reduceBNe, Bool.or_false, Bool.false_or, Bool.not_false, Bool.not_true, Int.reduceToNat, Nat.zero_mul, Nat.zero_add, Nat.one_mul, Nat.mul_one, Int.toNat_natCast, hw1, hw2]
              with_reducible refine WO.nil ?_
              refine ⟨s + 1, ?_, by omega, rfl, by simp [getE, bnd, keepE, wrap_succ (show s + 1 ≤ 9223372036854775807 by omega)], ⟨_, rfl⟩, by simp [Own.bnd, bndL, bnd, boxO], by simp⟩
              show s + 1 ≤ 2; omega
        · skip
          obtain rfl : s = 2 := by simp at hc; omega
          refine W.exit (hK10 _ ?_)
          refine W.region ?_
          refine WO.go 3 (ds := []) rfl ?_
          simp only [sx, ty, Bool.false_eq_true, Int.reduceEq, Int.reduceLT, Nat.reduceAdd, Nat.reduceSub, Nat.reduceMul, Nat.reduceLT, Nat.reduceLeDiff, Nat.reduceEqDiff, List.reduceReplicate, reduceIte, beq_self_eq_true, bne_self_eq_false, Int.reduceBEq, Int.reduceBNe, Bool.or_false, Bool.false_or, Bool.not_false, Bool.not_true, Int.reduceToNat, Nat.zero_mul, Nat.zero_add, Nat.one_mul, Nat.mul_one, Int.toNat_natCast, hw1, hw2]
          with_reducible refine WO.nil ?_
          refine ⟨i, by omega, by omega, rfl, by simp [getE, bnd, keepE, wrap_id (x := (i : Int) - 1) (by omega) (by omega)], ⟨[], by simp only [rowR_next ws good wd (show 0 < 2 by omega), rowR_next ws good wd (show 1 < 2 by omega), List.append_nil]⟩, by simp [Own.bnd, bndL, bnd], by simp⟩
    · skip
      obtain rfl : i0 = 0 := by simp at hc; omega
      refine W.exit (hK6 _ ?_)
      refine W.pure (ds := []) rfl fun K32 hK32 => ?_
      simp only [sx, ty, Bool.false_eq_true, Int.reduceEq, Int.reduceLT, Nat.reduceAdd, Nat.reduceSub, Nat.reduceMul, Nat.reduceLT, Nat.reduceLeDiff, Nat.reduceEqDiff, List.reduceReplicate, reduceIte, beq_self_eq_true, bne_self_eq_false, Int.reduceBEq, Int.reduceBNe, Bool.or_false, Bool.false_or, Bool.not_false, Bool.not_true, Int.reduceToNat, Nat.zero_mul, Nat.zero_add, Nat.one_mul, Nat.mul_one, Int.toNat_natCast, hw1, hw2]; with_reducible refine hK32 _ ?_; clear hK32
      refine W.ret ?_
      refine ⟨by simp, RunR.ex ?_⟩
      simp only [sx, ty, Bool.false_eq_true, Int.reduceEq, Int.reduceLT, Nat.reduceAdd, Nat.reduceSub, Nat.reduceMul, Nat.reduceLT, Nat.reduceLeDiff, Nat.reduceEqDiff, List.reduceReplicate, reduceIte, sxr, beq_self_eq_true, bne_self_eq_false, Int.reduceBEq, Int.reduceBNe, Bool.or_false, Bool.false_or, Bool.not_false, Bool.not_true, Int.reduceToNat, Nat.zero_mul, Nat.zero_add, Nat.one_mul, Nat.mul_one, Int.toNat_natCast, hw1, hw2]
      intro ρ w1 hb
      refine ⟨(bs 0, bs 1), rfl, ?_, ?_⟩
      · exact own_slice (A := rCell) (k := 2) (xs := rowR ws good wd 0 0 0) hb rfl (tabL_len ws good wd 0).symm (fun b hb' => own_new hb (by simp) (k := 2) rfl hb') (by rw [rowR_whole]; exact cells_read _)
      · exact own_slice (A := rCell) (k := 3) (xs := rowR ws good wd 0 0 1) hb rfl (tabL_len ws good wd 1).symm (fun b hb' => own_new hb (by simp) (k := 3) rfl hb') (by rw [rowR_whole]; exact cells_read _)
end Go.Proofs.Ytpggkomalbbofaa
