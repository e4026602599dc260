/-
  Codec: the examples; helpers of the laws: walks.
-/
import Derived.Test.YtnbfdncmlbegmaaC14
set_option linter.unusedVariables false
set_option linter.unusedSimpArgs false
set_option maxHeartbeats 1000000
namespace Go.Proofs.Ytnbfdncmlbegmaa
open Go Go.SX Go.RowKit

def frH : List Int := [0, 0, 2, 2, 10, 246, 22, 11, 217, 47, 1, 162, 197]
theorem putH : PutF [0, -1, 64] = ([6, 0, 1, 128, 1], 0) := by decide
theorem getH : GetF [2, 128, 0] = ([], 7) := by decide
theorem frameH : FrameF [5] = (frH, 0) := by decide +kernel
theorem framesH : FramesF (frH ++ [0, 0]) = ([[5]], 13, 0) := by decide +kernel
theorem frH_isB : ∀ x, x ∈ frH ++ [0, 0] → isB x := by unfold isB; decide
/-- function 9 -/
theorem head_spec (w : World) : Gives Try.prog 9 #[] w fun r _ => r = .bool true := by
  refine gives_of [] 78 [.tmp 0] Try.func9 rfl rfl rfl (by simp) rfl rfl ?_
  refine W.pure (ds := []) rfl fun K1 hK1 => ?_
  simp only [sx, ty, Bool.false_eq_true, Int.reduceEq, Int.reduceLT, Nat.reduceAdd, Nat.reduceSub, Nat.reduceMul, Nat.reduceLT, Nat.reduceLeDiff, Nat.reduceEqDiff, List.reduceReplicate, reduceIte, beq_self_eq_true, bne_self_eq_false, Int.reduceBEq, Int.reduceBNe, Bool.or_false, Bool.false_or, Bool.not_false, Bool.not_true, mbits, Int.reduceToNat, Int.reducePow, Int.toNat_natCast]; with_reducible refine hK1 _ ?_; clear hK1
  refine W.seqK fun K2 hK2 => W.region ?_
  refine WO.go 1 (ds := []) rfl ?_
  simp only [sx, ty, Bool.false_eq_true, Int.reduceEq, Int.reduceLT, Nat.reduceAdd, Nat.reduceSub, Nat.reduceMul, Nat.reduceLT, Nat.reduceLeDiff, Nat.reduceEqDiff, List.reduceReplicate, reduceIte, beq_self_eq_true, bne_self_eq_false, Int.reduceBEq, Int.reduceBNe, Bool.or_false, Bool.false_or, Bool.not_false, Bool.not_true, mbits, Int.reduceToNat, Int.reducePow, Int.toNat_natCast]
  refine WO.callM (fun x : Option Addr × Nat => .tuple #[.slice x.1 5 x.2, .int .i64 0]) (fun lo x s9 => rBytes.rd (fun b => lo ≤ b) s9 [.slice x.1 5 x.2] [6, 0, 1, 128, 1]) (ds := []) rfl rfl rfl rfl co10 (fun ρ w1 hb => by have h9 := Put_spec (own_listS (S := fun _ => True) (A := rInt) (k := 0) (n := 3) (c := 3) (xs := [0, -1, 64]) hb rfl rfl (Nat.le_refl _) (by decide) trivial (ints_read [0, -1, 64])) (by unfold isI; decide); rw [putH] at h9; exact h9) fun x lo hr1s hr1 => ?_
  obtain ⟨hr1p, hr1c⟩ := x
  simp only at hr1
  refine WO.go 5 (ds := []) rfl ?_
  simp only [sx, ty, Bool.false_eq_true, Int.reduceEq, Int.reduceLT, Nat.reduceAdd, Nat.reduceSub, Nat.reduceMul, Nat.reduceLT, Nat.reduceLeDiff, Nat.reduceEqDiff, List.reduceReplicate, reduceIte, beq_self_eq_true, bne_self_eq_false, Int.reduceBEq, Int.reduceBNe, Bool.or_false, Bool.false_or, Bool.not_false, Bool.not_true, mbits, Int.reduceToNat, Int.reducePow, Int.toNat_natCast]
  with_reducible refine WO.nil ?_
  refine hK2 _ ?_; clear hK2
  refine W.seqK fun K3 hK3 => W.region ?_
  refine WO.go 1 (ds := []) rfl ?_
  simp only [sx, ty, Bool.false_eq_true, Int.reduceEq, Int.reduceLT, Nat.reduceAdd, Nat.reduceSub, Nat.reduceMul, Nat.reduceLT, Nat.reduceLeDiff, Nat.reduceEqDiff, List.reduceReplicate, reduceIte, beq_self_eq_true, bne_self_eq_false, Int.reduceBEq, Int.reduceBNe, Bool.or_false, Bool.false_or, Bool.not_false, Bool.not_true, mbits, Int.reduceToNat, Int.reducePow, Int.toNat_natCast]
  refine WO.callM (fun x : Option Addr × Nat => .tuple #[.slice x.1 0 x.2, .int .i64 7]) (fun lo x s9 => rInts.rd (fun b => lo ≤ b) s9 [.slice x.1 0 x.2] ([] : List Int)) (ds := []) rfl rfl rfl rfl co15 (fun ρ w1 hb => by have h9 := Get_spec (own_listS (S := fun _ => True) (A := rByte) (k := 1) (n := 3) (c := 3) (xs := [2, 128, 0]) hb rfl rfl (Nat.le_refl _) (by decide) trivial (bytes_read [2, 128, 0])) (by unfold isB; decide); rw [getH] at h9; exact h9) fun x lo hr2s hr2 => ?_
  obtain ⟨hr2p, hr2c⟩ := x
  simp only at hr2
  refine WO.go 5 (ds := []) rfl ?_
  simp only [sx, ty, Bool.false_eq_true, Int.reduceEq, Int.reduceLT, Nat.reduceAdd, Nat.reduceSub, Nat.reduceMul, Nat.reduceLT, Nat.reduceLeDiff, Nat.reduceEqDiff, List.reduceReplicate, reduceIte, beq_self_eq_true, bne_self_eq_false, Int.reduceBEq, Int.reduceBNe, Bool.or_false, Bool.false_or, Bool.not_false, Bool.not_true, mbits, Int.reduceToNat, Int.reducePow, Int.toNat_natCast]
  with_reducible refine WO.nil ?_
  refine hK3 _ ?_; clear hK3
  refine W.seqK fun K4 hK4 => W.region ?_
  refine WO.go 1 (ds := []) rfl ?_
  simp only [sx, ty, Bool.false_eq_true, Int.reduceEq, Int.reduceLT, Nat.reduceAdd, Nat.reduceSub, Nat.reduceMul, Nat.reduceLT, Nat.reduceLeDiff, Nat.reduceEqDiff, List.reduceReplicate, reduceIte, beq_self_eq_true, bne_self_eq_false, Int.reduceBEq, Int.reduceBNe, Bool.or_false, Bool.false_or, Bool.not_false, Bool.not_true, mbits, Int.reduceToNat, Int.reducePow, Int.toNat_natCast]
  refine WO.callM (fun x : Option Addr × Nat => .tuple #[.slice x.1 13 x.2, .int .i64 0]) (fun lo x s9 => rBytes.rd (fun b => lo ≤ b) s9 [.slice x.1 13 x.2] frH) (ds := []) rfl rfl rfl rfl co13 (fun ρ w1 hb => by have h9 := Frame_spec (own_listS (S := fun _ => True) (A := rInt) (k := 2) (n := 1) (c := 1) (xs := [5]) hb rfl rfl (Nat.le_refl _) (by decide) trivial (ints_read [5])) (by unfold isI; decide); rw [frameH] at h9; exact h9) fun x lo hr3s hr3 => ?_
  obtain ⟨hr3p, hr3c⟩ := x
  simp only at hr3
  obtain h9 | ⟨a3, olds, ha3, hnl, hSD, hzD, holD, hatD, hrdD⟩ := Rp.slice_cells hr3
  · simp [frH] at h9
  have hE := bytes_cells (xs := frH) (by rw [holD]; rfl) hrdD
  have hatE : At hr3s a3 (frH.map (Value.int .u8)) := by rw [← hE]; exact hatD
  clear hE
  subst ha3
  refine WO.go 5 (ds := []) rfl ?_
  simp only [sx, ty, Bool.false_eq_true, Int.reduceEq, Int.reduceLT, Nat.reduceAdd, Nat.reduceSub, Nat.reduceMul, Nat.reduceLT, Nat.reduceLeDiff, Nat.reduceEqDiff, List.reduceReplicate, reduceIte, beq_self_eq_true, bne_self_eq_false, Int.reduceBEq, Int.reduceBNe, Bool.or_false, Bool.false_or, Bool.not_false, Bool.not_true, mbits, Int.reduceToNat, Int.reducePow, Int.toNat_natCast]
  with_reducible refine WO.nil ?_
  refine hK4 _ ?_; clear hK4
  refine W.seqK fun K5 hK5 => W.region ?_
  refine WO.go 2 (ds := []) rfl ?_
  simp only [sx, ty, Bool.false_eq_true, Int.reduceEq, Int.reduceLT, Nat.reduceAdd, Nat.reduceSub, Nat.reduceMul, Nat.reduceLT, Nat.reduceLeDiff, Nat.reduceEqDiff, List.reduceReplicate, reduceIte, beq_self_eq_true, bne_self_eq_false, Int.reduceBEq, Int.reduceBNe, Bool.or_false, Bool.false_or, Bool.not_false, Bool.not_true, mbits, Int.reduceToNat, Int.reducePow, Int.toNat_natCast]
  refine WO.appendFull (n := 0) (m := 13) [] (frH.map (.int .u8)) (ds := []) rfl rfl rfl rfl ⟨_, rfl, fun ρ w1 hb => ⟨⟨ρ 3, 0, none⟩, rfl, fun j v hv => by simp at hv⟩⟩ rfl ek23 rfl (by omega) (fun ρ w1 hb => ⟨a3, hr3c, rfl, hatE.now hb (by simp) hSD hzD⟩) (by simp [frH]) (by rw [maxLen_eq]; omega) (by omega) fun q1 cq1 => ?_
  refine WO.go 1 (ds := []) rfl ?_
  simp only [sx, ty, Bool.false_eq_true, Int.reduceEq, Int.reduceLT, Nat.reduceAdd, Nat.reduceSub, Nat.reduceMul, Nat.reduceLT, Nat.reduceLeDiff, Nat.reduceEqDiff, List.reduceReplicate, reduceIte, beq_self_eq_true, bne_self_eq_false, Int.reduceBEq, Int.reduceBNe, Bool.or_false, Bool.false_or, Bool.not_false, Bool.not_true, mbits, Int.reduceToNat, Int.reducePow, Int.toNat_natCast]
  refine WO.append (k := 4) (m := 2) [.int .u8 0, .int .u8 0] (ds := []) rfl rfl rfl rfl rfl rfl rfl ek23 (news_own (k2 := 5) rfl fun _ => rfl) rfl (by simp [Value.oneCell']) (by rw [maxLen_eq]; omega) (by omega) fun p6 c6 => ?_
  simp only [sx, ty, Bool.false_eq_true, Int.reduceEq, Int.reduceLT, Nat.reduceAdd, Nat.reduceSub, Nat.reduceMul, Nat.reduceLT, Nat.reduceLeDiff, Nat.reduceEqDiff, List.reduceReplicate, reduceIte, beq_self_eq_true, bne_self_eq_false, Int.reduceBEq, Int.reduceBNe, Bool.or_false, Bool.false_or, Bool.not_false, Bool.not_true, mbits, Int.reduceToNat, Int.reducePow, Int.toNat_natCast]
  refine WO.callM (fun x : Option Addr × Nat => .tuple #[.slice x.1 1 x.2, .int .i64 13, .int .i64 0]) (fun lo x s9 => rLists.rd (fun b => lo ≤ b) s9 [.slice x.1 1 x.2] [[5]]) (ds := []) rfl rfl rfl rfl co18 (fun ρ w1 hb => by have h9 := Frames_spec (own_slice (A := rByte) (k := 4) (S := fun _ => True) (xs := (frH ++ [0, 0]).map (.int .u8)) hb rfl rfl (fun _ _ => trivial) (bytes_read (frH ++ [0, 0]))) frH_isB; rw [framesH] at h9; exact h9) fun x lo hr4s hr4 => ?_
  obtain ⟨hr4p, hr4c⟩ := x
  simp only at hr4
  refine WO.go 7 (ds := []) rfl ?_
  simp only [sx, ty, Bool.false_eq_true, Int.reduceEq, Int.reduceLT, Nat.reduceAdd, Nat.reduceSub, Nat.reduceMul, Nat.reduceLT, Nat.reduceLeDiff, Nat.reduceEqDiff, List.reduceReplicate, reduceIte, beq_self_eq_true, bne_self_eq_false, Int.reduceBEq, Int.reduceBNe, Bool.or_false, Bool.false_or, Bool.not_false, Bool.not_true, mbits, Int.reduceToNat, Int.reducePow, Int.toNat_natCast]
  with_reducible refine WO.nil ?_
  refine hK5 _ ?_; clear hK5
  refine W.join 10 (.val (.bool true)) [1, 5, 7, 8] (W.region ?_) ?_
  · skip
    refine WO.go 15 (ds := [some 36, some 37, some 38, some 39, some 40, some 41, some 42, some 43, some 44, some 45, some 46, some 47, some 48, some 49, some 10]) rfl ?_
    simp only [sx, ty, Bool.false_eq_true, Int.reduceEq, Int.reduceLT, Nat.reduceAdd, Nat.reduceSub, Nat.reduceMul, Nat.reduceLT, Nat.reduceLeDiff, Nat.reduceEqDiff, List.reduceReplicate, reduceIte, beq_self_eq_true, bne_self_eq_false, Int.reduceBEq, Int.reduceBNe, Bool.or_false, Bool.false_or, Bool.not_false, Bool.not_true, mbits, Int.reduceToNat, Int.reducePow, Int.toNat_natCast]
    with_reducible refine WO.nil ?_
    refine ⟨rfl, by simp [getE, bnd, keepE], ⟨_, rfl⟩, by simp [Own.bnd, bndL, bnd, boxO], by simp⟩
  · simp only [sx, ty, Bool.false_eq_true, Int.reduceEq, Int.reduceLT, Nat.reduceAdd, Nat.reduceSub, Nat.reduceMul, Nat.reduceLT, Nat.reduceLeDiff, Nat.reduceEqDiff, List.reduceReplicate, reduceIte, sxk, beq_self_eq_true, bne_self_eq_false, Int.reduceBEq, Int.reduceBNe, Bool.or_false, Bool.false_or, Bool.not_false, Bool.not_true, mbits, Int.reduceToNat, Int.reducePow, Int.toNat_natCast]
    refine W.join 10 (.val (.bool true)) [5, 7, 8] (W.region ?_) ?_
    · skip
      refine WO.go 4 (ds := [some 50, some 51, some 52, some 53, some 54, some 55, some 56, some 57, some 58, some 59, some 60, some 10]) rfl ?_
      simp only [sx, ty, Bool.false_eq_true, Int.reduceEq, Int.reduceLT, Nat.reduceAdd, Nat.reduceSub, Nat.reduceMul, Nat.reduceLT, Nat.reduceLeDiff, Nat.reduceEqDiff, List.reduceReplicate, reduceIte, beq_self_eq_true, bne_self_eq_false, Int.reduceBEq, Int.reduceBNe, Bool.or_false, Bool.false_or, Bool.not_false, Bool.not_true, mbits, Int.reduceToNat, Int.reducePow, Int.toNat_natCast]
      refine WO.call (.bool true) (ds := [some 50, some 51, some 52, some 53, some 54, some 55, some 56, some 57, some 58, some 59, some 60, some 10]) rfl rfl rfl rfl co12 (fun ρ w1 hb => by have h9 := sameB_spec (Rp.keep hr1 (hb.at (by simp))) (own_listS (S := fun _ => True) (A := rByte) (k := 6) (n := 5) (c := 5) (xs := [6, 0, 1, 128, 1]) hb rfl rfl (Nat.le_refl _) (by decide) trivial (bytes_read [6, 0, 1, 128, 1])) (by unfold isB; decide) (by unfold isB; decide); exact h9) ?_
      refine WO.go 7 (ds := [some 50, some 51, some 52, some 53, some 54, some 55, some 56, some 57, some 58, some 59, some 60, some 10]) rfl ?_
      simp only [sx, ty, Bool.false_eq_true, Int.reduceEq, Int.reduceLT, Nat.reduceAdd, Nat.reduceSub, Nat.reduceMul, Nat.reduceLT, Nat.reduceLeDiff, Nat.reduceEqDiff, List.reduceReplicate, reduceIte, beq_self_eq_true, bne_self_eq_false, Int.reduceBEq, Int.reduceBNe, Bool.or_false, Bool.false_or, Bool.not_false, Bool.not_true, mbits, Int.reduceToNat, Int.reducePow, Int.toNat_natCast]
      with_reducible refine WO.nil ?_
      refine ⟨rfl, by simp [getE, bnd, keepE], ⟨_, rfl⟩, by simp [Own.bnd, bndL, bnd, boxO], by simp⟩
    · simp only [sx, ty, Bool.false_eq_true, Int.reduceEq, Int.reduceLT, Nat.reduceAdd, Nat.reduceSub, Nat.reduceMul, Nat.reduceLT, Nat.reduceLeDiff, Nat.reduceEqDiff, List.reduceReplicate, reduceIte, sxk, beq_self_eq_true, bne_self_eq_false, Int.reduceBEq, Int.reduceBNe, Bool.or_false, Bool.false_or, Bool.not_false, Bool.not_true, mbits, Int.reduceToNat, Int.reducePow, Int.toNat_natCast]
      refine W.join 0 (.val (.bool true)) [] (W.region ?_) ?_
      · skip
        refine WO.go 3 (ds := [some 61, some 62, some 63, some 64, some 65, some 66, some 67, some 68, some 69, some 70, some 71, some 72, some 73, some 74, some 75, some 76, some 77, some 0]) rfl ?_
        simp only [sx, ty, Bool.false_eq_true, Int.reduceEq, Int.reduceLT, Nat.reduceAdd, Nat.reduceSub, Nat.reduceMul, Nat.reduceLT, Nat.reduceLeDiff, Nat.reduceEqDiff, List.reduceReplicate, reduceIte, beq_self_eq_true, bne_self_eq_false, Int.reduceBEq, Int.reduceBNe, Bool.or_false, Bool.false_or, Bool.not_false, Bool.not_true, mbits, Int.reduceToNat, Int.reducePow, Int.toNat_natCast]
        obtain ⟨_, _, he0, g1, g2⟩ := Rp.slice_val hr3
        obtain ⟨_, _, rfl⟩ := (Value.slice.injEq _ _ _ _ _ _).mp he0
        have g1 : 13 ≤ hr3c := g1
        obtain ⟨p7, c7, he7, hl7⟩ := Rp.sub (l := 0) (h := 5) hr3 (by omega) (by omega)
        refine WO.slc (ds := [some 61, some 62, some 63, some 64, some 65, some 66, some 67, some 68, some 69, some 70, some 71, some 72, some 73, some 74, some 75, some 76, some 77, some 0]) rfl rfl rfl rfl rfl el23 rfl rfl (by simp [loS]) (by simp [loS, hiS]) (by simp [hiS]; omega) ?_
        rw [show slcV 1 (some a3) hr3c (loS none).toNat (hiS 13 (some (IntKind.i64, 5))).toNat = .slice p7 5 c7 from he7]
        refine WO.go 1 (ds := [some 61, some 62, some 63, some 64, some 65, some 66, some 67, some 68, some 69, some 70, some 71, some 72, some 73, some 74, some 75, some 76, some 77, some 0]) rfl ?_
        simp only [sx, ty, Bool.false_eq_true, Int.reduceEq, Int.reduceLT, Nat.reduceAdd, Nat.reduceSub, Nat.reduceMul, Nat.reduceLT, Nat.reduceLeDiff, Nat.reduceEqDiff, List.reduceReplicate, reduceIte, beq_self_eq_true, bne_self_eq_false, Int.reduceBEq, Int.reduceBNe, Bool.or_false, Bool.false_or, Bool.not_false, Bool.not_true, mbits, Int.reduceToNat, Int.reducePow, Int.toNat_natCast]
        refine WO.call (.bool true) (ds := [some 61, some 62, some 63, some 64, some 65, some 66, some 67, some 68, some 69, some 70, some 71, some 72, some 73, some 74, some 75, some 76, some 77, some 0]) rfl rfl rfl rfl co12 (fun ρ w1 hb => by have h9 := sameB_spec (Rp.keep hl7 (hb.at (by simp))) (own_listS (S := fun _ => True) (A := rByte) (k := 6) (n := 5) (c := 5) (xs := [0, 0, 2, 2, 10]) hb rfl rfl (Nat.le_refl _) (by decide) trivial (bytes_read [0, 0, 2, 2, 10])) (by unfold isB; decide) (by unfold isB; decide); exact h9) ?_
        refine WO.go 9 (ds := [some 61, some 62, some 63, some 64, some 65, some 66, some 67, some 68, some 69, some 70, some 71, some 72, some 73, some 74, some 75, some 76, some 77, some 0]) rfl ?_
        simp only [sx, ty, Bool.false_eq_true, Int.reduceEq, Int.reduceLT, Nat.reduceAdd, Nat.reduceSub, Nat.reduceMul, Nat.reduceLT, Nat.reduceLeDiff, Nat.reduceEqDiff, List.reduceReplicate, reduceIte, beq_self_eq_true, bne_self_eq_false, Int.reduceBEq, Int.reduceBNe, Bool.or_false, Bool.false_or, Bool.not_false, Bool.not_true, mbits, Int.reduceToNat, Int.reducePow, Int.toNat_natCast]
        refine WO.call (.bool true) (ds := [some 61, some 62, some 63, some 64, some 65, some 66, some 67, some 68, some 69, some 70, some 71, some 72, some 73, some 74, some 75, some 76, some 77, some 0]) rfl rfl rfl rfl co20 (fun ρ w1 hb => by have h9 := sameL_spec (Rp.keep hr4 (hb.at (by simp))) (own_listS (S := fun _ => True) (A := rInts) (k := 8) (n := 1) (c := 1) (xs := [[5]]) hb rfl rfl (Nat.le_refl _) (by decide) trivial (Rp.one (own_listS (S := fun _ => True) (A := rInt) (k := 7) (n := 1) (c := 1) (xs := [5]) hb rfl rfl (Nat.le_refl _) (by decide) trivial (ints_read [5])))); exact h9) ?_
        refine WO.go 2 (ds := [some 61, some 62, some 63, some 64, some 65, some 66, some 67, some 68, some 69, some 70, some 71, some 72, some 73, some 74, some 75, some 76, some 77, some 0]) rfl ?_
        simp only [sx, ty, Bool.false_eq_true, Int.reduceEq, Int.reduceLT, Nat.reduceAdd, Nat.reduceSub, Nat.reduceMul, Nat.reduceLT, Nat.reduceLeDiff, Nat.reduceEqDiff, List.reduceReplicate, reduceIte, beq_self_eq_true, bne_self_eq_false, Int.reduceBEq, Int.reduceBNe, Bool.or_false, Bool.false_or, Bool.not_false, Bool.not_true, mbits, Int.reduceToNat, Int.reducePow, Int.toNat_natCast]
        with_reducible refine WO.nil ?_
        refine ⟨rfl, by simp [getE, bnd, keepE], ⟨_, rfl⟩, by simp [Own.bnd, bndL, bnd, boxO], by simp⟩
      · simp only [sx, ty, Bool.false_eq_true, Int.reduceEq, Int.reduceLT, Nat.reduceAdd, Nat.reduceSub, Nat.reduceMul, Nat.reduceLT, Nat.reduceLeDiff, Nat.reduceEqDiff, List.reduceReplicate, reduceIte, sxk, beq_self_eq_true, bne_self_eq_false, Int.reduceBEq, Int.reduceBNe, Bool.or_false, Bool.false_or, Bool.not_false, Bool.not_true, mbits, Int.reduceToNat, Int.reducePow, Int.toNat_natCast]
        refine W.ret ⟨by simp, _, rfl, fun ρ w1 hb => ?_⟩
        rfl
end Go.Proofs.Ytnbfdncmlbegmaa
