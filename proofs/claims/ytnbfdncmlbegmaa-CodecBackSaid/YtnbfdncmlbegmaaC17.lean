/-
  Codec: CodecBack, CodecPrefixes: walks.
-/
import Derived.Test.YtnbfdncmlbegmaaPlainF
set_option linter.unusedVariables false
set_option linter.unusedSimpArgs false
set_option maxHeartbeats 1000000
namespace Go.Proofs.Ytnbfdncmlbegmaa
open Go Go.SX Go.RowKit
/-- function 4 -/
theorem law2 {S S2 : Nat → Prop} {w : World} {v u : Value} {l b : List Int} (hl : rInts.rd S w [v] l) (hl2 : rBytes.rd S2 w [u] b) (hI : ∀ x, x ∈ l → isI x) (hb8 : ∀ x, x ∈ b → isB x) : Gives Try.prog 4 #[v, u] w fun r _ => r = .bool true := by
  obtain ⟨p, c, rfl, hc1, hc2⟩ := Rp.slice_val hl
  obtain ⟨p2, c2, rfl, hc3, hc4⟩ := Rp.slice_val hl2
  have hl : (Rp.slice rInt).rd (fun _ => True) w _ l := Rp.any hl
  have hl2 : (Rp.slice rByte).rd (fun _ => True) w _ b := Rp.any hl2
  refine gives_of [.val (.slice p l.length c), .val (.slice p2 b.length c2)] 78 [.tmp 4] Try.func4 rfl rfl rfl (by simp) rfl rfl ?_
  refine W.pure (ds := []) rfl fun K1 hK1 => ?_
  simp only [sx, ty, Bool.false_eq_true, Int.reduceEq, Int.reduceLT, Nat.reduceAdd, Nat.reduceSub, Nat.reduceMul, Nat.reduceLT, Nat.reduceLeDiff, Nat.reduceEqDiff, List.reduceReplicate, reduceIte, beq_self_eq_true, bne_self_eq_false, Int.reduceBEq, Int.reduceBNe, Bool.or_false, Bool.false_or, Bool.not_false, Bool.not_true, mbits, Int.reduceToNat, Int.reducePow, Int.toNat_natCast]; with_reducible refine hK1 _ ?_; clear hK1
  refine W.seqK fun K2 hK2 => W.region ?_
  refine WO.call (.bool true) (ds := []) rfl rfl rfl rfl co9 (fun ρ w1 hb => head_spec w1) ?_
  refine WO.go 1 (ds := []) rfl ?_
  simp only [sx, ty, Bool.false_eq_true, Int.reduceEq, Int.reduceLT, Nat.reduceAdd, Nat.reduceSub, Nat.reduceMul, Nat.reduceLT, Nat.reduceLeDiff, Nat.reduceEqDiff, List.reduceReplicate, reduceIte, beq_self_eq_true, bne_self_eq_false, Int.reduceBEq, Int.reduceBNe, Bool.or_false, Bool.false_or, Bool.not_false, Bool.not_true, mbits, Int.reduceToNat, Int.reducePow, Int.toNat_natCast]
  with_reducible refine WO.nil ?_
  refine hK2 _ ?_; clear hK2
  refine W.seqK fun K3 hK3 => ?_
  refine W.join 22 (.val (.bool (decide (300 < l.length ∨ 3000 < b.length)))) [0, 1, 5] (W.region ?_) ?_
  · skip
    refine WO.go 4 (ds := [some 15, some 16, some 17, some 18, some 19, some 20, some 21, some 22]) rfl ?_
    simp only [sx, ty, Bool.false_eq_true, Int.reduceEq, Int.reduceLT, Nat.reduceAdd, Nat.reduceSub, Nat.reduceMul, Nat.reduceLT, Nat.reduceLeDiff, Nat.reduceEqDiff, List.reduceReplicate, reduceIte, beq_self_eq_true, bne_self_eq_false, Int.reduceBEq, Int.reduceBNe, Bool.or_false, Bool.false_or, Bool.not_false, Bool.not_true, mbits, Int.reduceToNat, Int.reducePow, Int.toNat_natCast]
    refine WO.cases 18 _ rfl (fun hg18 => ?_) (fun hg18 => ?_)
    · skip
      refine WO.go 4 (ds := [some 15, some 16, some 17, some 18, some 19, some 20, some 21, some 22]) rfl ?_
      simp only [sx, ty, Bool.false_eq_true, Int.reduceEq, Int.reduceLT, Nat.reduceAdd, Nat.reduceSub, Nat.reduceMul, Nat.reduceLT, Nat.reduceLeDiff, Nat.reduceEqDiff, List.reduceReplicate, reduceIte, beq_self_eq_true, bne_self_eq_false, Int.reduceBEq, Int.reduceBNe, Bool.or_false, Bool.false_or, Bool.not_false, Bool.not_true, mbits, Int.reduceToNat, Int.reducePow, Int.toNat_natCast]
      with_reducible refine WO.nil ?_
      refine ⟨rfl, ?_, ⟨_, rfl⟩, by simp [Own.bnd, bndL, bnd, boxO], by simp⟩
      try rw [hg18]
      simp [getE, bnd, keepE]
      try simp at hg18
      try (rw [Bool.eq_iff_iff]; simp; omega)
      try omega
      try simp
      try omega
    · skip
      refine WO.go 4 (ds := [some 15, some 16, some 17, some 18, some 19, some 20, some 21, some 22]) rfl ?_
      simp only [sx, ty, Bool.false_eq_true, Int.reduceEq, Int.reduceLT, Nat.reduceAdd, Nat.reduceSub, Nat.reduceMul, Nat.reduceLT, Nat.reduceLeDiff, Nat.reduceEqDiff, List.reduceReplicate, reduceIte, beq_self_eq_true, bne_self_eq_false, Int.reduceBEq, Int.reduceBNe, Bool.or_false, Bool.false_or, Bool.not_false, Bool.not_true, mbits, Int.reduceToNat, Int.reducePow, Int.toNat_natCast]
      with_reducible refine WO.nil ?_
      refine ⟨rfl, ?_, ⟨_, rfl⟩, by simp [Own.bnd, bndL, bnd, boxO], by simp⟩
      try rw [hg18]
      simp [getE, bnd, keepE]
      try simp at hg18
      try (rw [Bool.eq_iff_iff]; simp; omega)
      try omega
      try simp
      try omega
  · simp only [sx, ty, Bool.false_eq_true, Int.reduceEq, Int.reduceLT, Nat.reduceAdd, Nat.reduceSub, Nat.reduceMul, Nat.reduceLT, Nat.reduceLeDiff, Nat.reduceEqDiff, List.reduceReplicate, reduceIte, sxk, beq_self_eq_true, bne_self_eq_false, Int.reduceBEq, Int.reduceBNe, Bool.or_false, Bool.false_or, Bool.not_false, Bool.not_true, mbits, Int.reduceToNat, Int.reducePow, Int.toNat_natCast]
    refine W.cond rfl rfl (fun hc => ?_) (fun hc => ?_)
    · skip
      have h0 : (300 < l.length ∨ 3000 < b.length) := by simpa using hc
      refine W.pure (ds := []) rfl fun K5 hK5 => ?_
      simp only [sx, ty, Bool.false_eq_true, Int.reduceEq, Int.reduceLT, Nat.reduceAdd, Nat.reduceSub, Nat.reduceMul, Nat.reduceLT, Nat.reduceLeDiff, Nat.reduceEqDiff, List.reduceReplicate, reduceIte, beq_self_eq_true, bne_self_eq_false, Int.reduceBEq, Int.reduceBNe, Bool.or_false, Bool.false_or, Bool.not_false, Bool.not_true, mbits, Int.reduceToNat, Int.reducePow, Int.toNat_natCast]; with_reducible refine hK5 _ ?_; clear hK5
      refine W.ret ⟨by simp, _, rfl, fun ρ w1 hb => ?_⟩
      rfl
    · skip
      have h0 : ¬ (300 < l.length ∨ 3000 < b.length) := by simpa using hc
      have hl40 : ¬ 4000 < l.length := by omega
      have hgl := GetF_some (getF_putF hI (by omega))
      have hp8 := putF_isB hI (by omega)
      refine W.skip (hK3 _ ?_)
      refine W.seqK fun K6 hK6 => W.region ?_
      refine WO.go 1 (ds := []) rfl ?_
      simp only [sx, ty, Bool.false_eq_true, Int.reduceEq, Int.reduceLT, Nat.reduceAdd, Nat.reduceSub, Nat.reduceMul, Nat.reduceLT, Nat.reduceLeDiff, Nat.reduceEqDiff, List.reduceReplicate, reduceIte, beq_self_eq_true, bne_self_eq_false, Int.reduceBEq, Int.reduceBNe, Bool.or_false, Bool.false_or, Bool.not_false, Bool.not_true, mbits, Int.reduceToNat, Int.reducePow, Int.toNat_natCast]
      refine WO.callM (fun x : Option Addr × Nat => .tuple #[.slice x.1 (putF l).length x.2, .int .i64 0]) (fun lo x s9 => rBytes.rd (fun b => lo ≤ b) s9 [.slice x.1 (putF l).length x.2] (putF l)) (ds := []) rfl rfl rfl rfl co10 (fun ρ w1 hb => by have h9 := Put_spec (Rp.now hl (hb.first (by simp))) hI; rw [PutF_ok hl40] at h9; exact h9) fun x lo hr1s hr1 => ?_
      obtain ⟨hr1p, hr1c⟩ := x
      simp only at hr1
      refine WO.go 5 (ds := []) rfl ?_
      simp only [sx, ty, Bool.false_eq_true, Int.reduceEq, Int.reduceLT, Nat.reduceAdd, Nat.reduceSub, Nat.reduceMul, Nat.reduceLT, Nat.reduceLeDiff, Nat.reduceEqDiff, List.reduceReplicate, reduceIte, beq_self_eq_true, bne_self_eq_false, Int.reduceBEq, Int.reduceBNe, Bool.or_false, Bool.false_or, Bool.not_false, Bool.not_true, mbits, Int.reduceToNat, Int.reducePow, Int.toNat_natCast]
      with_reducible refine WO.nil ?_
      refine hK6 _ ?_; clear hK6
      refine W.seqK fun K7 hK7 => W.region ?_
      refine WO.go 1 (ds := []) rfl ?_
      simp only [sx, ty, Bool.false_eq_true, Int.reduceEq, Int.reduceLT, Nat.reduceAdd, Nat.reduceSub, Nat.reduceMul, Nat.reduceLT, Nat.reduceLeDiff, Nat.reduceEqDiff, List.reduceReplicate, reduceIte, beq_self_eq_true, bne_self_eq_false, Int.reduceBEq, Int.reduceBNe, Bool.or_false, Bool.false_or, Bool.not_false, Bool.not_true, mbits, Int.reduceToNat, Int.reducePow, Int.toNat_natCast]
      refine WO.callM (fun x : Option Addr × Nat => .tuple #[.slice x.1 l.length x.2, .int .i64 0]) (fun lo x s9 => rInts.rd (fun b => lo ≤ b) s9 [.slice x.1 l.length x.2] l) (ds := []) rfl rfl rfl rfl co15 (fun ρ w1 hb => by have h9 := Get_spec (Rp.keep hr1 (hb.at (by simp))) hp8; rw [hgl] at h9; exact h9) fun x lo hr2s hr2 => ?_
      obtain ⟨hr2p, hr2c⟩ := x
      simp only at hr2
      refine WO.go 5 (ds := []) rfl ?_
      simp only [sx, ty, Bool.false_eq_true, Int.reduceEq, Int.reduceLT, Nat.reduceAdd, Nat.reduceSub, Nat.reduceMul, Nat.reduceLT, Nat.reduceLeDiff, Nat.reduceEqDiff, List.reduceReplicate, reduceIte, beq_self_eq_true, bne_self_eq_false, Int.reduceBEq, Int.reduceBNe, Bool.or_false, Bool.false_or, Bool.not_false, Bool.not_true, mbits, Int.reduceToNat, Int.reducePow, Int.toNat_natCast]
      with_reducible refine WO.nil ?_
      refine hK7 _ ?_; clear hK7
      refine W.seqK fun K8 hK8 => ?_
      refine W.join 45 (.val (.bool false)) [1, 5] (W.region ?_) ?_
      · skip
        refine WO.go 9 (ds := [some 34, some 35, some 36, some 37, some 38, some 39, some 40, some 41, some 42, some 43, some 44, some 45]) rfl ?_
        simp only [sx, ty, Bool.false_eq_true, Int.reduceEq, Int.reduceLT, Nat.reduceAdd, Nat.reduceSub, Nat.reduceMul, Nat.reduceLT, Nat.reduceLeDiff, Nat.reduceEqDiff, List.reduceReplicate, reduceIte, beq_self_eq_true, bne_self_eq_false, Int.reduceBEq, Int.reduceBNe, Bool.or_false, Bool.false_or, Bool.not_false, Bool.not_true, mbits, Int.reduceToNat, Int.reducePow, Int.toNat_natCast]
        refine WO.call (.bool true) (ds := [some 34, some 35, some 36, some 37, some 38, some 39, some 40, some 41, some 42, some 43, some 44, some 45]) rfl rfl rfl rfl co17 (fun ρ w1 hb => sameI_self (Rp.now hl (hb.first (by simp))) (Rp.keep hr2 (hb.at (by simp)))) ?_
        refine WO.go 2 (ds := [some 34, some 35, some 36, some 37, some 38, some 39, some 40, some 41, some 42, some 43, some 44, some 45]) rfl ?_
        simp only [sx, ty, Bool.false_eq_true, Int.reduceEq, Int.reduceLT, Nat.reduceAdd, Nat.reduceSub, Nat.reduceMul, Nat.reduceLT, Nat.reduceLeDiff, Nat.reduceEqDiff, List.reduceReplicate, reduceIte, beq_self_eq_true, bne_self_eq_false, Int.reduceBEq, Int.reduceBNe, Bool.or_false, Bool.false_or, Bool.not_false, Bool.not_true, mbits, Int.reduceToNat, Int.reducePow, Int.toNat_natCast]
        with_reducible refine WO.nil ?_
        refine ⟨rfl, by simp [getE, bnd, keepE], ⟨_, rfl⟩, by simp [Own.bnd, bndL, bnd, boxO], by simp⟩
      · simp only [sx, ty, Bool.false_eq_true, Int.reduceEq, Int.reduceLT, Nat.reduceAdd, Nat.reduceSub, Nat.reduceMul, Nat.reduceLT, Nat.reduceLeDiff, Nat.reduceEqDiff, List.reduceReplicate, reduceIte, sxk, beq_self_eq_true, bne_self_eq_false, Int.reduceBEq, Int.reduceBNe, Bool.or_false, Bool.false_or, Bool.not_false, Bool.not_true, mbits, Int.reduceToNat, Int.reducePow, Int.toNat_natCast]
        refine W.cond rfl rfl (fun hc => ?_) (fun hc => ?_)
        · skip
          simp at hc
        · skip
          refine W.skip (hK8 _ ?_)
          refine W.seqK fun K10 hK10 => W.region ?_
          refine WO.go 1 (ds := []) rfl ?_
          simp only [sx, ty, Bool.false_eq_true, Int.reduceEq, Int.reduceLT, Nat.reduceAdd, Nat.reduceSub, Nat.reduceMul, Nat.reduceLT, Nat.reduceLeDiff, Nat.reduceEqDiff, List.reduceReplicate, reduceIte, beq_self_eq_true, bne_self_eq_false, Int.reduceBEq, Int.reduceBNe, Bool.or_false, Bool.false_or, Bool.not_false, Bool.not_true, mbits, Int.reduceToNat, Int.reducePow, Int.toNat_natCast]
          refine WO.callM (fun x : Option Addr × Nat => .tuple #[.slice x.1 (GetF b).1.length x.2, .int .i64 (GetF b).2]) (fun lo x s9 => rInts.rd (fun b => lo ≤ b) s9 [.slice x.1 (GetF b).1.length x.2] (GetF b).1) (ds := []) rfl rfl rfl rfl co15 (fun ρ w1 hb => Get_spec (Rp.now hl2 (hb.first (by simp))) hb8) fun x lo hr3s hr3 => ?_
          obtain ⟨hr3p, hr3c⟩ := x
          simp only at hr3
          refine WO.go 5 (ds := []) rfl ?_
          simp only [sx, ty, Bool.false_eq_true, Int.reduceEq, Int.reduceLT, Nat.reduceAdd, Nat.reduceSub, Nat.reduceMul, Nat.reduceLT, Nat.reduceLeDiff, Nat.reduceEqDiff, List.reduceReplicate, reduceIte, beq_self_eq_true, bne_self_eq_false, Int.reduceBEq, Int.reduceBNe, Bool.or_false, Bool.false_or, Bool.not_false, Bool.not_true, mbits, Int.reduceToNat, Int.reducePow, Int.toNat_natCast]
          with_reducible refine WO.nil ?_
          refine hK10 _ ?_; clear hK10
          refine W.seqK fun K11 hK11 => ?_
          refine W.pure (ds := []) rfl fun K12 hK12 => ?_
          simp only [sx, ty, Bool.false_eq_true, Int.reduceEq, Int.reduceLT, Nat.reduceAdd, Nat.reduceSub, Nat.reduceMul, Nat.reduceLT, Nat.reduceLeDiff, Nat.reduceEqDiff, List.reduceReplicate, reduceIte, beq_self_eq_true, bne_self_eq_false, Int.reduceBEq, Int.reduceBNe, Bool.or_false, Bool.false_or, Bool.not_false, Bool.not_true, mbits, Int.reduceToNat, Int.reducePow, Int.toNat_natCast]; with_reducible refine hK12 _ ?_; clear hK12
          refine W.cond rfl rfl (fun hc => ?_) (fun hc => ?_)
          · skip
            have hge : getF b = none := by
              cases h9 : getF b with
              | none => rfl
              | some l => rw [GetF_some h9] at hc; simp at hc
            have hG := GetF_none hge
            simp only [hG]
            refine W.join 4 (.val (.bool true)) [] (W.region ?_) ?_
            · skip
              refine WO.go 11 (ds := [some 53, some 54, some 55, some 56, some 57, some 58, some 59, some 60, some 61, some 62, some 4]) rfl ?_
              simp only [sx, ty, Bool.false_eq_true, Int.reduceEq, Int.reduceLT, Nat.reduceAdd, Nat.reduceSub, Nat.reduceMul, Nat.reduceLT, Nat.reduceLeDiff, Nat.reduceEqDiff, List.reduceReplicate, reduceIte, beq_self_eq_true, bne_self_eq_false, Int.reduceBEq, Int.reduceBNe, Bool.or_false, Bool.false_or, Bool.not_false, Bool.not_true, mbits, Int.reduceToNat, Int.reducePow, Int.toNat_natCast]
              with_reducible refine WO.nil ?_
              refine ⟨rfl, by simp [getE, bnd, keepE], ⟨_, rfl⟩, by simp [Own.bnd, bndL, bnd, boxO], by simp⟩
            · simp only [sx, ty, Bool.false_eq_true, Int.reduceEq, Int.reduceLT, Nat.reduceAdd, Nat.reduceSub, Nat.reduceMul, Nat.reduceLT, Nat.reduceLeDiff, Nat.reduceEqDiff, List.reduceReplicate, reduceIte, sxk, beq_self_eq_true, bne_self_eq_false, Int.reduceBEq, Int.reduceBNe, Bool.or_false, Bool.false_or, Bool.not_false, Bool.not_true, mbits, Int.reduceToNat, Int.reducePow, Int.toNat_natCast]
              refine W.ret ⟨by simp, _, rfl, fun ρ w1 hb => ?_⟩
              rfl
          · skip
            obtain ⟨k, hge⟩ : ∃ k, getF b = some k := by
              cases h9 : getF b with
              | none => rw [GetF_none h9] at hc; simp at hc
              | some l => exact ⟨l, rfl⟩
            have hG := GetF_some hge
            rw [hG] at hr3
            simp only [hG]
            obtain ⟨hbk, hk40, hkI⟩ := getF_can hb8 hge
            have hk41 : ¬ 4000 < k.length := by omega
            refine W.skip (hK11 _ ?_)
            refine W.seqK fun K14 hK14 => W.region ?_
            refine WO.go 1 (ds := []) rfl ?_
            simp only [sx, ty, Bool.false_eq_true, Int.reduceEq, Int.reduceLT, Nat.reduceAdd, Nat.reduceSub, Nat.reduceMul, Nat.reduceLT, Nat.reduceLeDiff, Nat.reduceEqDiff, List.reduceReplicate, reduceIte, beq_self_eq_true, bne_self_eq_false, Int.reduceBEq, Int.reduceBNe, Bool.or_false, Bool.false_or, Bool.not_false, Bool.not_true, mbits, Int.reduceToNat, Int.reducePow, Int.toNat_natCast]
            refine WO.callM (fun x : Option Addr × Nat => .tuple #[.slice x.1 (putF k).length x.2, .int .i64 0]) (fun lo x s9 => rBytes.rd (fun b => lo ≤ b) s9 [.slice x.1 (putF k).length x.2] (putF k)) (ds := []) rfl rfl rfl rfl co10 (fun ρ w1 hb => by have h9 := Put_spec (Rp.keep hr3 (hb.at (by simp))) hkI; rw [PutF_ok hk41] at h9; exact h9) fun x lo hr4s hr4 => ?_
            obtain ⟨hr4p, hr4c⟩ := x
            simp only at hr4
            refine WO.go 5 (ds := []) rfl ?_
            simp only [sx, ty, Bool.false_eq_true, Int.reduceEq, Int.reduceLT, Nat.reduceAdd, Nat.reduceSub, Nat.reduceMul, Nat.reduceLT, Nat.reduceLeDiff, Nat.reduceEqDiff, List.reduceReplicate, reduceIte, beq_self_eq_true, bne_self_eq_false, Int.reduceBEq, Int.reduceBNe, Bool.or_false, Bool.false_or, Bool.not_false, Bool.not_true, mbits, Int.reduceToNat, Int.reducePow, Int.toNat_natCast]
            with_reducible refine WO.nil ?_
            refine hK14 _ ?_; clear hK14
            refine W.join 4 (.val (.bool true)) [] (W.region ?_) ?_
            · skip
              refine WO.go 8 (ds := [some 68, some 69, some 70, some 71, some 72, some 73, some 74, some 75, some 76, some 77, some 4]) rfl ?_
              simp only [sx, ty, Bool.false_eq_true, Int.reduceEq, Int.reduceLT, Nat.reduceAdd, Nat.reduceSub, Nat.reduceMul, Nat.reduceLT, Nat.reduceLeDiff, Nat.reduceEqDiff, List.reduceReplicate, reduceIte, beq_self_eq_true, bne_self_eq_false, Int.reduceBEq, Int.reduceBNe, Bool.or_false, Bool.false_or, Bool.not_false, Bool.not_true, mbits, Int.reduceToNat, Int.reducePow, Int.toNat_natCast]
              refine WO.call (.bool true) (ds := [some 68, some 69, some 70, some 71, some 72, some 73, some 74, some 75, some 76, some 77, some 4]) rfl rfl rfl rfl co12 (fun ρ w1 hb => (sameB_spec (Rp.now hl2 (hb.first (by simp))) (Rp.keep hr4 (hb.at (by simp))) hb8 (putF_isB hkI hk40)).mono fun _ _ _ h => by rw [h, ← hbk]; simp) ?_
              refine WO.go 2 (ds := [some 68, some 69, some 70, some 71, some 72, some 73, some 74, some 75, some 76, some 77, some 4]) rfl ?_
              simp only [sx, ty, Bool.false_eq_true, Int.reduceEq, Int.reduceLT, Nat.reduceAdd, Nat.reduceSub, Nat.reduceMul, Nat.reduceLT, Nat.reduceLeDiff, Nat.reduceEqDiff, List.reduceReplicate, reduceIte, beq_self_eq_true, bne_self_eq_false, Int.reduceBEq, Int.reduceBNe, Bool.or_false, Bool.false_or, Bool.not_false, Bool.not_true, mbits, Int.reduceToNat, Int.reducePow, Int.toNat_natCast]
              with_reducible refine WO.nil ?_
              refine ⟨rfl, by simp [getE, bnd, keepE], ⟨_, rfl⟩, by simp [Own.bnd, bndL, bnd, boxO], by simp⟩
            · simp only [sx, ty, Bool.false_eq_true, Int.reduceEq, Int.reduceLT, Nat.reduceAdd, Nat.reduceSub, Nat.reduceMul, Nat.reduceLT, Nat.reduceLeDiff, Nat.reduceEqDiff, List.reduceReplicate, reduceIte, sxk, beq_self_eq_true, bne_self_eq_false, Int.reduceBEq, Int.reduceBNe, Bool.or_false, Bool.false_or, Bool.not_false, Bool.not_true, mbits, Int.reduceToNat, Int.reducePow, Int.toNat_natCast]
              refine W.ret ⟨by simp, _, rfl, fun ρ w1 hb => ?_⟩
              rfl
end Go.Proofs.Ytnbfdncmlbegmaa
