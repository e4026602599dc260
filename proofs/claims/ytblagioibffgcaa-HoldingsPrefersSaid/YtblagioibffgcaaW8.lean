/-
  Holdings: the laws on halls and on preferences: walks.
-/
import Derived.Test.YtblagioibffgcaaPlain2
set_option linter.unusedVariables false
set_option linter.unusedSimpArgs false
set_option maxHeartbeats 1000000
namespace Go.Proofs.Ytblagioibffgcaa
open Go Go.SX Go.RowKit
/-- function 6 -/
theorem law4 {S S2 : Nat → Prop} {w : World} {v u : Value} {ds : List Dem} {cs : List Cop} (hl : rDems.rd S w [v] ds) (hl2 : rCops.rd S2 w [u] cs) (i k hall : Int) (hi : 0 ≤ i ∧ i ≤ 255) (hk : 0 ≤ k ∧ k ≤ 255) (hh : 0 ≤ hall ∧ hall ≤ 255) :
    Gives Try.prog 6 #[v, u, .int .u8 i, .int .u8 k, .int .u8 hall] w fun r _ => r = .bool true := by
  obtain ⟨p, c, rfl, hc1, hc2⟩ := Rp.slice_val hl
  obtain ⟨p2, c2, rfl, hc3, hc4⟩ := Rp.slice_val hl2
  have hl : (Rp.slice rDem).rd (fun _ => True) w _ ds := Rp.any hl
  have hl2 : (Rp.slice rCop).rd (fun _ => True) w _ cs := Rp.any hl2
  refine gives_of [.val (.slice p ds.length c), .val (.slice p2 cs.length c2), .val (.int .u8 i), .val (.int .u8 k), .val (.int .u8 hall)] 121 [.tmp 10] Try.func6 rfl rfl rfl (by simp) rfl rfl ?_
  refine W.pure (ds := []) rfl fun K1 hK1 => ?_
  simp only [sx, ty, Bool.false_eq_true, Int.reduceEq, Int.reduceLT, Nat.reduceAdd, Nat.reduceSub, Nat.reduceMul, Nat.reduceLT, Nat.reduceLeDiff, Nat.reduceEqDiff, List.reduceReplicate, reduceIte, beq_self_eq_true, bne_self_eq_false, Int.reduceBEq, Int.reduceBNe, Bool.or_false, Bool.false_or, Bool.not_false, Bool.not_true]; with_reducible refine hK1 _ ?_; clear hK1
  refine W.seqK fun K2 hK2 => W.region ?_
  refine WO.call (.bool true) (ds := []) rfl rfl rfl rfl co8 (fun ρ w1 hb => head_spec w1) ?_
  refine WO.go 1 (ds := []) rfl ?_
  simp only [sx, ty, Bool.false_eq_true, Int.reduceEq, Int.reduceLT, Nat.reduceAdd, Nat.reduceSub, Nat.reduceMul, Nat.reduceLT, Nat.reduceLeDiff, Nat.reduceEqDiff, List.reduceReplicate, reduceIte, beq_self_eq_true, bne_self_eq_false, Int.reduceBEq, Int.reduceBNe, Bool.or_false, Bool.false_or, Bool.not_false, Bool.not_true]
  with_reducible refine WO.nil ?_
  refine hK2 _ ?_; clear hK2
  refine W.seqK fun K3 hK3 => ?_
  refine W.seqK fun K4 hK4 => W.region ?_
  refine WO.go 2 (ds := []) rfl ?_
  simp only [sx, ty, Bool.false_eq_true, Int.reduceEq, Int.reduceLT, Nat.reduceAdd, Nat.reduceSub, Nat.reduceMul, Nat.reduceLT, Nat.reduceLeDiff, Nat.reduceEqDiff, List.reduceReplicate, reduceIte, beq_self_eq_true, bne_self_eq_false, Int.reduceBEq, Int.reduceBNe, Bool.or_false, Bool.false_or, Bool.not_false, Bool.not_true]
  refine WO.call (.bool (usableB ds cs)) (ds := []) rfl rfl rfl rfl co15 (fun ρ w1 hb => usable_spec (Rp.now hl (hb.first (by simp))) (Rp.now hl2 (hb.first (by simp)))) ?_
  refine WO.go 1 (ds := []) rfl ?_
  simp only [sx, ty, Bool.false_eq_true, Int.reduceEq, Int.reduceLT, Nat.reduceAdd, Nat.reduceSub, Nat.reduceMul, Nat.reduceLT, Nat.reduceLeDiff, Nat.reduceEqDiff, List.reduceReplicate, reduceIte, beq_self_eq_true, bne_self_eq_false, Int.reduceBEq, Int.reduceBNe, Bool.or_false, Bool.false_or, Bool.not_false, Bool.not_true]
  with_reducible refine WO.nil ?_
  refine hK4 _ ?_; clear hK4
  refine W.cond rfl rfl (fun hc => ?_) (fun hc => ?_)
  · skip
    refine W.pure (ds := []) rfl fun K5 hK5 => ?_
    simp only [sx, ty, Bool.false_eq_true, Int.reduceEq, Int.reduceLT, Nat.reduceAdd, Nat.reduceSub, Nat.reduceMul, Nat.reduceLT, Nat.reduceLeDiff, Nat.reduceEqDiff, List.reduceReplicate, reduceIte, beq_self_eq_true, bne_self_eq_false, Int.reduceBEq, Int.reduceBNe, Bool.or_false, Bool.false_or, Bool.not_false, Bool.not_true]; with_reducible refine hK5 _ ?_; clear hK5
    refine W.ret ⟨by simp, _, rfl, fun ρ w1 hb => ?_⟩
    rfl
  · skip
    have hU : usableB ds cs = true := by simpa using hc
    clear hc
    obtain ⟨hd0, hc0, hv⟩ := usable_of hU
    obtain ⟨hdl, hcl, hel⟩ := valid_lens hv
    have hdn : ¬ ((ds.length : Int) = 0) := by omega
    have hcn : ¬ ((cs.length : Int) = 0) := by omega
    obtain ⟨m, hm, hml⟩ := rem_nat hi hd0
    obtain ⟨a, ha, hal⟩ := rem_nat hk hc0
    refine W.skip (hK3 _ ?_)
    refine W.seqK fun K6 hK6 => ?_
    refine W.regionQ mixed (by kernel_rfl) ?_
    refine WQ.go 4 (ds := []) rfl ?_
    simp only [sx, ty, Bool.false_eq_true, Int.reduceEq, Int.reduceLT, Nat.reduceAdd, Nat.reduceSub, Nat.reduceMul, Nat.reduceLT, Nat.reduceLeDiff, Nat.reduceEqDiff, List.reduceReplicate, reduceIte, sxq, Bool.false_eq_true, beq_self_eq_true, bne_self_eq_false, Int.reduceBEq, Int.reduceBNe, Bool.or_false, Bool.false_or, Bool.not_false, Bool.not_true]
    refine WQ.go 1 (ds := []) rfl ?_
    simp only [sx, ty, Bool.false_eq_true, Int.reduceEq, Int.reduceLT, Nat.reduceAdd, Nat.reduceSub, Nat.reduceMul, Nat.reduceLT, Nat.reduceLeDiff, Nat.reduceEqDiff, List.reduceReplicate, reduceIte, sxq, Bool.false_eq_true, beq_self_eq_true, bne_self_eq_false, Int.reduceBEq, Int.reduceBNe, Bool.or_false, Bool.false_or, Bool.not_false, Bool.not_true, if_neg hdn, hm]
    refine WQ.go 4 (ds := []) rfl ?_
    simp only [sx, ty, Bool.false_eq_true, Int.reduceEq, Int.reduceLT, Nat.reduceAdd, Nat.reduceSub, Nat.reduceMul, Nat.reduceLT, Nat.reduceLeDiff, Nat.reduceEqDiff, List.reduceReplicate, reduceIte, sxq, Bool.false_eq_true, beq_self_eq_true, bne_self_eq_false, Int.reduceBEq, Int.reduceBNe, Bool.or_false, Bool.false_or, Bool.not_false, Bool.not_true]
    refine WQ.go 1 (ds := []) rfl ?_
    simp only [sx, ty, Bool.false_eq_true, Int.reduceEq, Int.reduceLT, Nat.reduceAdd, Nat.reduceSub, Nat.reduceMul, Nat.reduceLT, Nat.reduceLeDiff, Nat.reduceEqDiff, List.reduceReplicate, reduceIte, sxq, Bool.false_eq_true, beq_self_eq_true, bne_self_eq_false, Int.reduceBEq, Int.reduceBNe, Bool.or_false, Bool.false_or, Bool.not_false, Bool.not_true, if_neg hcn, ha]
    refine WQ.go 6 (ds := []) rfl ?_
    simp only [sx, ty, Bool.false_eq_true, Int.reduceEq, Int.reduceLT, Nat.reduceAdd, Nat.reduceSub, Nat.reduceMul, Nat.reduceLT, Nat.reduceLeDiff, Nat.reduceEqDiff, List.reduceReplicate, reduceIte, sxq, Bool.false_eq_true, beq_self_eq_true, bne_self_eq_false, Int.reduceBEq, Int.reduceBNe, Bool.or_false, Bool.false_or, Bool.not_false, Bool.not_true]
    with_reducible refine WQ.nil ?_
    refine hK6 _ ?_; clear hK6
    refine W.seqK fun K7 hK7 => W.region ?_
    refine WO.go 4 (ds := []) rfl ?_
    simp only [sx, ty, Bool.false_eq_true, Int.reduceEq, Int.reduceLT, Nat.reduceAdd, Nat.reduceSub, Nat.reduceMul, Nat.reduceLT, Nat.reduceLeDiff, Nat.reduceEqDiff, List.reduceReplicate, reduceIte, beq_self_eq_true, bne_self_eq_false, Int.reduceBEq, Int.reduceBNe, Bool.or_false, Bool.false_or, Bool.not_false, Bool.not_true]
    refine WO.elemF (y := cs[a]) hl2 (by simp [St.put]) (ds := []) rfl rfl rfl (by simp [St.put]) (fun _ => rfl) rfl (by simp [St.put]) (fun _ _ => rfl) rfl rfl rfl rfl rfl rfl el23 fo37_3 agg3 sz3 (by decide) (.inr rfl) (by omega) (getIdx cs hal) fun p q ces hces => ?_
    obtain rfl := rCop_open hces
    simp only [sx, ty, Bool.false_eq_true, Int.reduceEq, Int.reduceLT, Nat.reduceAdd, Nat.reduceSub, Nat.reduceMul, Nat.reduceLT, Nat.reduceLeDiff, Nat.reduceEqDiff, List.reduceReplicate, reduceIte, beq_self_eq_true, bne_self_eq_false, Int.reduceBEq, Int.reduceBNe, Bool.or_false, Bool.false_or, Bool.not_false, Bool.not_true]
    refine WO.callM (fun x : Option Addr × Nat => .tuple #[.slice x.1 (costsF ds cs cs[a].2.2.2).length x.2, .int .i64 0]) (fun lo x s => rRows.rd (fun b => lo ≤ b) s [.slice x.1 (costsF ds cs cs[a].2.2.2).length x.2] (costsF ds cs cs[a].2.2.2)) (ds := []) rfl rfl rfl rfl co10 (fun ρ w1 hb => costs_call (costs_of hv (valid_hall hv hal)) (Rp.now hl (hb.first (by simp))) (Rp.now hl2 (hb.first (by simp)))) fun x lo hr1s hr1 => ?_
    obtain ⟨hr1p, hr1c⟩ := x
    simp only at hr1
    refine WO.go 5 (ds := []) rfl ?_
    simp only [sx, ty, Bool.false_eq_true, Int.reduceEq, Int.reduceLT, Nat.reduceAdd, Nat.reduceSub, Nat.reduceMul, Nat.reduceLT, Nat.reduceLeDiff, Nat.reduceEqDiff, List.reduceReplicate, reduceIte, beq_self_eq_true, bne_self_eq_false, Int.reduceBEq, Int.reduceBNe, Bool.or_false, Bool.false_or, Bool.not_false, Bool.not_true]
    with_reducible refine WO.nil ?_
    refine hK7 _ ?_; clear hK7
    refine W.seqK fun K8 hK8 => W.region ?_
    refine WO.go 3 (ds := []) rfl ?_
    simp only [sx, ty, Bool.false_eq_true, Int.reduceEq, Int.reduceLT, Nat.reduceAdd, Nat.reduceSub, Nat.reduceMul, Nat.reduceLT, Nat.reduceLeDiff, Nat.reduceEqDiff, List.reduceReplicate, reduceIte, beq_self_eq_true, bne_self_eq_false, Int.reduceBEq, Int.reduceBNe, Bool.or_false, Bool.false_or, Bool.not_false, Bool.not_true]
    refine WO.callM (fun x : Option Addr × Nat => .tuple #[.slice x.1 (costsF ds cs ((IntKind.i64.wrap hall).tmod 100)).length x.2, .int .i64 0]) (fun lo x s => rRows.rd (fun b => lo ≤ b) s [.slice x.1 (costsF ds cs ((IntKind.i64.wrap hall).tmod 100)).length x.2] (costsF ds cs ((IntKind.i64.wrap hall).tmod 100))) (ds := []) rfl rfl rfl rfl co10 (fun ρ w1 hb => costs_call (costs_of hv (rem_hall hh)) (Rp.now hl (hb.first (by simp))) (Rp.now hl2 (hb.first (by simp)))) fun x lo hr2s hr2 => ?_
    obtain ⟨hr2p, hr2c⟩ := x
    simp only at hr2
    refine WO.go 5 (ds := []) rfl ?_
    simp only [sx, ty, Bool.false_eq_true, Int.reduceEq, Int.reduceLT, Nat.reduceAdd, Nat.reduceSub, Nat.reduceMul, Nat.reduceLT, Nat.reduceLeDiff, Nat.reduceEqDiff, List.reduceReplicate, reduceIte, beq_self_eq_true, bne_self_eq_false, Int.reduceBEq, Int.reduceBNe, Bool.or_false, Bool.false_or, Bool.not_false, Bool.not_true]
    with_reducible refine WO.nil ?_
    refine hK8 _ ?_; clear hK8
    refine W.seqK fun K9 hK9 => ?_
    refine W.seqK fun K10 hK10 => W.region ?_
    refine WO.go 10 (ds := [some 58, some 59, some 60, some 61, some 62, some 63, some 64, some 65, some 66, some 67, some 68, some 69, some 70, some 71, some 72, some 73, some 74, some 75, some 76, some 77]) rfl ?_
    simp only [sx, ty, Bool.false_eq_true, Int.reduceEq, Int.reduceLT, Nat.reduceAdd, Nat.reduceSub, Nat.reduceMul, Nat.reduceLT, Nat.reduceLeDiff, Nat.reduceEqDiff, List.reduceReplicate, reduceIte, beq_self_eq_true, bne_self_eq_false, Int.reduceBEq, Int.reduceBNe, Bool.or_false, Bool.false_or, Bool.not_false, Bool.not_true]
    refine WO.call (.bool true) (ds := [some 58, some 59, some 60, some 61, some 62, some 63, some 64, some 65, some 66, some 67, some 68, some 69, some 70, some 71, some 72, some 73, some 74, some 75, some 76, some 77]) rfl rfl rfl rfl co16 (fun ρ w1 hb => shaped_costs (Rp.keep hr1 (hb.at (by simp))) _ _ _ _ _ _ rfl rfl) ?_
    refine WO.go 6 (ds := [some 58, some 59, some 60, some 61, some 62, some 63, some 64, some 65, some 66, some 67, some 68, some 69, some 70, some 71, some 72, some 73, some 74, some 75, some 76, some 77]) rfl ?_
    simp only [sx, ty, Bool.false_eq_true, Int.reduceEq, Int.reduceLT, Nat.reduceAdd, Nat.reduceSub, Nat.reduceMul, Nat.reduceLT, Nat.reduceLeDiff, Nat.reduceEqDiff, List.reduceReplicate, reduceIte, beq_self_eq_true, bne_self_eq_false, Int.reduceBEq, Int.reduceBNe, Bool.or_false, Bool.false_or, Bool.not_false, Bool.not_true]
    refine WO.call (.bool true) (ds := [some 58, some 59, some 60, some 61, some 62, some 63, some 64, some 65, some 66, some 67, some 68, some 69, some 70, some 71, some 72, some 73, some 74, some 75, some 76, some 77]) rfl rfl rfl rfl co16 (fun ρ w1 hb => shaped_costs (Rp.keep hr2 (hb.at (by simp))) _ _ _ _ _ _ rfl rfl) ?_
    refine WO.go 2 (ds := [some 58, some 59, some 60, some 61, some 62, some 63, some 64, some 65, some 66, some 67, some 68, some 69, some 70, some 71, some 72, some 73, some 74, some 75, some 76, some 77]) rfl ?_
    simp only [sx, ty, Bool.false_eq_true, Int.reduceEq, Int.reduceLT, Nat.reduceAdd, Nat.reduceSub, Nat.reduceMul, Nat.reduceLT, Nat.reduceLeDiff, Nat.reduceEqDiff, List.reduceReplicate, reduceIte, beq_self_eq_true, bne_self_eq_false, Int.reduceBEq, Int.reduceBNe, Bool.or_false, Bool.false_or, Bool.not_false, Bool.not_true]
    with_reducible refine WO.nil ?_
    refine hK10 _ ?_; clear hK10
    refine W.cond rfl rfl (fun hc => ?_) (fun hc => ?_)
    · simp at hc
    · skip
      refine W.skip (hK9 _ ?_)
      refine W.seqK fun K11 hK11 => ?_
      refine W.regionQ mixed (by kernel_rfl) ?_
      refine WQ.go 2 (ds := []) rfl ?_
      simp only [sx, ty, Bool.false_eq_true, Int.reduceEq, Int.reduceLT, Nat.reduceAdd, Nat.reduceSub, Nat.reduceMul, Nat.reduceLT, Nat.reduceLeDiff, Nat.reduceEqDiff, List.reduceReplicate, reduceIte, sxq, Bool.false_eq_true, beq_self_eq_true, bne_self_eq_false, Int.reduceBEq, Int.reduceBNe, Bool.or_false, Bool.false_or, Bool.not_false, Bool.not_true]
      refine WQ.elem (y := (cs.map fun c => costF ds[m] c cs[a].2.2.2)) hr1 (by simp [St.put]) (ds := []) rfl rfl rfl (by simp [St.put]) (fun _ => rfl) rfl rfl rfl rfl rfl el26 agg33 sz33 (.inr rfl) (by omega) (costsF_row hml) fun p ces hces => ?_
      obtain ⟨p5, c5, rfl, hq5, hqc5⟩ := rInts_open hces
      have hrow5 := hces
      clear hces
      refine WQ.go 1 (ds := []) rfl ?_
      simp only [sx, ty, Bool.false_eq_true, Int.reduceEq, Int.reduceLT, Nat.reduceAdd, Nat.reduceSub, Nat.reduceMul, Nat.reduceLT, Nat.reduceLeDiff, Nat.reduceEqDiff, List.reduceReplicate, reduceIte, sxq, Bool.false_eq_true, beq_self_eq_true, bne_self_eq_false, Int.reduceBEq, Int.reduceBNe, Bool.or_false, Bool.false_or, Bool.not_false, Bool.not_true]
      refine WQ.elem (y := costF ds[m] cs[a] cs[a].2.2.2) hrow5 (by simp [St.put]) (ds := []) rfl rfl rfl (by simp [St.put]) (fun _ => rfl) rfl rfl rfl rfl rfl el33 agg3 sz3 (.inr rfl) (by omega) (row_get hal) fun p ces hces => ?_
      obtain rfl := rInt_open hces
      clear hces
      refine WQ.go 2 (ds := []) rfl ?_
      simp only [sx, ty, Bool.false_eq_true, Int.reduceEq, Int.reduceLT, Nat.reduceAdd, Nat.reduceSub, Nat.reduceMul, Nat.reduceLT, Nat.reduceLeDiff, Nat.reduceEqDiff, List.reduceReplicate, reduceIte, sxq, Bool.false_eq_true, beq_self_eq_true, bne_self_eq_false, Int.reduceBEq, Int.reduceBNe, Bool.or_false, Bool.false_or, Bool.not_false, Bool.not_true]
      refine WQ.elem (y := (cs.map fun c => costF ds[m] c ((IntKind.i64.wrap hall).tmod 100))) hr2 (by simp [St.put]) (ds := []) rfl rfl rfl (by simp [St.put]) (fun _ => rfl) rfl rfl rfl rfl rfl el26 agg33 sz33 (.inr rfl) (by omega) (costsF_row hml) fun p ces hces => ?_
      obtain ⟨p6, c6, rfl, hq6, hqc6⟩ := rInts_open hces
      have hrow6 := hces
      clear hces
      refine WQ.go 1 (ds := []) rfl ?_
      simp only [sx, ty, Bool.false_eq_true, Int.reduceEq, Int.reduceLT, Nat.reduceAdd, Nat.reduceSub, Nat.reduceMul, Nat.reduceLT, Nat.reduceLeDiff, Nat.reduceEqDiff, List.reduceReplicate, reduceIte, sxq, Bool.false_eq_true, beq_self_eq_true, bne_self_eq_false, Int.reduceBEq, Int.reduceBNe, Bool.or_false, Bool.false_or, Bool.not_false, Bool.not_true]
      refine WQ.elem (y := costF ds[m] cs[a] ((IntKind.i64.wrap hall).tmod 100)) hrow6 (by simp [St.put]) (ds := []) rfl rfl rfl (by simp [St.put]) (fun _ => rfl) rfl rfl rfl rfl rfl el33 agg3 sz3 (.inr rfl) (by omega) (row_get hal) fun p ces hces => ?_
      obtain rfl := rInt_open hces
      clear hces
      refine WQ.go 2 (ds := []) rfl ?_
      simp only [sx, ty, Bool.false_eq_true, Int.reduceEq, Int.reduceLT, Nat.reduceAdd, Nat.reduceSub, Nat.reduceMul, Nat.reduceLT, Nat.reduceLeDiff, Nat.reduceEqDiff, List.reduceReplicate, reduceIte, sxq, Bool.false_eq_true, beq_self_eq_true, bne_self_eq_false, Int.reduceBEq, Int.reduceBNe, Bool.or_false, Bool.false_or, Bool.not_false, Bool.not_true]
      with_reducible refine WQ.nil ?_
      refine hK11 _ ?_; clear hK11
      refine W.seqK fun K12 hK12 => ?_
      refine W.join 102 (.val (.bool (decide (costF ds[m] cs[a] cs[a].2.2.2 < 0) || (((IntKind.i64.wrap hall).tmod 100) == cs[a].2.2.2)))) [11, 19, 20] (W.region ?_) ?_
      · skip
        refine WO.go 3 (ds := [some 92, some 93, some 94, some 95, some 96, some 97, some 98, some 99, some 100, some 101, some 102]) rfl ?_
        simp only [sx, ty, Bool.false_eq_true, Int.reduceEq, Int.reduceLT, Nat.reduceAdd, Nat.reduceSub, Nat.reduceMul, Nat.reduceLT, Nat.reduceLeDiff, Nat.reduceEqDiff, List.reduceReplicate, reduceIte, beq_self_eq_true, bne_self_eq_false, Int.reduceBEq, Int.reduceBNe, Bool.or_false, Bool.false_or, Bool.not_false, Bool.not_true]
        refine WO.cases 94 _ rfl (fun hg94 => ?_) (fun hg94 => ?_)
        · skip
          refine WO.go 8 (ds := [some 92, some 93, some 94, some 95, some 96, some 97, some 98, some 99, some 100, some 101, some 102]) rfl ?_
          simp only [sx, ty, Bool.false_eq_true, Int.reduceEq, Int.reduceLT, Nat.reduceAdd, Nat.reduceSub, Nat.reduceMul, Nat.reduceLT, Nat.reduceLeDiff, Nat.reduceEqDiff, List.reduceReplicate, reduceIte, beq_self_eq_true, bne_self_eq_false, Int.reduceBEq, Int.reduceBNe, Bool.or_false, Bool.false_or, Bool.not_false, Bool.not_true]
          with_reducible refine WO.nil ?_
          refine ⟨rfl, ?_, ⟨_, rfl⟩, by simp [Own.bnd, bndL, bnd], by simp⟩
          try rw [hg94]
          simp [getE, bnd, keepE]
        · skip
          refine WO.go 3 (ds := [some 92, some 93, some 94, some 95, some 96, some 97, some 98, some 99, some 100, some 101, some 102]) rfl ?_
          simp only [sx, ty, Bool.false_eq_true, Int.reduceEq, Int.reduceLT, Nat.reduceAdd, Nat.reduceSub, Nat.reduceMul, Nat.reduceLT, Nat.reduceLeDiff, Nat.reduceEqDiff, List.reduceReplicate, reduceIte, beq_self_eq_true, bne_self_eq_false, Int.reduceBEq, Int.reduceBNe, Bool.or_false, Bool.false_or, Bool.not_false, Bool.not_true]
          refine WO.elemF (y := cs[a]) hl2 (by simp [St.put]) (ds := [some 92, some 93, some 94, some 95, some 96, some 97, some 98, some 99, some 100, some 101, some 102]) rfl rfl rfl (by simp [St.put]) (fun _ => rfl) rfl (by simp [St.put]) (fun _ _ => rfl) rfl rfl rfl rfl rfl rfl el23 fo37_3 agg3 sz3 (by decide) (.inr rfl) (by omega) (getIdx cs hal) fun p q ces hces => ?_
          obtain rfl := rCop_open hces
          refine WO.go 2 (ds := [some 92, some 93, some 94, some 95, some 96, some 97, some 98, some 99, some 100, some 101, some 102]) rfl ?_
          simp only [sx, ty, Bool.false_eq_true, Int.reduceEq, Int.reduceLT, Nat.reduceAdd, Nat.reduceSub, Nat.reduceMul, Nat.reduceLT, Nat.reduceLeDiff, Nat.reduceEqDiff, List.reduceReplicate, reduceIte, beq_self_eq_true, bne_self_eq_false, Int.reduceBEq, Int.reduceBNe, Bool.or_false, Bool.false_or, Bool.not_false, Bool.not_true]
          with_reducible refine WO.nil ?_
          refine ⟨rfl, ?_, ⟨_, rfl⟩, by simp [Own.bnd, bndL, bnd], by simp⟩
          try rw [hg94]
          simp [getE, bnd, keepE]
      · simp only [sx, ty, Bool.false_eq_true, Int.reduceEq, Int.reduceLT, Nat.reduceAdd, Nat.reduceSub, Nat.reduceMul, Nat.reduceLT, Nat.reduceLeDiff, Nat.reduceEqDiff, List.reduceReplicate, reduceIte, sxk, beq_self_eq_true, bne_self_eq_false, Int.reduceBEq, Int.reduceBNe, Bool.or_false, Bool.false_or, Bool.not_false, Bool.not_true]
        refine W.cond rfl rfl (fun hc => ?_) (fun hc => ?_)
        · skip
          refine W.seqK fun K14 hK14 => W.region ?_
          refine WO.go 7 (ds := [some 103, some 104, some 105, some 106, some 107, some 108, some 10]) rfl ?_
          simp only [sx, ty, Bool.false_eq_true, Int.reduceEq, Int.reduceLT, Nat.reduceAdd, Nat.reduceSub, Nat.reduceMul, Nat.reduceLT, Nat.reduceLeDiff, Nat.reduceEqDiff, List.reduceReplicate, reduceIte, beq_self_eq_true, bne_self_eq_false, Int.reduceBEq, Int.reduceBNe, Bool.or_false, Bool.false_or, Bool.not_false, Bool.not_true]
          with_reducible refine WO.nil ?_
          refine hK14 _ ?_; clear hK14
          refine W.ret ⟨by simp, _, rfl, fun ρ w1 hb => ?_⟩
          simp only [den, Value.bool.injEq]
          exact beq_iff_eq.2 (halls_same (by simpa using hc))
        · skip
          refine W.skip (hK12 _ ?_)
          refine W.join 10 (.val (.bool ((costF ds[m] cs[a] ((IntKind.i64.wrap hall).tmod 100) == IntKind.i64.wrap (costF ds[m] cs[a] cs[a].2.2.2 + 5)) && (costF ds[m] cs[a] cs[a].2.2.2).tmod 10 == 0))) [] (W.region ?_) ?_
          · skip
            refine WO.go 8 (ds := [some 109, some 110, some 111, some 112, some 113, some 114, some 115, some 116, some 117, some 118, some 119, some 120, some 10]) rfl ?_
            simp only [sx, ty, Bool.false_eq_true, Int.reduceEq, Int.reduceLT, Nat.reduceAdd, Nat.reduceSub, Nat.reduceMul, Nat.reduceLT, Nat.reduceLeDiff, Nat.reduceEqDiff, List.reduceReplicate, reduceIte, beq_self_eq_true, bne_self_eq_false, Int.reduceBEq, Int.reduceBNe, Bool.or_false, Bool.false_or, Bool.not_false, Bool.not_true]
            refine WO.cases 116 _ rfl (fun hg116 => ?_) (fun hg116 => ?_)
            · skip
              refine WO.go 5 (ds := [some 109, some 110, some 111, some 112, some 113, some 114, some 115, some 116, some 117, some 118, some 119, some 120, some 10]) rfl ?_
              simp only [sx, ty, Bool.false_eq_true, Int.reduceEq, Int.reduceLT, Nat.reduceAdd, Nat.reduceSub, Nat.reduceMul, Nat.reduceLT, Nat.reduceLeDiff, Nat.reduceEqDiff, List.reduceReplicate, reduceIte, beq_self_eq_true, bne_self_eq_false, Int.reduceBEq, Int.reduceBNe, Bool.or_false, Bool.false_or, Bool.not_false, Bool.not_true]
              with_reducible refine WO.nil ?_
              refine ⟨rfl, ?_, ⟨_, rfl⟩, by simp [Own.bnd, bndL, bnd], by simp⟩
              try rw [hg116]
              simp [getE, bnd, keepE]
            · skip
              refine WO.go 5 (ds := [some 109, some 110, some 111, some 112, some 113, some 114, some 115, some 116, some 117, some 118, some 119, some 120, some 10]) rfl ?_
              simp only [sx, ty, Bool.false_eq_true, Int.reduceEq, Int.reduceLT, Nat.reduceAdd, Nat.reduceSub, Nat.reduceMul, Nat.reduceLT, Nat.reduceLeDiff, Nat.reduceEqDiff, List.reduceReplicate, reduceIte, beq_self_eq_true, bne_self_eq_false, Int.reduceBEq, Int.reduceBNe, Bool.or_false, Bool.false_or, Bool.not_false, Bool.not_true]
              with_reducible refine WO.nil ?_
              refine ⟨rfl, ?_, ⟨_, rfl⟩, by simp [Own.bnd, bndL, bnd], by simp⟩
              try rw [hg116]
              simp [getE, bnd, keepE]
          · simp only [sx, ty, Bool.false_eq_true, Int.reduceEq, Int.reduceLT, Nat.reduceAdd, Nat.reduceSub, Nat.reduceMul, Nat.reduceLT, Nat.reduceLeDiff, Nat.reduceEqDiff, List.reduceReplicate, reduceIte, sxk, beq_self_eq_true, bne_self_eq_false, Int.reduceBEq, Int.reduceBNe, Bool.or_false, Bool.false_or, Bool.not_false, Bool.not_true]
            refine W.ret ⟨by simp, _, rfl, fun ρ w1 hb => ?_⟩
            have hx : ¬ costF ds[m] cs[a] cs[a].2.2.2 < 0 ∧ ¬ ((IntKind.i64.wrap hall).tmod 100) = cs[a].2.2.2 := by simpa [not_or] using hc
            have hlaw := halls_far hx.1 hx.2
            have hle := costF_le ds[m] cs[a] cs[a].2.2.2 (by have := hel _ (List.getElem_mem hml); omega)
            simp only [den, Value.bool.injEq]
            rw [hlaw.1, hlaw.2, wrap_id (x := costF ds[m] cs[a] cs[a].2.2.2 + 5) (by omega) (by omega)]
            simp
/-- function 5 -/
theorem law3 {S S2 : Nat → Prop} {w : World} {v u : Value} {ds : List Dem} {cs : List Cop} (hl : rDems.rd S w [v] ds) (hl2 : rCops.rd S2 w [u] cs) (j i k hall : Int) (hj : 0 ≤ j ∧ j ≤ 255) (hi : 0 ≤ i ∧ i ≤ 255) (hk : 0 ≤ k ∧ k ≤ 255) (hh : 0 ≤ hall ∧ hall ≤ 255) :
    Gives Try.prog 5 #[v, u, .int .u8 j, .int .u8 i, .int .u8 k, .int .u8 hall] w fun r _ => r = .bool true := by
  obtain ⟨p, c, rfl, hc1, hc2⟩ := Rp.slice_val hl
  obtain ⟨p2, c2, rfl, hc3, hc4⟩ := Rp.slice_val hl2
  have hl : (Rp.slice rDem).rd (fun _ => True) w _ ds := Rp.any hl
  have hl2 : (Rp.slice rCop).rd (fun _ => True) w _ cs := Rp.any hl2
  refine gives_of [.val (.slice p ds.length c), .val (.slice p2 cs.length c2), .val (.int .u8 j), .val (.int .u8 i), .val (.int .u8 k), .val (.int .u8 hall)] 164 [.tmp 12] Try.func5 rfl rfl rfl (by simp) rfl rfl ?_
  refine W.pure (ds := []) rfl fun K1 hK1 => ?_
  simp only [sx, ty, Bool.false_eq_true, Int.reduceEq, Int.reduceLT, Nat.reduceAdd, Nat.reduceSub, Nat.reduceMul, Nat.reduceLT, Nat.reduceLeDiff, Nat.reduceEqDiff, List.reduceReplicate, reduceIte, beq_self_eq_true, bne_self_eq_false, Int.reduceBEq, Int.reduceBNe, Bool.or_false, Bool.false_or, Bool.not_false, Bool.not_true]; with_reducible refine hK1 _ ?_; clear hK1
  refine W.seqK fun K2 hK2 => W.region ?_
  refine WO.call (.bool true) (ds := []) rfl rfl rfl rfl co8 (fun ρ w1 hb => head_spec w1) ?_
  refine WO.go 1 (ds := []) rfl ?_
  simp only [sx, ty, Bool.false_eq_true, Int.reduceEq, Int.reduceLT, Nat.reduceAdd, Nat.reduceSub, Nat.reduceMul, Nat.reduceLT, Nat.reduceLeDiff, Nat.reduceEqDiff, List.reduceReplicate, reduceIte, beq_self_eq_true, bne_self_eq_false, Int.reduceBEq, Int.reduceBNe, Bool.or_false, Bool.false_or, Bool.not_false, Bool.not_true]
  with_reducible refine WO.nil ?_
  refine hK2 _ ?_; clear hK2
  refine W.seqK fun K3 hK3 => ?_
  refine W.seqK fun K4 hK4 => W.region ?_
  refine WO.go 2 (ds := []) rfl ?_
  simp only [sx, ty, Bool.false_eq_true, Int.reduceEq, Int.reduceLT, Nat.reduceAdd, Nat.reduceSub, Nat.reduceMul, Nat.reduceLT, Nat.reduceLeDiff, Nat.reduceEqDiff, List.reduceReplicate, reduceIte, beq_self_eq_true, bne_self_eq_false, Int.reduceBEq, Int.reduceBNe, Bool.or_false, Bool.false_or, Bool.not_false, Bool.not_true]
  refine WO.call (.bool (usableB ds cs)) (ds := []) rfl rfl rfl rfl co15 (fun ρ w1 hb => usable_spec (Rp.now hl (hb.first (by simp))) (Rp.now hl2 (hb.first (by simp)))) ?_
  refine WO.go 1 (ds := []) rfl ?_
  simp only [sx, ty, Bool.false_eq_true, Int.reduceEq, Int.reduceLT, Nat.reduceAdd, Nat.reduceSub, Nat.reduceMul, Nat.reduceLT, Nat.reduceLeDiff, Nat.reduceEqDiff, List.reduceReplicate, reduceIte, beq_self_eq_true, bne_self_eq_false, Int.reduceBEq, Int.reduceBNe, Bool.or_false, Bool.false_or, Bool.not_false, Bool.not_true]
  with_reducible refine WO.nil ?_
  refine hK4 _ ?_; clear hK4
  refine W.cond rfl rfl (fun hc => ?_) (fun hc => ?_)
  · skip
    refine W.pure (ds := []) rfl fun K5 hK5 => ?_
    simp only [sx, ty, Bool.false_eq_true, Int.reduceEq, Int.reduceLT, Nat.reduceAdd, Nat.reduceSub, Nat.reduceMul, Nat.reduceLT, Nat.reduceLeDiff, Nat.reduceEqDiff, List.reduceReplicate, reduceIte, beq_self_eq_true, bne_self_eq_false, Int.reduceBEq, Int.reduceBNe, Bool.or_false, Bool.false_or, Bool.not_false, Bool.not_true]; with_reducible refine hK5 _ ?_; clear hK5
    refine W.ret ⟨by simp, _, rfl, fun ρ w1 hb => ?_⟩
    rfl
  · skip
    have hU : usableB ds cs = true := by simpa using hc
    clear hc
    obtain ⟨hd0, hc0, hv⟩ := usable_of hU
    obtain ⟨hdl, hcl, hel⟩ := valid_lens hv
    have hdn : ¬ ((ds.length : Int) = 0) := by omega
    have hcn : ¬ ((cs.length : Int) = 0) := by omega
    obtain ⟨m, hm, hml⟩ := rem_nat hj hd0
    obtain ⟨a, ha, hal⟩ := rem_nat hi hc0
    obtain ⟨b, hb0, hbl⟩ := rem_nat hk hc0
    have hen : ds[m].2.2.2.length ≤ 12 := hel _ (List.getElem_mem hml)
    refine W.skip (hK3 _ ?_)
    refine W.seqK fun K6 hK6 => W.region ?_
    refine WO.go 5 (ds := []) rfl ?_
    simp only [sx, ty, Bool.false_eq_true, Int.reduceEq, Int.reduceLT, Nat.reduceAdd, Nat.reduceSub, Nat.reduceMul, Nat.reduceLT, Nat.reduceLeDiff, Nat.reduceEqDiff, List.reduceReplicate, reduceIte, beq_self_eq_true, bne_self_eq_false, Int.reduceBEq, Int.reduceBNe, Bool.or_false, Bool.false_or, Bool.not_false, Bool.not_true]
    refine WO.callM (fun x : Option Addr × Nat => .tuple #[.slice x.1 (costsF ds cs ((IntKind.i64.wrap hall).tmod 100)).length x.2, .int .i64 0]) (fun lo x s => rRows.rd (fun b => lo ≤ b) s [.slice x.1 (costsF ds cs ((IntKind.i64.wrap hall).tmod 100)).length x.2] (costsF ds cs ((IntKind.i64.wrap hall).tmod 100))) (ds := []) rfl rfl rfl rfl co10 (fun ρ w1 hb => costs_call (costs_of hv (rem_hall hh)) (Rp.now hl (hb.first (by simp))) (Rp.now hl2 (hb.first (by simp)))) fun x lo hr1s hr1 => ?_
    obtain ⟨hr1p, hr1c⟩ := x
    simp only at hr1
    refine WO.go 5 (ds := []) rfl ?_
    simp only [sx, ty, Bool.false_eq_true, Int.reduceEq, Int.reduceLT, Nat.reduceAdd, Nat.reduceSub, Nat.reduceMul, Nat.reduceLT, Nat.reduceLeDiff, Nat.reduceEqDiff, List.reduceReplicate, reduceIte, beq_self_eq_true, bne_self_eq_false, Int.reduceBEq, Int.reduceBNe, Bool.or_false, Bool.false_or, Bool.not_false, Bool.not_true]
    with_reducible refine WO.nil ?_
    refine hK6 _ ?_; clear hK6
    refine W.seqK fun K7 hK7 => ?_
    refine W.seqK fun K8 hK8 => W.region ?_
    refine WO.go 6 (ds := [some 38, some 39, some 40, some 41, some 42, some 43, some 44, some 45, some 46]) rfl ?_
    simp only [sx, ty, Bool.false_eq_true, Int.reduceEq, Int.reduceLT, Nat.reduceAdd, Nat.reduceSub, Nat.reduceMul, Nat.reduceLT, Nat.reduceLeDiff, Nat.reduceEqDiff, List.reduceReplicate, reduceIte, beq_self_eq_true, bne_self_eq_false, Int.reduceBEq, Int.reduceBNe, Bool.or_false, Bool.false_or, Bool.not_false, Bool.not_true]
    refine WO.call (.bool true) (ds := [some 38, some 39, some 40, some 41, some 42, some 43, some 44, some 45, some 46]) rfl rfl rfl rfl co16 (fun ρ w1 hb => shaped_costs (Rp.keep hr1 (hb.at (by simp))) _ _ _ _ _ _ rfl rfl) ?_
    refine WO.go 2 (ds := [some 38, some 39, some 40, some 41, some 42, some 43, some 44, some 45, some 46]) rfl ?_
    simp only [sx, ty, Bool.false_eq_true, Int.reduceEq, Int.reduceLT, Nat.reduceAdd, Nat.reduceSub, Nat.reduceMul, Nat.reduceLT, Nat.reduceLeDiff, Nat.reduceEqDiff, List.reduceReplicate, reduceIte, beq_self_eq_true, bne_self_eq_false, Int.reduceBEq, Int.reduceBNe, Bool.or_false, Bool.false_or, Bool.not_false, Bool.not_true]
    with_reducible refine WO.nil ?_
    refine hK8 _ ?_; clear hK8
    refine W.cond rfl rfl (fun hc => ?_) (fun hc => ?_)
    · simp at hc
    · skip
      refine W.skip (hK7 _ ?_)
      refine W.seqK fun K9 hK9 => ?_
      refine W.regionQ mixed (by kernel_rfl) ?_
      refine WQ.go 4 (ds := []) rfl ?_
      simp only [sx, ty, Bool.false_eq_true, Int.reduceEq, Int.reduceLT, Nat.reduceAdd, Nat.reduceSub, Nat.reduceMul, Nat.reduceLT, Nat.reduceLeDiff, Nat.reduceEqDiff, List.reduceReplicate, reduceIte, sxq, Bool.false_eq_true, beq_self_eq_true, bne_self_eq_false, Int.reduceBEq, Int.reduceBNe, Bool.or_false, Bool.false_or, Bool.not_false, Bool.not_true]
      refine WQ.go 1 (ds := []) rfl ?_
      simp only [sx, ty, Bool.false_eq_true, Int.reduceEq, Int.reduceLT, Nat.reduceAdd, Nat.reduceSub, Nat.reduceMul, Nat.reduceLT, Nat.reduceLeDiff, Nat.reduceEqDiff, List.reduceReplicate, reduceIte, sxq, Bool.false_eq_true, beq_self_eq_true, bne_self_eq_false, Int.reduceBEq, Int.reduceBNe, Bool.or_false, Bool.false_or, Bool.not_false, Bool.not_true, if_neg hdn, hm]
      refine WQ.go 4 (ds := []) rfl ?_
      simp only [sx, ty, Bool.false_eq_true, Int.reduceEq, Int.reduceLT, Nat.reduceAdd, Nat.reduceSub, Nat.reduceMul, Nat.reduceLT, Nat.reduceLeDiff, Nat.reduceEqDiff, List.reduceReplicate, reduceIte, sxq, Bool.false_eq_true, beq_self_eq_true, bne_self_eq_false, Int.reduceBEq, Int.reduceBNe, Bool.or_false, Bool.false_or, Bool.not_false, Bool.not_true]
      refine WQ.go 1 (ds := []) rfl ?_
      simp only [sx, ty, Bool.false_eq_true, Int.reduceEq, Int.reduceLT, Nat.reduceAdd, Nat.reduceSub, Nat.reduceMul, Nat.reduceLT, Nat.reduceLeDiff, Nat.reduceEqDiff, List.reduceReplicate, reduceIte, sxq, Bool.false_eq_true, beq_self_eq_true, bne_self_eq_false, Int.reduceBEq, Int.reduceBNe, Bool.or_false, Bool.false_or, Bool.not_false, Bool.not_true, if_neg hcn, ha]
      refine WQ.go 4 (ds := []) rfl ?_
      simp only [sx, ty, Bool.false_eq_true, Int.reduceEq, Int.reduceLT, Nat.reduceAdd, Nat.reduceSub, Nat.reduceMul, Nat.reduceLT, Nat.reduceLeDiff, Nat.reduceEqDiff, List.reduceReplicate, reduceIte, sxq, Bool.false_eq_true, beq_self_eq_true, bne_self_eq_false, Int.reduceBEq, Int.reduceBNe, Bool.or_false, Bool.false_or, Bool.not_false, Bool.not_true]
      refine WQ.go 1 (ds := []) rfl ?_
      simp only [sx, ty, Bool.false_eq_true, Int.reduceEq, Int.reduceLT, Nat.reduceAdd, Nat.reduceSub, Nat.reduceMul, Nat.reduceLT, Nat.reduceLeDiff, Nat.reduceEqDiff, List.reduceReplicate, reduceIte, sxq, Bool.false_eq_true, beq_self_eq_true, bne_self_eq_false, Int.reduceBEq, Int.reduceBNe, Bool.or_false, Bool.false_or, Bool.not_false, Bool.not_true, if_neg hcn, hb0]
      refine WQ.go 3 (ds := []) rfl ?_
      simp only [sx, ty, Bool.false_eq_true, Int.reduceEq, Int.reduceLT, Nat.reduceAdd, Nat.reduceSub, Nat.reduceMul, Nat.reduceLT, Nat.reduceLeDiff, Nat.reduceEqDiff, List.reduceReplicate, reduceIte, sxq, Bool.false_eq_true, beq_self_eq_true, bne_self_eq_false, Int.reduceBEq, Int.reduceBNe, Bool.or_false, Bool.false_or, Bool.not_false, Bool.not_true]
      with_reducible refine WQ.nil ?_
      refine hK9 _ ?_; clear hK9
      refine W.seqK fun K10 hK10 => ?_
      refine W.regionQ mixed (by kernel_rfl) ?_
      refine WQ.go 2 (ds := []) rfl ?_
      simp only [sx, ty, Bool.false_eq_true, Int.reduceEq, Int.reduceLT, Nat.reduceAdd, Nat.reduceSub, Nat.reduceMul, Nat.reduceLT, Nat.reduceLeDiff, Nat.reduceEqDiff, List.reduceReplicate, reduceIte, sxq, Bool.false_eq_true, beq_self_eq_true, bne_self_eq_false, Int.reduceBEq, Int.reduceBNe, Bool.or_false, Bool.false_or, Bool.not_false, Bool.not_true]
      refine WQ.elem (y := (cs.map fun c => costF ds[m] c ((IntKind.i64.wrap hall).tmod 100))) hr1 (by simp [St.put]) (ds := []) rfl rfl rfl (by simp [St.put]) (fun _ => rfl) rfl rfl rfl rfl rfl el26 agg33 sz33 (.inr rfl) (by omega) (costsF_row hml) fun p ces hces => ?_
      obtain ⟨p5, c5, rfl, hq5, hqc5⟩ := rInts_open hces
      have hrow5 := hces
      clear hces
      refine WQ.go 1 (ds := []) rfl ?_
      simp only [sx, ty, Bool.false_eq_true, Int.reduceEq, Int.reduceLT, Nat.reduceAdd, Nat.reduceSub, Nat.reduceMul, Nat.reduceLT, Nat.reduceLeDiff, Nat.reduceEqDiff, List.reduceReplicate, reduceIte, sxq, Bool.false_eq_true, beq_self_eq_true, bne_self_eq_false, Int.reduceBEq, Int.reduceBNe, Bool.or_false, Bool.false_or, Bool.not_false, Bool.not_true]
      refine WQ.elem (y := costF ds[m] cs[a] ((IntKind.i64.wrap hall).tmod 100)) hrow5 (by simp [St.put]) (ds := []) rfl rfl rfl (by simp [St.put]) (fun _ => rfl) rfl rfl rfl rfl rfl el33 agg3 sz3 (.inr rfl) (by omega) (row_get hal) fun p ces hces => ?_
      obtain rfl := rInt_open hces
      clear hces
      refine WQ.go 2 (ds := []) rfl ?_
      simp only [sx, ty, Bool.false_eq_true, Int.reduceEq, Int.reduceLT, Nat.reduceAdd, Nat.reduceSub, Nat.reduceMul, Nat.reduceLT, Nat.reduceLeDiff, Nat.reduceEqDiff, List.reduceReplicate, reduceIte, sxq, Bool.false_eq_true, beq_self_eq_true, bne_self_eq_false, Int.reduceBEq, Int.reduceBNe, Bool.or_false, Bool.false_or, Bool.not_false, Bool.not_true]
      refine WQ.elem (y := (cs.map fun c => costF ds[m] c ((IntKind.i64.wrap hall).tmod 100))) hr1 (by simp [St.put]) (ds := []) rfl rfl rfl (by simp [St.put]) (fun _ => rfl) rfl rfl rfl rfl rfl el26 agg33 sz33 (.inr rfl) (by omega) (costsF_row hml) fun p ces hces => ?_
      obtain ⟨p6, c6, rfl, hq6, hqc6⟩ := rInts_open hces
      have hrow6 := hces
      clear hces
      refine WQ.go 1 (ds := []) rfl ?_
      simp only [sx, ty, Bool.false_eq_true, Int.reduceEq, Int.reduceLT, Nat.reduceAdd, Nat.reduceSub, Nat.reduceMul, Nat.reduceLT, Nat.reduceLeDiff, Nat.reduceEqDiff, List.reduceReplicate, reduceIte, sxq, Bool.false_eq_true, beq_self_eq_true, bne_self_eq_false, Int.reduceBEq, Int.reduceBNe, Bool.or_false, Bool.false_or, Bool.not_false, Bool.not_true]
      refine WQ.elem (y := costF ds[m] cs[b] ((IntKind.i64.wrap hall).tmod 100)) hrow6 (by simp [St.put]) (ds := []) rfl rfl rfl (by simp [St.put]) (fun _ => rfl) rfl rfl rfl rfl rfl el33 agg3 sz3 (.inr rfl) (by omega) (row_get hbl) fun p ces hces => ?_
      obtain rfl := rInt_open hces
      clear hces
      refine WQ.go 2 (ds := []) rfl ?_
      simp only [sx, ty, Bool.false_eq_true, Int.reduceEq, Int.reduceLT, Nat.reduceAdd, Nat.reduceSub, Nat.reduceMul, Nat.reduceLT, Nat.reduceLeDiff, Nat.reduceEqDiff, List.reduceReplicate, reduceIte, sxq, Bool.false_eq_true, beq_self_eq_true, bne_self_eq_false, Int.reduceBEq, Int.reduceBNe, Bool.or_false, Bool.false_or, Bool.not_false, Bool.not_true]
      with_reducible refine WQ.nil ?_
      refine hK10 _ ?_; clear hK10
      refine W.seqK fun K11 hK11 => ?_
      refine W.join 81 (.val (.bool (decide (costF ds[m] cs[a] ((IntKind.i64.wrap hall).tmod 100) < 0) || decide (costF ds[m] cs[b] ((IntKind.i64.wrap hall).tmod 100) < 0)))) [0, 1, 13, 16, 17, 18, 19, 20] (W.region ?_) ?_
      · skip
        refine WO.go 3 (ds := [some 76, some 77, some 78, some 79, some 80, some 81]) rfl ?_
        simp only [sx, ty, Bool.false_eq_true, Int.reduceEq, Int.reduceLT, Nat.reduceAdd, Nat.reduceSub, Nat.reduceMul, Nat.reduceLT, Nat.reduceLeDiff, Nat.reduceEqDiff, List.reduceReplicate, reduceIte, beq_self_eq_true, bne_self_eq_false, Int.reduceBEq, Int.reduceBNe, Bool.or_false, Bool.false_or, Bool.not_false, Bool.not_true]
        refine WO.cases 78 _ rfl (fun hg78 => ?_) (fun hg78 => ?_)
        · skip
          refine WO.go 3 (ds := [some 76, some 77, some 78, some 79, some 80, some 81]) rfl ?_
          simp only [sx, ty, Bool.false_eq_true, Int.reduceEq, Int.reduceLT, Nat.reduceAdd, Nat.reduceSub, Nat.reduceMul, Nat.reduceLT, Nat.reduceLeDiff, Nat.reduceEqDiff, List.reduceReplicate, reduceIte, beq_self_eq_true, bne_self_eq_false, Int.reduceBEq, Int.reduceBNe, Bool.or_false, Bool.false_or, Bool.not_false, Bool.not_true]
          with_reducible refine WO.nil ?_
          refine ⟨rfl, ?_, ⟨_, rfl⟩, by simp [Own.bnd, bndL, bnd], by simp⟩
          try rw [hg78]
          simp [getE, bnd, keepE]
        · skip
          refine WO.go 3 (ds := [some 76, some 77, some 78, some 79, some 80, some 81]) rfl ?_
          simp only [sx, ty, Bool.false_eq_true, Int.reduceEq, Int.reduceLT, Nat.reduceAdd, Nat.reduceSub, Nat.reduceMul, Nat.reduceLT, Nat.reduceLeDiff, Nat.reduceEqDiff, List.reduceReplicate, reduceIte, beq_self_eq_true, bne_self_eq_false, Int.reduceBEq, Int.reduceBNe, Bool.or_false, Bool.false_or, Bool.not_false, Bool.not_true]
          with_reducible refine WO.nil ?_
          refine ⟨rfl, ?_, ⟨_, rfl⟩, by simp [Own.bnd, bndL, bnd], by simp⟩
          try rw [hg78]
          simp [getE, bnd, keepE]
      · simp only [sx, ty, Bool.false_eq_true, Int.reduceEq, Int.reduceLT, Nat.reduceAdd, Nat.reduceSub, Nat.reduceMul, Nat.reduceLT, Nat.reduceLeDiff, Nat.reduceEqDiff, List.reduceReplicate, reduceIte, sxk, beq_self_eq_true, bne_self_eq_false, Int.reduceBEq, Int.reduceBNe, Bool.or_false, Bool.false_or, Bool.not_false, Bool.not_true]
        refine W.cond rfl rfl (fun hc => ?_) (fun hc => ?_)
        · skip
          refine W.join 12 (.val (.bool (decide (-1 ≤ costF ds[m] cs[a] ((IntKind.i64.wrap hall).tmod 100)) && decide (-1 ≤ costF ds[m] cs[b] ((IntKind.i64.wrap hall).tmod 100))))) [] (W.region ?_) ?_
          · skip
            refine WO.go 6 (ds := [some 82, some 83, some 84, some 85, some 86, some 87, some 88, some 89, some 90, some 12]) rfl ?_
            simp only [sx, ty, Bool.false_eq_true, Int.reduceEq, Int.reduceLT, Nat.reduceAdd, Nat.reduceSub, Nat.reduceMul, Nat.reduceLT, Nat.reduceLeDiff, Nat.reduceEqDiff, List.reduceReplicate, reduceIte, beq_self_eq_true, bne_self_eq_false, Int.reduceBEq, Int.reduceBNe, Bool.or_false, Bool.false_or, Bool.not_false, Bool.not_true]
            refine WO.cases 87 _ rfl (fun hg87 => ?_) (fun hg87 => ?_)
            · skip
              refine WO.go 4 (ds := [some 82, some 83, some 84, some 85, some 86, some 87, some 88, some 89, some 90, some 12]) rfl ?_
              simp only [sx, ty, Bool.false_eq_true, Int.reduceEq, Int.reduceLT, Nat.reduceAdd, Nat.reduceSub, Nat.reduceMul, Nat.reduceLT, Nat.reduceLeDiff, Nat.reduceEqDiff, List.reduceReplicate, reduceIte, beq_self_eq_true, bne_self_eq_false, Int.reduceBEq, Int.reduceBNe, Bool.or_false, Bool.false_or, Bool.not_false, Bool.not_true]
              with_reducible refine WO.nil ?_
              refine ⟨rfl, ?_, ⟨_, rfl⟩, by simp [Own.bnd, bndL, bnd], by simp⟩
              try rw [hg87]
              simp [getE, bnd, keepE]
            · skip
              refine WO.go 4 (ds := [some 82, some 83, some 84, some 85, some 86, some 87, some 88, some 89, some 90, some 12]) rfl ?_
              simp only [sx, ty, Bool.false_eq_true, Int.reduceEq, Int.reduceLT, Nat.reduceAdd, Nat.reduceSub, Nat.reduceMul, Nat.reduceLT, Nat.reduceLeDiff, Nat.reduceEqDiff, List.reduceReplicate, reduceIte, beq_self_eq_true, bne_self_eq_false, Int.reduceBEq, Int.reduceBNe, Bool.or_false, Bool.false_or, Bool.not_false, Bool.not_true]
              with_reducible refine WO.nil ?_
              refine ⟨rfl, ?_, ⟨_, rfl⟩, by simp [Own.bnd, bndL, bnd], by simp⟩
              try rw [hg87]
              simp [getE, bnd, keepE]
          · simp only [sx, ty, Bool.false_eq_true, Int.reduceEq, Int.reduceLT, Nat.reduceAdd, Nat.reduceSub, Nat.reduceMul, Nat.reduceLT, Nat.reduceLeDiff, Nat.reduceEqDiff, List.reduceReplicate, reduceIte, sxk, beq_self_eq_true, bne_self_eq_false, Int.reduceBEq, Int.reduceBNe, Bool.or_false, Bool.false_or, Bool.not_false, Bool.not_true]
            refine W.ret ⟨by simp, _, rfl, fun ρ w1 hb => ?_⟩
            have hle := costF_le ds[m] cs[a] ((IntKind.i64.wrap hall).tmod 100) (by omega)
            have hle2 := costF_le ds[m] cs[b] ((IntKind.i64.wrap hall).tmod 100) (by omega)
            simp only [den, hle.1, hle2.1, decide_true, Bool.and_self]
        · skip
          have hx : ¬ costF ds[m] cs[a] ((IntKind.i64.wrap hall).tmod 100) < 0 ∧ ¬ costF ds[m] cs[b] ((IntKind.i64.wrap hall).tmod 100) < 0 := by simp at hc; omega
          refine W.skip (hK11 _ ?_)
          refine W.seqK fun K14 hK14 => ?_
          refine W.regionQ mixed (by kernel_rfl) ?_
          refine WQ.go 2 (ds := []) rfl ?_
          simp only [sx, ty, Bool.false_eq_true, Int.reduceEq, Int.reduceLT, Nat.reduceAdd, Nat.reduceSub, Nat.reduceMul, Nat.reduceLT, Nat.reduceLeDiff, Nat.reduceEqDiff, List.reduceReplicate, reduceIte, sxq, Bool.false_eq_true, beq_self_eq_true, bne_self_eq_false, Int.reduceBEq, Int.reduceBNe, Bool.or_false, Bool.false_or, Bool.not_false, Bool.not_true]
          refine WQ.elemF (y := ds[m]) hl (by simp [St.put]) (ds := []) rfl rfl rfl (by simp [St.put]) (fun _ => rfl) rfl (by simp [St.put]) (fun _ _ => rfl) rfl rfl rfl rfl rfl rfl el22 fo35_3 agg33 sz33 (by decide) (.inr rfl) (by omega) (getIdx ds hml) fun p q ces hces => ?_
          obtain ⟨p7, c7, rfl, hed, hel7⟩ := rDem_open hces
          clear hces
          refine WQ.go 2 (ds := []) rfl ?_
          simp only [sx, ty, Bool.false_eq_true, Int.reduceEq, Int.reduceLT, Nat.reduceAdd, Nat.reduceSub, Nat.reduceMul, Nat.reduceLT, Nat.reduceLeDiff, Nat.reduceEqDiff, List.reduceReplicate, reduceIte, sxq, Bool.false_eq_true, beq_self_eq_true, bne_self_eq_false, Int.reduceBEq, Int.reduceBNe, Bool.or_false, Bool.false_or, Bool.not_false, Bool.not_true]
          refine WQ.elemF (y := cs[a]) hl2 (by simp [St.put]) (ds := []) rfl rfl rfl (by simp [St.put]) (fun _ => rfl) rfl (by simp [St.put]) (fun _ _ => rfl) rfl rfl rfl rfl rfl rfl el23 fo37_2 agg3 sz3 (by decide) (.inr rfl) (by omega) (getIdx cs hal) fun p q ces hces => ?_
          obtain rfl := rCop_open hces
          clear hces
          simp only [sx, ty, Bool.false_eq_true, Int.reduceEq, Int.reduceLT, Nat.reduceAdd, Nat.reduceSub, Nat.reduceMul, Nat.reduceLT, Nat.reduceLeDiff, Nat.reduceEqDiff, List.reduceReplicate, reduceIte, beq_self_eq_true, bne_self_eq_false, Int.reduceBEq, Int.reduceBNe, Bool.or_false, Bool.false_or, Bool.not_false, Bool.not_true]
          refine WQ.call (.int .i64 (idxOf ds[m].2.2.2 cs[a].2.2.1)) (ds := []) rfl rfl rfl rfl co17 (fun ρ w1 hb => rindex_spec (Rp.now hed (hb.first (by simp))) _) ?_
          refine WQ.go 2 (ds := []) rfl ?_
          simp only [sx, ty, Bool.false_eq_true, Int.reduceEq, Int.reduceLT, Nat.reduceAdd, Nat.reduceSub, Nat.reduceMul, Nat.reduceLT, Nat.reduceLeDiff, Nat.reduceEqDiff, List.reduceReplicate, reduceIte, sxq, Bool.false_eq_true, beq_self_eq_true, bne_self_eq_false, Int.reduceBEq, Int.reduceBNe, Bool.or_false, Bool.false_or, Bool.not_false, Bool.not_true]
          refine WQ.elemF (y := ds[m]) hl (by simp [St.put]) (ds := []) rfl rfl rfl (by simp [St.put]) (fun _ => rfl) rfl (by simp [St.put]) (fun _ _ => rfl) rfl rfl rfl rfl rfl rfl el22 fo35_3 agg33 sz33 (by decide) (.inr rfl) (by omega) (getIdx ds hml) fun p q ces hces => ?_
          obtain ⟨p8, c8, rfl, hed8, hel8⟩ := rDem_open hces
          clear hces
          refine WQ.go 2 (ds := []) rfl ?_
          simp only [sx, ty, Bool.false_eq_true, Int.reduceEq, Int.reduceLT, Nat.reduceAdd, Nat.reduceSub, Nat.reduceMul, Nat.reduceLT, Nat.reduceLeDiff, Nat.reduceEqDiff, List.reduceReplicate, reduceIte, sxq, Bool.false_eq_true, beq_self_eq_true, bne_self_eq_false, Int.reduceBEq, Int.reduceBNe, Bool.or_false, Bool.false_or, Bool.not_false, Bool.not_true]
          refine WQ.elemF (y := cs[b]) hl2 (by simp [St.put]) (ds := []) rfl rfl rfl (by simp [St.put]) (fun _ => rfl) rfl (by simp [St.put]) (fun _ _ => rfl) rfl rfl rfl rfl rfl rfl el23 fo37_2 agg3 sz3 (by decide) (.inr rfl) (by omega) (getIdx cs hbl) fun p q ces hces => ?_
          obtain rfl := rCop_open hces
          clear hces
          simp only [sx, ty, Bool.false_eq_true, Int.reduceEq, Int.reduceLT, Nat.reduceAdd, Nat.reduceSub, Nat.reduceMul, Nat.reduceLT, Nat.reduceLeDiff, Nat.reduceEqDiff, List.reduceReplicate, reduceIte, beq_self_eq_true, bne_self_eq_false, Int.reduceBEq, Int.reduceBNe, Bool.or_false, Bool.false_or, Bool.not_false, Bool.not_true]
          refine WQ.call (.int .i64 (idxOf ds[m].2.2.2 cs[b].2.2.1)) (ds := []) rfl rfl rfl rfl co17 (fun ρ w1 hb => rindex_spec (Rp.now hed8 (hb.first (by simp))) _) ?_
          refine WQ.go 2 (ds := []) rfl ?_
          simp only [sx, ty, Bool.false_eq_true, Int.reduceEq, Int.reduceLT, Nat.reduceAdd, Nat.reduceSub, Nat.reduceMul, Nat.reduceLT, Nat.reduceLeDiff, Nat.reduceEqDiff, List.reduceReplicate, reduceIte, sxq, Bool.false_eq_true, beq_self_eq_true, bne_self_eq_false, Int.reduceBEq, Int.reduceBNe, Bool.or_false, Bool.false_or, Bool.not_false, Bool.not_true]
          with_reducible refine WQ.nil ?_
          refine hK14 _ ?_; clear hK14
          refine W.seqK fun K15 hK15 => ?_
          refine W.block ?_
          refine W.pure (ds := []) rfl fun K16 hK16 => ?_
          simp only [sx, ty, Bool.false_eq_true, Int.reduceEq, Int.reduceLT, Nat.reduceAdd, Nat.reduceSub, Nat.reduceMul, Nat.reduceLT, Nat.reduceLeDiff, Nat.reduceEqDiff, List.reduceReplicate, reduceIte, beq_self_eq_true, bne_self_eq_false, Int.reduceBEq, Int.reduceBNe, Bool.or_false, Bool.false_or, Bool.not_false, Bool.not_true]; with_reducible refine hK16 _ ?_; clear hK16
          refine W.cond rfl rfl (fun hc => ?_) (fun hc => ?_)
          · skip
            refine W.seqK fun K17 hK17 => W.region ?_
            refine WO.go 7 (ds := [some 117, some 118, some 119, some 120, some 121, some 122, some 12]) rfl ?_
            simp only [sx, ty, Bool.false_eq_true, Int.reduceEq, Int.reduceLT, Nat.reduceAdd, Nat.reduceSub, Nat.reduceMul, Nat.reduceLT, Nat.reduceLeDiff, Nat.reduceEqDiff, List.reduceReplicate, reduceIte, beq_self_eq_true, bne_self_eq_false, Int.reduceBEq, Int.reduceBNe, Bool.or_false, Bool.false_or, Bool.not_false, Bool.not_true]
            with_reducible refine WO.nil ?_
            refine hK17 _ ?_; clear hK17
            refine W.ret ⟨by simp, _, rfl, fun ρ w1 hb => ?_⟩
            simp only [den, decide_eq_true (prefers_lt hx.1 hx.2 (by simpa using hc))]
          · skip
            have h1 : ¬ idxOf ds[m].2.2.2 cs[a].2.2.1 < idxOf ds[m].2.2.2 cs[b].2.2.1 := by simpa using hc
            refine W.pure (ds := []) rfl fun K18 hK18 => ?_
            simp only [sx, ty, Bool.false_eq_true, Int.reduceEq, Int.reduceLT, Nat.reduceAdd, Nat.reduceSub, Nat.reduceMul, Nat.reduceLT, Nat.reduceLeDiff, Nat.reduceEqDiff, List.reduceReplicate, reduceIte, beq_self_eq_true, bne_self_eq_false, Int.reduceBEq, Int.reduceBNe, Bool.or_false, Bool.false_or, Bool.not_false, Bool.not_true]; with_reducible refine hK18 _ ?_; clear hK18
            refine W.cond rfl rfl (fun hc => ?_) (fun hc => ?_)
            · skip
              refine W.seqK fun K19 hK19 => W.region ?_
              refine WO.go 7 (ds := [some 127, some 128, some 129, some 130, some 131, some 132, some 12]) rfl ?_
              simp only [sx, ty, Bool.false_eq_true, Int.reduceEq, Int.reduceLT, Nat.reduceAdd, Nat.reduceSub, Nat.reduceMul, Nat.reduceLT, Nat.reduceLeDiff, Nat.reduceEqDiff, List.reduceReplicate, reduceIte, beq_self_eq_true, bne_self_eq_false, Int.reduceBEq, Int.reduceBNe, Bool.or_false, Bool.false_or, Bool.not_false, Bool.not_true]
              with_reducible refine WO.nil ?_
              refine hK19 _ ?_; clear hK19
              refine W.ret ⟨by simp, _, rfl, fun ρ w1 hb => ?_⟩
              simp only [den, decide_eq_true (prefers_lt hx.2 hx.1 (by simpa using hc))]
            · skip
              have h2 : ¬ idxOf ds[m].2.2.2 cs[b].2.2.1 < idxOf ds[m].2.2.2 cs[a].2.2.1 := by simpa using hc
              refine W.skip (hK15 _ ?_)
              refine W.join 12 (.val (.bool (decide (IntKind.i64.wrap (costF ds[m] cs[a] ((IntKind.i64.wrap hall).tmod 100) - costF ds[m] cs[b] ((IntKind.i64.wrap hall).tmod 100)) ≤ 5) && (decide (IntKind.i64.wrap (costF ds[m] cs[b] ((IntKind.i64.wrap hall).tmod 100) - costF ds[m] cs[a] ((IntKind.i64.wrap hall).tmod 100)) ≤ 5) && ((cs[a].2.2.2 != cs[b].2.2.2) || (costF ds[m] cs[a] ((IntKind.i64.wrap hall).tmod 100) == costF ds[m] cs[b] ((IntKind.i64.wrap hall).tmod 100))))))) [] (W.regionQ mixed (by kernel_rfl) ?_) ?_
              · skip
                refine WQ.go 8 (ds := [some 133, some 134, some 135, some 136, some 137, some 138, some 139, some 140, some 141, some 142, some 143, some 144, some 145, some 146, some 147, some 148, some 149, some 150, some 151, some 152, some 153, some 154, some 155, some 156, some 157, some 158, some 159, some 160, some 161, some 162, some 163, some 12]) rfl ?_
                simp only [sx, ty, Bool.false_eq_true, Int.reduceEq, Int.reduceLT, Nat.reduceAdd, Nat.reduceSub, Nat.reduceMul, Nat.reduceLT, Nat.reduceLeDiff, Nat.reduceEqDiff, List.reduceReplicate, reduceIte, sxq, Bool.false_eq_true, beq_self_eq_true, bne_self_eq_false, Int.reduceBEq, Int.reduceBNe, Bool.or_false, Bool.false_or, Bool.not_false, Bool.not_true]
                refine WQ.cases 140 _ rfl (fun hg140 => ?_) (fun hg140 => ?_)
                · skip
                  refine WQ.go 6 (ds := [some 133, some 134, some 135, some 136, some 137, some 138, some 139, some 140, some 141, some 142, some 143, some 144, some 145, some 146, some 147, some 148, some 149, some 150, some 151, some 152, some 153, some 154, some 155, some 156, some 157, some 158, some 159, some 160, some 161, some 162, some 163, some 12]) rfl ?_
                  simp only [sx, ty, Bool.false_eq_true, Int.reduceEq, Int.reduceLT, Nat.reduceAdd, Nat.reduceSub, Nat.reduceMul, Nat.reduceLT, Nat.reduceLeDiff, Nat.reduceEqDiff, List.reduceReplicate, reduceIte, sxq, Bool.false_eq_true, beq_self_eq_true, bne_self_eq_false, Int.reduceBEq, Int.reduceBNe, Bool.or_false, Bool.false_or, Bool.not_false, Bool.not_true]
                  refine WQ.cases 146 _ rfl (fun hg146 => ?_) (fun hg146 => ?_)
                  · skip
                    refine WQ.go 2 (ds := [some 133, some 134, some 135, some 136, some 137, some 138, some 139, some 140, some 141, some 142, some 143, some 144, some 145, some 146, some 147, some 148, some 149, some 150, some 151, some 152, some 153, some 154, some 155, some 156, some 157, some 158, some 159, some 160, some 161, some 162, some 163, some 12]) rfl ?_
                    simp only [sx, ty, Bool.false_eq_true, Int.reduceEq, Int.reduceLT, Nat.reduceAdd, Nat.reduceSub, Nat.reduceMul, Nat.reduceLT, Nat.reduceLeDiff, Nat.reduceEqDiff, List.reduceReplicate, reduceIte, sxq, Bool.false_eq_true, beq_self_eq_true, bne_self_eq_false, Int.reduceBEq, Int.reduceBNe, Bool.or_false, Bool.false_or, Bool.not_false, Bool.not_true]
                    refine WQ.elemF (y := cs[a]) hl2 (by simp [St.put]) (ds := [some 133, some 134, some 135, some 136, some 137, some 138, some 139, some 140, some 141, some 142, some 143, some 144, some 145, some 146, some 147, some 148, some 149, some 150, some 151, some 152, some 153, some 154, some 155, some 156, some 157, some 158, some 159, some 160, some 161, some 162, some 163, some 12]) rfl rfl rfl (by simp [St.put]) (fun _ => rfl) rfl (by simp [St.put]) (fun _ _ => rfl) rfl rfl rfl rfl rfl rfl el23 fo37_3 agg3 sz3 (by decide) (.inr rfl) (by omega) (getIdx cs hal) fun p q ces hces => ?_
                    obtain rfl := rCop_open hces
                    clear hces
                    refine WQ.go 2 (ds := [some 133, some 134, some 135, some 136, some 137, some 138, some 139, some 140, some 141, some 142, some 143, some 144, some 145, some 146, some 147, some 148, some 149, some 150, some 151, some 152, some 153, some 154, some 155, some 156, some 157, some 158, some 159, some 160, some 161, some 162, some 163, some 12]) rfl ?_
                    simp only [sx, ty, Bool.false_eq_true, Int.reduceEq, Int.reduceLT, Nat.reduceAdd, Nat.reduceSub, Nat.reduceMul, Nat.reduceLT, Nat.reduceLeDiff, Nat.reduceEqDiff, List.reduceReplicate, reduceIte, sxq, Bool.false_eq_true, beq_self_eq_true, bne_self_eq_false, Int.reduceBEq, Int.reduceBNe, Bool.or_false, Bool.false_or, Bool.not_false, Bool.not_true]
                    refine WQ.elemF (y := cs[b]) hl2 (by simp [St.put]) (ds := [some 133, some 134, some 135, some 136, some 137, some 138, some 139, some 140, some 141, some 142, some 143, some 144, some 145, some 146, some 147, some 148, some 149, some 150, some 151, some 152, some 153, some 154, some 155, some 156, some 157, some 158, some 159, some 160, some 161, some 162, some 163, some 12]) rfl rfl rfl (by simp [St.put]) (fun _ => rfl) rfl (by simp [St.put]) (fun _ _ => rfl) rfl rfl rfl rfl rfl rfl el23 fo37_3 agg3 sz3 (by decide) (.inr rfl) (by omega) (getIdx cs hbl) fun p q ces hces => ?_
                    obtain rfl := rCop_open hces
                    clear hces
                    refine WQ.go 2 (ds := [some 133, some 134, some 135, some 136, some 137, some 138, some 139, some 140, some 141, some 142, some 143, some 144, some 145, some 146, some 147, some 148, some 149, some 150, some 151, some 152, some 153, some 154, some 155, some 156, some 157, some 158, some 159, some 160, some 161, some 162, some 163, some 12]) rfl ?_
                    simp only [sx, ty, Bool.false_eq_true, Int.reduceEq, Int.reduceLT, Nat.reduceAdd, Nat.reduceSub, Nat.reduceMul, Nat.reduceLT, Nat.reduceLeDiff, Nat.reduceEqDiff, List.reduceReplicate, reduceIte, sxq, Bool.false_eq_true, beq_self_eq_true, bne_self_eq_false, Int.reduceBEq, Int.reduceBNe, Bool.or_false, Bool.false_or, Bool.not_false, Bool.not_true]
                    refine WQ.cases 158 _ rfl (fun hg158 => ?_) (fun hg158 => ?_)
                    · skip
                      refine WQ.go 6 (ds := [some 133, some 134, some 135, some 136, some 137, some 138, some 139, some 140, some 141, some 142, some 143, some 144, some 145, some 146, some 147, some 148, some 149, some 150, some 151, some 152, some 153, some 154, some 155, some 156, some 157, some 158, some 159, some 160, some 161, some 162, some 163, some 12]) rfl ?_
                      simp only [sx, ty, Bool.false_eq_true, Int.reduceEq, Int.reduceLT, Nat.reduceAdd, Nat.reduceSub, Nat.reduceMul, Nat.reduceLT, Nat.reduceLeDiff, Nat.reduceEqDiff, List.reduceReplicate, reduceIte, sxq, Bool.false_eq_true, beq_self_eq_true, bne_self_eq_false, Int.reduceBEq, Int.reduceBNe, Bool.or_false, Bool.false_or, Bool.not_false, Bool.not_true]
                      with_reducible refine WQ.nil ?_
                      refine ⟨rfl, ?_, ⟨_, rfl⟩, by simp [Own.bnd, bndL, bnd], by simp⟩
                      try rw [hg140]
                      try rw [hg146]
                      try rw [hg158]
                      simp [getE, bnd, keepE]
                    · skip
                      refine WQ.go 6 (ds := [some 133, some 134, some 135, some 136, some 137, some 138, some 139, some 140, some 141, some 142, some 143, some 144, some 145, some 146, some 147, some 148, some 149, some 150, some 151, some 152, some 153, some 154, some 155, some 156, some 157, some 158, some 159, some 160, some 161, some 162, some 163, some 12]) rfl ?_
                      simp only [sx, ty, Bool.false_eq_true, Int.reduceEq, Int.reduceLT, Nat.reduceAdd, Nat.reduceSub, Nat.reduceMul, Nat.reduceLT, Nat.reduceLeDiff, Nat.reduceEqDiff, List.reduceReplicate, reduceIte, sxq, Bool.false_eq_true, beq_self_eq_true, bne_self_eq_false, Int.reduceBEq, Int.reduceBNe, Bool.or_false, Bool.false_or, Bool.not_false, Bool.not_true]
                      with_reducible refine WQ.nil ?_
                      refine ⟨rfl, ?_, ⟨_, rfl⟩, by simp [Own.bnd, bndL, bnd], by simp⟩
                      try rw [hg140]
                      try rw [hg146]
                      try rw [hg158]
                      simp [getE, bnd, keepE]
                  · skip
                    refine WQ.go 18 (ds := [some 133, some 134, some 135, some 136, some 137, some 138, some 139, some 140, some 141, some 142, some 143, some 144, some 145, some 146, some 147, some 148, some 149, some 150, some 151, some 152, some 153, some 154, some 155, some 156, some 157, some 158, some 159, some 160, some 161, some 162, some 163, some 12]) rfl ?_
                    simp only [sx, ty, Bool.false_eq_true, Int.reduceEq, Int.reduceLT, Nat.reduceAdd, Nat.reduceSub, Nat.reduceMul, Nat.reduceLT, Nat.reduceLeDiff, Nat.reduceEqDiff, List.reduceReplicate, reduceIte, sxq, Bool.false_eq_true, beq_self_eq_true, bne_self_eq_false, Int.reduceBEq, Int.reduceBNe, Bool.or_false, Bool.false_or, Bool.not_false, Bool.not_true]
                    with_reducible refine WQ.nil ?_
                    refine ⟨rfl, ?_, ⟨_, rfl⟩, by simp [Own.bnd, bndL, bnd], by simp⟩
                    try rw [hg140]
                    try rw [hg146]
                    try rw [hg158]
                    simp [getE, bnd, keepE]
                · skip
                  refine WQ.go 24 (ds := [some 133, some 134, some 135, some 136, some 137, some 138, some 139, some 140, some 141, some 142, some 143, some 144, some 145, some 146, some 147, some 148, some 149, some 150, some 151, some 152, some 153, some 154, some 155, some 156, some 157, some 158, some 159, some 160, some 161, some 162, some 163, some 12]) rfl ?_
                  simp only [sx, ty, Bool.false_eq_true, Int.reduceEq, Int.reduceLT, Nat.reduceAdd, Nat.reduceSub, Nat.reduceMul, Nat.reduceLT, Nat.reduceLeDiff, Nat.reduceEqDiff, List.reduceReplicate, reduceIte, sxq, Bool.false_eq_true, beq_self_eq_true, bne_self_eq_false, Int.reduceBEq, Int.reduceBNe, Bool.or_false, Bool.false_or, Bool.not_false, Bool.not_true]
                  with_reducible refine WQ.nil ?_
                  refine ⟨rfl, ?_, ⟨_, rfl⟩, by simp [Own.bnd, bndL, bnd], by simp⟩
                  try rw [hg140]
                  try rw [hg146]
                  try rw [hg158]
                  simp [getE, bnd, keepE]
              · simp only [sx, ty, Bool.false_eq_true, Int.reduceEq, Int.reduceLT, Nat.reduceAdd, Nat.reduceSub, Nat.reduceMul, Nat.reduceLT, Nat.reduceLeDiff, Nat.reduceEqDiff, List.reduceReplicate, reduceIte, sxk, beq_self_eq_true, bne_self_eq_false, Int.reduceBEq, Int.reduceBNe, Bool.or_false, Bool.false_or, Bool.not_false, Bool.not_true]
                refine W.ret ⟨by simp, _, rfl, fun ρ w1 hb => ?_⟩
                obtain ⟨g1, g2, g3⟩ := prefers_eq hx.1 hx.2 (show idxOf ds[m].2.2.2 cs[a].2.2.1 = idxOf ds[m].2.2.2 cs[b].2.2.1 by omega)
                have hle := costF_le ds[m] cs[a] ((IntKind.i64.wrap hall).tmod 100) (by omega)
                have hle2 := costF_le ds[m] cs[b] ((IntKind.i64.wrap hall).tmod 100) (by omega)
                simp only [den, Value.bool.injEq]
                rw [wrap_id (x := costF ds[m] cs[a] ((IntKind.i64.wrap hall).tmod 100) - costF ds[m] cs[b] ((IntKind.i64.wrap hall).tmod 100)) (by omega) (by omega), wrap_id (x := costF ds[m] cs[b] ((IntKind.i64.wrap hall).tmod 100) - costF ds[m] cs[a] ((IntKind.i64.wrap hall).tmod 100)) (by omega) (by omega)]
                rw [decide_eq_true g1, decide_eq_true g2]
                by_cases hq : cs[a].2.2.2 = cs[b].2.2.2
                · simp [g3 hq]
                · simp [hq]
end Go.Proofs.Ytblagioibffgcaa
