/-
  Holdings: the law on editions: walks.
-/
import Derived.Test.YtblagioibffgcaaPlain3
import Derived.Test.YtblagioibffgcaaSxArg
set_option linter.unusedVariables false
set_option linter.unusedSimpArgs false
set_option maxHeartbeats 1000000
namespace Go.Proofs.Ytblagioibffgcaa
open Go Go.SX Go.RowKit
/-- function 7 -/
theorem law5 {S S2 : Nat → Prop} {w : World} {v u : Value} {ds : List Dem} {cs : List Cop} (hl : rDems.rd S w [v] ds) (hl2 : rCops.rd S2 w [u] cs) (i more hall : Int) (hi : 0 ≤ i ∧ i ≤ 255) (hh : 0 ≤ hall ∧ hall ≤ 255) :
    Gives Try.prog 7 #[v, u, .int .u8 i, .int .i64 more, .int .u8 hall] w fun r _ => r = .bool true := by
  obtain ⟨p, c, rfl, hc1, hc2⟩ := Rp.slice_val hl
  obtain ⟨p2, c2, rfl, hc3, hc4⟩ := Rp.slice_val hl2
  have hl : (Rp.slice rDem).rd (fun _ => True) w _ ds := Rp.any hl
  have hl2 : (Rp.slice rCop).rd (fun _ => True) w _ cs := Rp.any hl2
  refine gives_of [.val (.slice p ds.length c), .val (.slice p2 cs.length c2), .val (.int .u8 i), .val (.int .i64 more), .val (.int .u8 hall)] 186 [.tmp 10] Try.func7 rfl rfl rfl (by simp) rfl rfl ?_
  refine W.pure (ds := []) rfl fun K1 hK1 => ?_
  simp only [sx, ty, Bool.false_eq_true, Int.reduceEq, Int.reduceLT, Nat.reduceAdd, Nat.reduceSub, Nat.reduceMul, Nat.reduceLT, Nat.reduceLeDiff, Nat.reduceEqDiff, List.reduceReplicate, reduceIte, beq_self_eq_true, bne_self_eq_false, Int.reduceBEq, Int.reduceBNe, Bool.or_false, Bool.false_or, Bool.not_false, Bool.not_true]; with_reducible refine hK1 _ ?_; clear hK1
  refine W.seqK fun K2 hK2 => W.region ?_
  refine WO.call (.bool true) (ds := []) rfl rfl rfl rfl co8 (fun ρ w1 hb => head_spec w1) ?_
  refine WO.go 1 (ds := []) rfl ?_
  simp only [sx, ty, Bool.false_eq_true, Int.reduceEq, Int.reduceLT, Nat.reduceAdd, Nat.reduceSub, Nat.reduceMul, Nat.reduceLT, Nat.reduceLeDiff, Nat.reduceEqDiff, List.reduceReplicate, reduceIte, beq_self_eq_true, bne_self_eq_false, Int.reduceBEq, Int.reduceBNe, Bool.or_false, Bool.false_or, Bool.not_false, Bool.not_true]
  with_reducible refine WO.nil ?_
  refine hK2 _ ?_; clear hK2
  refine W.seqK fun K3 hK3 => ?_
  refine W.seqK fun K4 hK4 => W.region ?_
  refine WO.go 2 (ds := []) rfl ?_
  simp only [sx, ty, Bool.false_eq_true, Int.reduceEq, Int.reduceLT, Nat.reduceAdd, Nat.reduceSub, Nat.reduceMul, Nat.reduceLT, Nat.reduceLeDiff, Nat.reduceEqDiff, List.reduceReplicate, reduceIte, beq_self_eq_true, bne_self_eq_false, Int.reduceBEq, Int.reduceBNe, Bool.or_false, Bool.false_or, Bool.not_false, Bool.not_true]
  refine WO.call (.bool (usableB ds cs)) (ds := []) rfl rfl rfl rfl co15 (fun ρ w1 hb => usable_spec (Rp.now hl (hb.first (by simp))) (Rp.now hl2 (hb.first (by simp)))) ?_
  refine WO.go 1 (ds := []) rfl ?_
  simp only [sx, ty, Bool.false_eq_true, Int.reduceEq, Int.reduceLT, Nat.reduceAdd, Nat.reduceSub, Nat.reduceMul, Nat.reduceLT, Nat.reduceLeDiff, Nat.reduceEqDiff, List.reduceReplicate, reduceIte, beq_self_eq_true, bne_self_eq_false, Int.reduceBEq, Int.reduceBNe, Bool.or_false, Bool.false_or, Bool.not_false, Bool.not_true]
  with_reducible refine WO.nil ?_
  refine hK4 _ ?_; clear hK4
  refine W.cond rfl rfl (fun hc => ?_) (fun hc => ?_)
  · skip
    refine W.pure (ds := []) rfl fun K5 hK5 => ?_
    simp only [sx, ty, Bool.false_eq_true, Int.reduceEq, Int.reduceLT, Nat.reduceAdd, Nat.reduceSub, Nat.reduceMul, Nat.reduceLT, Nat.reduceLeDiff, Nat.reduceEqDiff, List.reduceReplicate, reduceIte, beq_self_eq_true, bne_self_eq_false, Int.reduceBEq, Int.reduceBNe, Bool.or_false, Bool.false_or, Bool.not_false, Bool.not_true]; with_reducible refine hK5 _ ?_; clear hK5
    refine W.ret ⟨by simp, _, rfl, fun ρ w1 hb => ?_⟩
    rfl
  · skip
    have hU : usableB ds cs = true := by simpa using hc
    clear hc
    obtain ⟨hd0, hc0, hv⟩ := usable_of hU
    obtain ⟨hdl, hcl, hel⟩ := valid_lens hv
    have hdn : ¬ ((ds.length : Int) = 0) := by omega
    have hcn : ¬ ((cs.length : Int) = 0) := by omega
    obtain ⟨m, hm, hml⟩ := rem_nat hi hd0
    have hen : ds[m].2.2.2.length ≤ 12 := hel _ (List.getElem_mem hml)
    have hen1 := valid_eds hv hml
    refine W.skip (hK3 _ ?_)
    refine W.seqK fun K6 hK6 => W.region ?_
    refine WO.go 4 (ds := []) rfl ?_
    simp only [sx, ty, Bool.false_eq_true, Int.reduceEq, Int.reduceLT, Nat.reduceAdd, Nat.reduceSub, Nat.reduceMul, Nat.reduceLT, Nat.reduceLeDiff, Nat.reduceEqDiff, List.reduceReplicate, reduceIte, beq_self_eq_true, bne_self_eq_false, Int.reduceBEq, Int.reduceBNe, Bool.or_false, Bool.false_or, Bool.not_false, Bool.not_true]
    refine WO.go 1 (ds := []) rfl ?_
    simp only [sx, ty, Bool.false_eq_true, Int.reduceEq, Int.reduceLT, Nat.reduceAdd, Nat.reduceSub, Nat.reduceMul, Nat.reduceLT, Nat.reduceLeDiff, Nat.reduceEqDiff, List.reduceReplicate, reduceIte, beq_self_eq_true, bne_self_eq_false, Int.reduceBEq, Int.reduceBNe, Bool.or_false, Bool.false_or, Bool.not_false, Bool.not_true, if_neg hdn, hm]
    refine WO.go 5 (ds := []) rfl ?_
    simp only [sx, ty, Bool.false_eq_true, Int.reduceEq, Int.reduceLT, Nat.reduceAdd, Nat.reduceSub, Nat.reduceMul, Nat.reduceLT, Nat.reduceLeDiff, Nat.reduceEqDiff, List.reduceReplicate, reduceIte, beq_self_eq_true, bne_self_eq_false, Int.reduceBEq, Int.reduceBNe, Bool.or_false, Bool.false_or, Bool.not_false, Bool.not_true]
    with_reducible refine WO.nil ?_
    refine hK6 _ ?_; clear hK6
    refine W.seqK fun K7 hK7 => W.region ?_
    refine WO.go 2 (ds := []) rfl ?_
    simp only [sx, ty, Bool.false_eq_true, Int.reduceEq, Int.reduceLT, Nat.reduceAdd, Nat.reduceSub, Nat.reduceMul, Nat.reduceLT, Nat.reduceLeDiff, Nat.reduceEqDiff, List.reduceReplicate, reduceIte, beq_self_eq_true, bne_self_eq_false, Int.reduceBEq, Int.reduceBNe, Bool.or_false, Bool.false_or, Bool.not_false, Bool.not_true]
    refine WO.elem (y := ds[m]) hl (by simp [St.put]) (ds := []) rfl rfl rfl (by simp [St.put]) (fun _ => rfl) rfl rfl rfl rfl rfl el22 agg35 sz35 (.inl rfl) (by omega) (getIdx ds hml) fun p ces hces => ?_
    obtain ⟨p5, c5, rfl, hed, hel5⟩ := rDem_open hces
    clear hces
    obtain h | ⟨ae, edC, hae, _, hSe, hze, hole, hate, hrde⟩ := Rp.slice_cells hed
    · rw [h] at hen1; simp at hen1
    subst hae
    obtain rfl := ints_cells (by rw [hole]; exact Nat.mul_one _) hrde
    refine WO.go 2 (ds := []) rfl ?_
    simp only [sx, ty, Bool.false_eq_true, Int.reduceEq, Int.reduceLT, Nat.reduceAdd, Nat.reduceSub, Nat.reduceMul, Nat.reduceLT, Nat.reduceLeDiff, Nat.reduceEqDiff, List.reduceReplicate, reduceIte, beq_self_eq_true, bne_self_eq_false, Int.reduceBEq, Int.reduceBNe, Bool.or_false, Bool.false_or, Bool.not_false, Bool.not_true]
    with_reducible refine WO.nil ?_
    refine hK7 _ ?_; clear hK7
    refine W.seqK fun K8 hK8 => W.region ?_
    refine WO.go 3 (ds := []) rfl ?_
    simp only [sx, ty, Bool.false_eq_true, Int.reduceEq, Int.reduceLT, Nat.reduceAdd, Nat.reduceSub, Nat.reduceMul, Nat.reduceLT, Nat.reduceLeDiff, Nat.reduceEqDiff, List.reduceReplicate, reduceIte, beq_self_eq_true, bne_self_eq_false, Int.reduceBEq, Int.reduceBNe, Bool.or_false, Bool.false_or, Bool.not_false, Bool.not_true]
    refine WO.appendFull (n := 0) (m := ds[m].2.2.2.length) [] (ds[m].2.2.2.map (.int .i64)) (ds := []) rfl rfl rfl rfl ⟨_, rfl, fun ρ w1 hb => ⟨⟨ρ 1, 0, none⟩, rfl, fun j v hv => by simp at hv⟩⟩ rfl ek33 rfl (by omega) (fun ρ w1 hb => ⟨ae, c5, rfl, hate.frame ((hb.first (by simp)).block _ trivial hze)⟩) (by simp) (by rw [maxLen_eq]; omega) (by omega) fun q1 cq1 => ?_
    refine WO.go 2 (ds := []) rfl ?_
    simp only [sx, ty, Bool.false_eq_true, Int.reduceEq, Int.reduceLT, Nat.reduceAdd, Nat.reduceSub, Nat.reduceMul, Nat.reduceLT, Nat.reduceLeDiff, Nat.reduceEqDiff, List.reduceReplicate, reduceIte, beq_self_eq_true, bne_self_eq_false, Int.reduceBEq, Int.reduceBNe, Bool.or_false, Bool.false_or, Bool.not_false, Bool.not_true]
    refine WO.append (k := 2) (m := 1) [.int .i64 more] (ds := []) rfl rfl rfl rfl rfl rfl rfl ek33 (news_own (k2 := 3) rfl fun _ => rfl) rfl (by simp [Value.oneCell']) (by rw [maxLen_eq]; omega) (by omega) fun q2 cq2 => ?_
    rw [show ds[m].2.2.2.map (Value.int .i64) ++ [Value.int .i64 more] = (ds[m].2.2.2 ++ [more]).map (Value.int .i64) by simp]
    refine WO.go 2 (ds := []) rfl ?_
    simp only [sx, ty, Bool.false_eq_true, Int.reduceEq, Int.reduceLT, Nat.reduceAdd, Nat.reduceSub, Nat.reduceMul, Nat.reduceLT, Nat.reduceLeDiff, Nat.reduceEqDiff, List.reduceReplicate, reduceIte, beq_self_eq_true, bne_self_eq_false, Int.reduceBEq, Int.reduceBNe, Bool.or_false, Bool.false_or, Bool.not_false, Bool.not_true]
    with_reducible refine WO.nil ?_
    refine hK8 _ ?_; clear hK8
    refine W.seqK fun K9 hK9 => W.region ?_
    refine WO.go 3 (ds := []) rfl ?_
    simp only [sx, ty, Bool.false_eq_true, Int.reduceEq, Int.reduceLT, Nat.reduceAdd, Nat.reduceSub, Nat.reduceMul, Nat.reduceLT, Nat.reduceLeDiff, Nat.reduceEqDiff, List.reduceReplicate, reduceIte, beq_self_eq_true, bne_self_eq_false, Int.reduceBEq, Int.reduceBNe, Bool.or_false, Bool.false_or, Bool.not_false, Bool.not_true]
    refine WO.callM (fun x : Option Addr × Nat => .tuple #[.slice x.1 (costsF ds cs ((IntKind.i64.wrap hall).tmod 100)).length x.2, .int .i64 0]) (fun lo x s => rRows.rd (fun b => lo ≤ b) s [.slice x.1 (costsF ds cs ((IntKind.i64.wrap hall).tmod 100)).length x.2] (costsF ds cs ((IntKind.i64.wrap hall).tmod 100))) (ds := []) rfl rfl rfl rfl co10 (fun ρ w1 hb => costs_call (costs_of hv (rem_hall hh)) (Rp.now hl (hb.first (by simp))) (Rp.now hl2 (hb.first (by simp)))) fun x lo hr1s hr1 => ?_
    obtain ⟨hr1p, hr1c⟩ := x
    simp only at hr1
    refine WO.go 5 (ds := []) rfl ?_
    simp only [sx, ty, Bool.false_eq_true, Int.reduceEq, Int.reduceLT, Nat.reduceAdd, Nat.reduceSub, Nat.reduceMul, Nat.reduceLT, Nat.reduceLeDiff, Nat.reduceEqDiff, List.reduceReplicate, reduceIte, beq_self_eq_true, bne_self_eq_false, Int.reduceBEq, Int.reduceBNe, Bool.or_false, Bool.false_or, Bool.not_false, Bool.not_true]
    with_reducible refine WO.nil ?_
    refine hK9 _ ?_; clear hK9
    refine W.seqK fun K10 hK10 => ?_
    refine W.seqK fun K11 hK11 => W.region ?_
    refine WO.go 6 (ds := [some 54, some 55, some 56, some 57, some 58, some 59, some 60, some 61, some 62]) rfl ?_
    simp only [sx, ty, Bool.false_eq_true, Int.reduceEq, Int.reduceLT, Nat.reduceAdd, Nat.reduceSub, Nat.reduceMul, Nat.reduceLT, Nat.reduceLeDiff, Nat.reduceEqDiff, List.reduceReplicate, reduceIte, beq_self_eq_true, bne_self_eq_false, Int.reduceBEq, Int.reduceBNe, Bool.or_false, Bool.false_or, Bool.not_false, Bool.not_true]
    refine WO.call (.bool true) (ds := [some 54, some 55, some 56, some 57, some 58, some 59, some 60, some 61, some 62]) rfl rfl rfl rfl co16 (fun ρ w1 hb => shaped_costs (Rp.keep hr1 (hb.at (by simp))) _ _ _ _ _ _ rfl rfl) ?_
    refine WO.go 2 (ds := [some 54, some 55, some 56, some 57, some 58, some 59, some 60, some 61, some 62]) rfl ?_
    simp only [sx, ty, Bool.false_eq_true, Int.reduceEq, Int.reduceLT, Nat.reduceAdd, Nat.reduceSub, Nat.reduceMul, Nat.reduceLT, Nat.reduceLeDiff, Nat.reduceEqDiff, List.reduceReplicate, reduceIte, beq_self_eq_true, bne_self_eq_false, Int.reduceBEq, Int.reduceBNe, Bool.or_false, Bool.false_or, Bool.not_false, Bool.not_true]
    with_reducible refine WO.nil ?_
    refine hK11 _ ?_; clear hK11
    refine W.cond rfl rfl (fun hc => ?_) (fun hc => ?_)
    · skip
      simp at hc
    · skip
      refine W.skip (hK10 _ ?_)
      refine W.seqK fun K12 hK12 => ?_
      refine W.pure (ds := []) rfl fun K13 hK13 => ?_
      simp only [sx, ty, Bool.false_eq_true, Int.reduceEq, Int.reduceLT, Nat.reduceAdd, Nat.reduceSub, Nat.reduceMul, Nat.reduceLT, Nat.reduceLeDiff, Nat.reduceEqDiff, List.reduceReplicate, reduceIte, beq_self_eq_true, bne_self_eq_false, Int.reduceBEq, Int.reduceBNe, Bool.or_false, Bool.false_or, Bool.not_false, Bool.not_true]; with_reducible refine hK13 _ ?_; clear hK13
      refine W.block ?_
      refine W.loopK (X := Nat) [0, 1, 3, 11, 12, 13, 14, 15, 64] (fun x => [(65, .val (.int .i64 x))]) (fun x => x ≤ cs.length) (fun x => cs.length - x) 0 ?_ ?_ ?_
      · exact ⟨rfl, by simp [getE, bnd, keepE], ⟨[], by simp⟩, by simp [Own.bnd, bndL, bnd], by simp⟩
      · skip
        exact Nat.zero_le _
      · rintro k hk
        simp only [sx, ty, Bool.false_eq_true, Int.reduceEq, Int.reduceLT, Nat.reduceAdd, Nat.reduceSub, Nat.reduceMul, Nat.reduceLT, Nat.reduceLeDiff, Nat.reduceEqDiff, List.reduceReplicate, reduceIte, sxk, beq_self_eq_true, bne_self_eq_false, Int.reduceBEq, Int.reduceBNe, Bool.or_false, Bool.false_or, Bool.not_false, Bool.not_true]
        refine W.pure (ds := []) rfl fun K14 hK14 => ?_
        simp only [sx, ty, Bool.false_eq_true, Int.reduceEq, Int.reduceLT, Nat.reduceAdd, Nat.reduceSub, Nat.reduceMul, Nat.reduceLT, Nat.reduceLeDiff, Nat.reduceEqDiff, List.reduceReplicate, reduceIte, beq_self_eq_true, bne_self_eq_false, Int.reduceBEq, Int.reduceBNe, Bool.or_false, Bool.false_or, Bool.not_false, Bool.not_true]; with_reducible refine hK14 _ ?_; clear hK14
        refine W.seqK fun K15 hK15 => ?_
        refine W.cond rfl rfl (fun hc => ?_) (fun hc => ?_)
        · skip
          have hkl : k < cs.length := by simpa using hc
          refine W.skip (hK15 _ ?_)
          refine W.seqK fun K16 hK16 => ?_
          refine W.block ?_
          refine W.pure (ds := []) rfl fun K17 hK17 => ?_
          simp only [sx, ty, Bool.false_eq_true, Int.reduceEq, Int.reduceLT, Nat.reduceAdd, Nat.reduceSub, Nat.reduceMul, Nat.reduceLT, Nat.reduceLeDiff, Nat.reduceEqDiff, List.reduceReplicate, reduceIte, beq_self_eq_true, bne_self_eq_false, Int.reduceBEq, Int.reduceBNe, Bool.or_false, Bool.false_or, Bool.not_false, Bool.not_true]; with_reducible refine hK17 _ ?_; clear hK17
          refine W.join 101 (.val (.bool (!(decide (0 ≤ costF ds[m] cs[k] ((IntKind.i64.wrap hall).tmod 100)) == ((cs[k].2.1 == ds[m].2.1) && decide (0 ≤ idxOf ds[m].2.2.2 cs[k].2.2.1)))))) [0, 1, 3, 11, 12, 13, 14, 15, 64, 65] (W.regionQ mixed (by kernel_rfl) ?_) ?_
          · skip
            refine WQ.go 2 (ds := [some 68, some 69, some 70, some 71, some 72, some 73, some 74, some 75, some 76, some 77, some 78, some 79, some 80, some 81, some 82, some 83, some 84, some 85, some 86, some 87, some 88, some 89, some 90, some 91, some 92, some 93, some 94, some 95, some 96, some 97, some 98, some 99, some 100, some 101]) rfl ?_
            simp only [sx, ty, Bool.false_eq_true, Int.reduceEq, Int.reduceLT, Nat.reduceAdd, Nat.reduceSub, Nat.reduceMul, Nat.reduceLT, Nat.reduceLeDiff, Nat.reduceEqDiff, List.reduceReplicate, reduceIte, sxq, Bool.false_eq_true, beq_self_eq_true, bne_self_eq_false, Int.reduceBEq, Int.reduceBNe, Bool.or_false, Bool.false_or, Bool.not_false, Bool.not_true]
            refine WQ.elem (y := (cs.map fun c => costF ds[m] c ((IntKind.i64.wrap hall).tmod 100))) hr1 (by simp [St.put]) (ds := [some 68, some 69, some 70, some 71, some 72, some 73, some 74, some 75, some 76, some 77, some 78, some 79, some 80, some 81, some 82, some 83, some 84, some 85, some 86, some 87, some 88, some 89, some 90, some 91, some 92, some 93, some 94, some 95, some 96, some 97, some 98, some 99, some 100, some 101]) rfl rfl rfl (by simp [St.put]) (fun _ => rfl) rfl rfl rfl rfl rfl el26 agg33 sz33 (.inr rfl) (by omega) (costsF_row hml) fun p ces hces => ?_
            obtain ⟨p6, c6, rfl, hq6, hqc6⟩ := rInts_open hces
            have hrow6 := hces
            clear hces
            refine WQ.go 1 (ds := [some 68, some 69, some 70, some 71, some 72, some 73, some 74, some 75, some 76, some 77, some 78, some 79, some 80, some 81, some 82, some 83, some 84, some 85, some 86, some 87, some 88, some 89, some 90, some 91, some 92, some 93, some 94, some 95, some 96, some 97, some 98, some 99, some 100, some 101]) rfl ?_
            simp only [sx, ty, Bool.false_eq_true, Int.reduceEq, Int.reduceLT, Nat.reduceAdd, Nat.reduceSub, Nat.reduceMul, Nat.reduceLT, Nat.reduceLeDiff, Nat.reduceEqDiff, List.reduceReplicate, reduceIte, sxq, Bool.false_eq_true, beq_self_eq_true, bne_self_eq_false, Int.reduceBEq, Int.reduceBNe, Bool.or_false, Bool.false_or, Bool.not_false, Bool.not_true]
            refine WQ.elem (y := costF ds[m] cs[k] ((IntKind.i64.wrap hall).tmod 100)) hrow6 (by simp [St.put]) (ds := [some 68, some 69, some 70, some 71, some 72, some 73, some 74, some 75, some 76, some 77, some 78, some 79, some 80, some 81, some 82, some 83, some 84, some 85, some 86, some 87, some 88, some 89, some 90, some 91, some 92, some 93, some 94, some 95, some 96, some 97, some 98, some 99, some 100, some 101]) rfl rfl rfl (by simp [St.put]) (fun _ => rfl) rfl rfl rfl rfl rfl el33 agg3 sz3 (.inr rfl) (by omega) (row_get hkl) fun p ces hces => ?_
            obtain rfl := rInt_open hces
            clear hces
            refine WQ.go 3 (ds := [some 68, some 69, some 70, some 71, some 72, some 73, some 74, some 75, some 76, some 77, some 78, some 79, some 80, some 81, some 82, some 83, some 84, some 85, some 86, some 87, some 88, some 89, some 90, some 91, some 92, some 93, some 94, some 95, some 96, some 97, some 98, some 99, some 100, some 101]) rfl ?_
            simp only [sx, ty, Bool.false_eq_true, Int.reduceEq, Int.reduceLT, Nat.reduceAdd, Nat.reduceSub, Nat.reduceMul, Nat.reduceLT, Nat.reduceLeDiff, Nat.reduceEqDiff, List.reduceReplicate, reduceIte, sxq, Bool.false_eq_true, beq_self_eq_true, bne_self_eq_false, Int.reduceBEq, Int.reduceBNe, Bool.or_false, Bool.false_or, Bool.not_false, Bool.not_true]
            refine WQ.elemF (y := cs[k]) hl2 (by simp [St.put]) (ds := [some 68, some 69, some 70, some 71, some 72, some 73, some 74, some 75, some 76, some 77, some 78, some 79, some 80, some 81, some 82, some 83, some 84, some 85, some 86, some 87, some 88, some 89, some 90, some 91, some 92, some 93, some 94, some 95, some 96, some 97, some 98, some 99, some 100, some 101]) rfl rfl rfl (by simp [St.put]) (fun _ => rfl) rfl (by simp [St.put]) (fun _ _ => rfl) rfl rfl rfl rfl rfl rfl el23 fo37_1 agg3 sz3 (by decide) (.inr rfl) (by omega) (getIdx cs hkl) fun p q ces hces => ?_
            obtain rfl := rCop_open hces
            clear hces
            refine WQ.go 2 (ds := [some 68, some 69, some 70, some 71, some 72, some 73, some 74, some 75, some 76, some 77, some 78, some 79, some 80, some 81, some 82, some 83, some 84, some 85, some 86, some 87, some 88, some 89, some 90, some 91, some 92, some 93, some 94, some 95, some 96, some 97, some 98, some 99, some 100, some 101]) rfl ?_
            simp only [sx, ty, Bool.false_eq_true, Int.reduceEq, Int.reduceLT, Nat.reduceAdd, Nat.reduceSub, Nat.reduceMul, Nat.reduceLT, Nat.reduceLeDiff, Nat.reduceEqDiff, List.reduceReplicate, reduceIte, sxq, Bool.false_eq_true, beq_self_eq_true, bne_self_eq_false, Int.reduceBEq, Int.reduceBNe, Bool.or_false, Bool.false_or, Bool.not_false, Bool.not_true]
            refine WQ.elemF (y := ds[m]) hl (by simp [St.put]) (ds := [some 68, some 69, some 70, some 71, some 72, some 73, some 74, some 75, some 76, some 77, some 78, some 79, some 80, some 81, some 82, some 83, some 84, some 85, some 86, some 87, some 88, some 89, some 90, some 91, some 92, some 93, some 94, some 95, some 96, some 97, some 98, some 99, some 100, some 101]) rfl rfl rfl (by simp [St.put]) (fun _ => rfl) rfl (by simp [St.put]) (fun _ _ => rfl) rfl rfl rfl rfl rfl rfl el22 fo35_1 agg3 sz3 (by decide) (.inr rfl) (by omega) (getIdx ds hml) fun p q ces hces => ?_
            obtain ⟨p8, c8, rfl, hed8, hel8⟩ := rDem_open hces
            clear hces
            refine WQ.go 2 (ds := [some 68, some 69, some 70, some 71, some 72, some 73, some 74, some 75, some 76, some 77, some 78, some 79, some 80, some 81, some 82, some 83, some 84, some 85, some 86, some 87, some 88, some 89, some 90, some 91, some 92, some 93, some 94, some 95, some 96, some 97, some 98, some 99, some 100, some 101]) rfl ?_
            simp only [sx, ty, Bool.false_eq_true, Int.reduceEq, Int.reduceLT, Nat.reduceAdd, Nat.reduceSub, Nat.reduceMul, Nat.reduceLT, Nat.reduceLeDiff, Nat.reduceEqDiff, List.reduceReplicate, reduceIte, sxq, Bool.false_eq_true, beq_self_eq_true, bne_self_eq_false, Int.reduceBEq, Int.reduceBNe, Bool.or_false, Bool.false_or, Bool.not_false, Bool.not_true]
            refine WQ.cases 87 _ rfl (fun hg87 => ?_) (fun hg87 => ?_)
            · skip
              refine WQ.go 2 (ds := [some 68, some 69, some 70, some 71, some 72, some 73, some 74, some 75, some 76, some 77, some 78, some 79, some 80, some 81, some 82, some 83, some 84, some 85, some 86, some 87, some 88, some 89, some 90, some 91, some 92, some 93, some 94, some 95, some 96, some 97, some 98, some 99, some 100, some 101]) rfl ?_
              simp only [sx, ty, Bool.false_eq_true, Int.reduceEq, Int.reduceLT, Nat.reduceAdd, Nat.reduceSub, Nat.reduceMul, Nat.reduceLT, Nat.reduceLeDiff, Nat.reduceEqDiff, List.reduceReplicate, reduceIte, sxq, Bool.false_eq_true, beq_self_eq_true, bne_self_eq_false, Int.reduceBEq, Int.reduceBNe, Bool.or_false, Bool.false_or, Bool.not_false, Bool.not_true]
              refine WQ.elemF (y := ds[m]) hl (by simp [St.put]) (ds := [some 68, some 69, some 70, some 71, some 72, some 73, some 74, some 75, some 76, some 77, some 78, some 79, some 80, some 81, some 82, some 83, some 84, some 85, some 86, some 87, some 88, some 89, some 90, some 91, some 92, some 93, some 94, some 95, some 96, some 97, some 98, some 99, some 100, some 101]) rfl rfl rfl (by simp [St.put]) (fun _ => rfl) rfl (by simp [St.put]) (fun _ _ => rfl) rfl rfl rfl rfl rfl rfl el22 fo35_3 agg33 sz33 (by decide) (.inr rfl) (by omega) (getIdx ds hml) fun p q ces hces => ?_
              obtain ⟨p8, c8, rfl, hed8, hel8⟩ := rDem_open hces
              clear hces
              refine WQ.go 2 (ds := [some 68, some 69, some 70, some 71, some 72, some 73, some 74, some 75, some 76, some 77, some 78, some 79, some 80, some 81, some 82, some 83, some 84, some 85, some 86, some 87, some 88, some 89, some 90, some 91, some 92, some 93, some 94, some 95, some 96, some 97, some 98, some 99, some 100, some 101]) rfl ?_
              simp only [sx, ty, Bool.false_eq_true, Int.reduceEq, Int.reduceLT, Nat.reduceAdd, Nat.reduceSub, Nat.reduceMul, Nat.reduceLT, Nat.reduceLeDiff, Nat.reduceEqDiff, List.reduceReplicate, reduceIte, sxq, Bool.false_eq_true, beq_self_eq_true, bne_self_eq_false, Int.reduceBEq, Int.reduceBNe, Bool.or_false, Bool.false_or, Bool.not_false, Bool.not_true]
              refine WQ.elemF (y := cs[k]) hl2 (by simp [St.put]) (ds := [some 68, some 69, some 70, some 71, some 72, some 73, some 74, some 75, some 76, some 77, some 78, some 79, some 80, some 81, some 82, some 83, some 84, some 85, some 86, some 87, some 88, some 89, some 90, some 91, some 92, some 93, some 94, some 95, some 96, some 97, some 98, some 99, some 100, some 101]) rfl rfl rfl (by simp [St.put]) (fun _ => rfl) rfl (by simp [St.put]) (fun _ _ => rfl) rfl rfl rfl rfl rfl rfl el23 fo37_2 agg3 sz3 (by decide) (.inr rfl) (by omega) (getIdx cs hkl) fun p q ces hces => ?_
              obtain rfl := rCop_open hces
              clear hces
              simp only [sx, ty, Bool.false_eq_true, Int.reduceEq, Int.reduceLT, Nat.reduceAdd, Nat.reduceSub, Nat.reduceMul, Nat.reduceLT, Nat.reduceLeDiff, Nat.reduceEqDiff, List.reduceReplicate, reduceIte, beq_self_eq_true, bne_self_eq_false, Int.reduceBEq, Int.reduceBNe, Bool.or_false, Bool.false_or, Bool.not_false, Bool.not_true]
              refine WQ.call (.int .i64 (idxOf ds[m].2.2.2 cs[k].2.2.1)) (ds := [some 68, some 69, some 70, some 71, some 72, some 73, some 74, some 75, some 76, some 77, some 78, some 79, some 80, some 81, some 82, some 83, some 84, some 85, some 86, some 87, some 88, some 89, some 90, some 91, some 92, some 93, some 94, some 95, some 96, some 97, some 98, some 99, some 100, some 101]) rfl rfl rfl rfl co17 (fun ρ w1 hb => rindex_spec (Rp.now hed8 (hb.first (by simp))) _) ?_
              refine WQ.go 3 (ds := [some 68, some 69, some 70, some 71, some 72, some 73, some 74, some 75, some 76, some 77, some 78, some 79, some 80, some 81, some 82, some 83, some 84, some 85, some 86, some 87, some 88, some 89, some 90, some 91, some 92, some 93, some 94, some 95, some 96, some 97, some 98, some 99, some 100, some 101]) rfl ?_
              simp only [sx, ty, Bool.false_eq_true, Int.reduceEq, Int.reduceLT, Nat.reduceAdd, Nat.reduceSub, Nat.reduceMul, Nat.reduceLT, Nat.reduceLeDiff, Nat.reduceEqDiff, List.reduceReplicate, reduceIte, sxq, Bool.false_eq_true, beq_self_eq_true, bne_self_eq_false, Int.reduceBEq, Int.reduceBNe, Bool.or_false, Bool.false_or, Bool.not_false, Bool.not_true]
              with_reducible refine WQ.nil ?_
              refine ⟨rfl, ?_, ⟨_, rfl⟩, by simp [Own.bnd, bndL, bnd], by simp⟩
              try rw [hg87]
              simp [getE, bnd, keepE]
            · skip
              refine WQ.go 14 (ds := [some 68, some 69, some 70, some 71, some 72, some 73, some 74, some 75, some 76, some 77, some 78, some 79, some 80, some 81, some 82, some 83, some 84, some 85, some 86, some 87, some 88, some 89, some 90, some 91, some 92, some 93, some 94, some 95, some 96, some 97, some 98, some 99, some 100, some 101]) rfl ?_
              simp only [sx, ty, Bool.false_eq_true, Int.reduceEq, Int.reduceLT, Nat.reduceAdd, Nat.reduceSub, Nat.reduceMul, Nat.reduceLT, Nat.reduceLeDiff, Nat.reduceEqDiff, List.reduceReplicate, reduceIte, sxq, Bool.false_eq_true, beq_self_eq_true, bne_self_eq_false, Int.reduceBEq, Int.reduceBNe, Bool.or_false, Bool.false_or, Bool.not_false, Bool.not_true]
              with_reducible refine WQ.nil ?_
              refine ⟨rfl, ?_, ⟨_, rfl⟩, by simp [Own.bnd, bndL, bnd], by simp⟩
              try rw [hg87]
              simp [getE, bnd, keepE]
          · simp only [sx, ty, Bool.false_eq_true, Int.reduceEq, Int.reduceLT, Nat.reduceAdd, Nat.reduceSub, Nat.reduceMul, Nat.reduceLT, Nat.reduceLeDiff, Nat.reduceEqDiff, List.reduceReplicate, reduceIte, sxk, beq_self_eq_true, bne_self_eq_false, Int.reduceBEq, Int.reduceBNe, Bool.or_false, Bool.false_or, Bool.not_false, Bool.not_true]
            refine W.cond rfl rfl (fun hc => ?_) (fun hc => ?_)
            · skip
              rw [ed_law] at hc
              simp at hc
            · skip
              refine W.skip (hK16 _ ?_)
              refine W.region ?_
              refine WO.go 2 (ds := []) rfl ?_
              simp only [sx, ty, Bool.false_eq_true, Int.reduceEq, Int.reduceLT, Nat.reduceAdd, Nat.reduceSub, Nat.reduceMul, Nat.reduceLT, Nat.reduceLeDiff, Nat.reduceEqDiff, List.reduceReplicate, reduceIte, beq_self_eq_true, bne_self_eq_false, Int.reduceBEq, Int.reduceBNe, Bool.or_false, Bool.false_or, Bool.not_false, Bool.not_true]
              with_reducible refine WO.nil ?_
              refine ⟨k + 1, ?_, by first | omega | (simp; omega), rfl, by simp [getE, bnd, keepE, wrap_succ (show k + 1 ≤ 9223372036854775807 by omega)], ⟨_, rfl⟩, by simp [Own.bnd, bndL, bnd], by simp⟩
              exact hkl
        · skip
          refine W.exit (hK12 _ ?_)
          refine W.seqK fun K19 hK19 => ?_
          refine W.seqK fun K20 hK20 => W.region ?_
          refine WO.go 1 (ds := []) rfl ?_
          simp only [sx, ty, Bool.false_eq_true, Int.reduceEq, Int.reduceLT, Nat.reduceAdd, Nat.reduceSub, Nat.reduceMul, Nat.reduceLT, Nat.reduceLeDiff, Nat.reduceEqDiff, List.reduceReplicate, reduceIte, beq_self_eq_true, bne_self_eq_false, Int.reduceBEq, Int.reduceBNe, Bool.or_false, Bool.false_or, Bool.not_false, Bool.not_true]
          refine WO.call (.bool (validD (moreD ds[m] more))) (ds := []) rfl rfl rfl rfl co18 (fun ρ w1 hb => rdemand_spec (rDem_mk (own_slice (A := rInt) (S := fun _ => True) (k := 2) hb rfl (by simp) (fun _ _ => trivial) (ints_read (ds[m].2.2.2 ++ [more]))))) ?_
          refine WO.go 1 (ds := []) rfl ?_
          simp only [sx, ty, Bool.false_eq_true, Int.reduceEq, Int.reduceLT, Nat.reduceAdd, Nat.reduceSub, Nat.reduceMul, Nat.reduceLT, Nat.reduceLeDiff, Nat.reduceEqDiff, List.reduceReplicate, reduceIte, beq_self_eq_true, bne_self_eq_false, Int.reduceBEq, Int.reduceBNe, Bool.or_false, Bool.false_or, Bool.not_false, Bool.not_true]
          with_reducible refine WO.nil ?_
          refine hK20 _ ?_; clear hK20
          refine W.cond rfl rfl (fun hc => ?_) (fun hc => ?_)
          · skip
            refine W.pure (ds := []) rfl fun K21 hK21 => ?_
            simp only [sx, ty, Bool.false_eq_true, Int.reduceEq, Int.reduceLT, Nat.reduceAdd, Nat.reduceSub, Nat.reduceMul, Nat.reduceLT, Nat.reduceLeDiff, Nat.reduceEqDiff, List.reduceReplicate, reduceIte, beq_self_eq_true, bne_self_eq_false, Int.reduceBEq, Int.reduceBNe, Bool.or_false, Bool.false_or, Bool.not_false, Bool.not_true]; with_reducible refine hK21 _ ?_; clear hK21
            refine W.ret ⟨by simp, _, rfl, fun ρ w1 hb => ?_⟩
            rfl
          · skip
            have hvx : validD (moreD ds[m] more) = true := by simpa using hc
            refine W.skip (hK19 _ ?_)
            refine W.seqK fun K22 hK22 => W.region ?_
            refine WO.go 4 (ds := []) rfl ?_
            simp only [sx, ty, Bool.false_eq_true, Int.reduceEq, Int.reduceLT, Nat.reduceAdd, Nat.reduceSub, Nat.reduceMul, Nat.reduceLT, Nat.reduceLeDiff, Nat.reduceEqDiff, List.reduceReplicate, reduceIte, beq_self_eq_true, bne_self_eq_false, Int.reduceBEq, Int.reduceBNe, Bool.or_false, Bool.false_or, Bool.not_false, Bool.not_true]
            refine WO.callM (fun x : Option Addr × Nat => .tuple #[.slice x.1 (costsF [(moreD ds[m] more)] cs ((IntKind.i64.wrap hall).tmod 100)).length x.2, .int .i64 0]) (fun lo x s => rRows.rd (fun b => lo ≤ b) s [.slice x.1 (costsF [(moreD ds[m] more)] cs ((IntKind.i64.wrap hall).tmod 100)).length x.2] (costsF [(moreD ds[m] more)] cs ((IntKind.i64.wrap hall).tmod 100))) (ds := []) rfl rfl rfl rfl co10 (fun ρ w1 hb => costs_call (costs_of (valid_one hv hvx) (rem_hall hh)) (own_list (A := rDem) (k := 4) hb rfl rfl (by omega) (by omega) (Rp.one (rDem_mk (own_slice (A := rInt) (S := fun _ => True) (k := 2) hb rfl (by simp) (fun _ _ => trivial) (ints_read (ds[m].2.2.2 ++ [more])))))) (Rp.now hl2 (hb.first (by simp)))) fun x lo hr3s hr3 => ?_
            obtain ⟨hr3p, hr3c⟩ := x
            simp only at hr3
            refine WO.go 5 (ds := []) rfl ?_
            simp only [sx, ty, Bool.false_eq_true, Int.reduceEq, Int.reduceLT, Nat.reduceAdd, Nat.reduceSub, Nat.reduceMul, Nat.reduceLT, Nat.reduceLeDiff, Nat.reduceEqDiff, List.reduceReplicate, reduceIte, beq_self_eq_true, bne_self_eq_false, Int.reduceBEq, Int.reduceBNe, Bool.or_false, Bool.false_or, Bool.not_false, Bool.not_true]
            with_reducible refine WO.nil ?_
            refine hK22 _ ?_; clear hK22
            refine W.seqK fun K23 hK23 => ?_
            refine W.seqK fun K24 hK24 => W.region ?_
            refine WO.go 5 (ds := [some 115, some 116, some 117, some 118, some 119, some 120, some 121, some 122, some 123, some 124]) rfl ?_
            simp only [sx, ty, Bool.false_eq_true, Int.reduceEq, Int.reduceLT, Nat.reduceAdd, Nat.reduceSub, Nat.reduceMul, Nat.reduceLT, Nat.reduceLeDiff, Nat.reduceEqDiff, List.reduceReplicate, reduceIte, beq_self_eq_true, bne_self_eq_false, Int.reduceBEq, Int.reduceBNe, Bool.or_false, Bool.false_or, Bool.not_false, Bool.not_true]
            refine WO.slc (ds := [some 115, some 116, some 117, some 118, some 119, some 120, some 121, some 122, some 123, some 124]) rfl rfl rfl rfl rfl el22 rfl rfl (by simp [loS]) (by simp [loS, hiS]) (by simp [hiS]; omega) ?_
            refine WO.go 1 (ds := [some 115, some 116, some 117, some 118, some 119, some 120, some 121, some 122, some 123, some 124]) rfl ?_
            simp only [sx, ty, Bool.false_eq_true, Int.reduceEq, Int.reduceLT, Nat.reduceAdd, Nat.reduceSub, Nat.reduceMul, Nat.reduceLT, Nat.reduceLeDiff, Nat.reduceEqDiff, List.reduceReplicate, reduceIte, beq_self_eq_true, bne_self_eq_false, Int.reduceBEq, Int.reduceBNe, Bool.or_false, Bool.false_or, Bool.not_false, Bool.not_true]
            refine WO.call (.bool true) (ds := [some 115, some 116, some 117, some 118, some 119, some 120, some 121, some 122, some 123, some 124]) rfl rfl rfl rfl co16 (fun ρ w1 hb => shaped_costs (ds := [(moreD ds[m] more)]) (Rp.keep hr3 (hb.at (by simp))) _ _ _ _ _ _ rfl rfl) ?_
            refine WO.go 2 (ds := [some 115, some 116, some 117, some 118, some 119, some 120, some 121, some 122, some 123, some 124]) rfl ?_
            simp only [sx, ty, Bool.false_eq_true, Int.reduceEq, Int.reduceLT, Nat.reduceAdd, Nat.reduceSub, Nat.reduceMul, Nat.reduceLT, Nat.reduceLeDiff, Nat.reduceEqDiff, List.reduceReplicate, reduceIte, beq_self_eq_true, bne_self_eq_false, Int.reduceBEq, Int.reduceBNe, Bool.or_false, Bool.false_or, Bool.not_false, Bool.not_true]
            with_reducible refine WO.nil ?_
            refine hK24 _ ?_; clear hK24
            refine W.cond rfl rfl (fun hc => ?_) (fun hc => ?_)
            · skip
              simp at hc
            · skip
              refine W.skip (hK23 _ ?_)
              refine W.seqK fun K25 hK25 => ?_
              refine W.pure (ds := []) rfl fun K26 hK26 => ?_
              simp only [sx, ty, Bool.false_eq_true, Int.reduceEq, Int.reduceLT, Nat.reduceAdd, Nat.reduceSub, Nat.reduceMul, Nat.reduceLT, Nat.reduceLeDiff, Nat.reduceEqDiff, List.reduceReplicate, reduceIte, beq_self_eq_true, bne_self_eq_false, Int.reduceBEq, Int.reduceBNe, Bool.or_false, Bool.false_or, Bool.not_false, Bool.not_true]; with_reducible refine hK26 _ ?_; clear hK26
              refine W.block ?_
              refine W.loopK (X := Nat) [1, 3, 12, 14, 15, 18, 126] (fun x => [(11, .val (.bool true)), (127, .val (.int .i64 x))]) (fun x => x ≤ cs.length) (fun x => cs.length - x) 0 ?_ ?_ ?_
              · exact ⟨rfl, by simp [getE, bnd, keepE], ⟨[], by simp⟩, by simp [Own.bnd, bndL, bnd], by simp⟩
              · skip
                exact Nat.zero_le _
              · rintro k hk
                simp only [sx, ty, Bool.false_eq_true, Int.reduceEq, Int.reduceLT, Nat.reduceAdd, Nat.reduceSub, Nat.reduceMul, Nat.reduceLT, Nat.reduceLeDiff, Nat.reduceEqDiff, List.reduceReplicate, reduceIte, sxk, beq_self_eq_true, bne_self_eq_false, Int.reduceBEq, Int.reduceBNe, Bool.or_false, Bool.false_or, Bool.not_false, Bool.not_true]
                refine W.pure (ds := []) rfl fun K27 hK27 => ?_
                simp only [sx, ty, Bool.false_eq_true, Int.reduceEq, Int.reduceLT, Nat.reduceAdd, Nat.reduceSub, Nat.reduceMul, Nat.reduceLT, Nat.reduceLeDiff, Nat.reduceEqDiff, List.reduceReplicate, reduceIte, beq_self_eq_true, bne_self_eq_false, Int.reduceBEq, Int.reduceBNe, Bool.or_false, Bool.false_or, Bool.not_false, Bool.not_true]; with_reducible refine hK27 _ ?_; clear hK27
                refine W.seqK fun K28 hK28 => ?_
                refine W.cond rfl rfl (fun hc => ?_) (fun hc => ?_)
                · skip
                  have hkl : k < cs.length := by simpa using hc
                  refine W.skip (hK28 _ ?_)
                  refine W.seqK fun K29 hK29 => ?_
                  refine W.block ?_
                  refine W.pure (ds := []) rfl fun K30 hK30 => ?_
                  simp only [sx, ty, Bool.false_eq_true, Int.reduceEq, Int.reduceLT, Nat.reduceAdd, Nat.reduceSub, Nat.reduceMul, Nat.reduceLT, Nat.reduceLeDiff, Nat.reduceEqDiff, List.reduceReplicate, reduceIte, beq_self_eq_true, bne_self_eq_false, Int.reduceBEq, Int.reduceBNe, Bool.or_false, Bool.false_or, Bool.not_false, Bool.not_true]; with_reducible refine hK30 _ ?_; clear hK30
                  refine W.block ?_
                  refine W.seqK fun K31 hK31 => W.region ?_
                  refine WO.go 2 (ds := []) rfl ?_
                  simp only [sx, ty, Bool.false_eq_true, Int.reduceEq, Int.reduceLT, Nat.reduceAdd, Nat.reduceSub, Nat.reduceMul, Nat.reduceLT, Nat.reduceLeDiff, Nat.reduceEqDiff, List.reduceReplicate, reduceIte, beq_self_eq_true, bne_self_eq_false, Int.reduceBEq, Int.reduceBNe, Bool.or_false, Bool.false_or, Bool.not_false, Bool.not_true]
                  refine WO.elem (y := (cs.map fun c => costF ds[m] c ((IntKind.i64.wrap hall).tmod 100))) hr1 (by simp [St.put]) (ds := []) rfl rfl rfl (by simp [St.put]) (fun _ => rfl) rfl rfl rfl rfl rfl el26 agg33 sz33 (.inr rfl) (by omega) (costsF_row hml) fun p ces hces => ?_
                  obtain ⟨p6, c6, rfl, hq6, hqc6⟩ := rInts_open hces
                  have hrow6 := hces
                  clear hces
                  refine WO.go 1 (ds := []) rfl ?_
                  simp only [sx, ty, Bool.false_eq_true, Int.reduceEq, Int.reduceLT, Nat.reduceAdd, Nat.reduceSub, Nat.reduceMul, Nat.reduceLT, Nat.reduceLeDiff, Nat.reduceEqDiff, List.reduceReplicate, reduceIte, beq_self_eq_true, bne_self_eq_false, Int.reduceBEq, Int.reduceBNe, Bool.or_false, Bool.false_or, Bool.not_false, Bool.not_true]
                  refine WO.elem (y := costF ds[m] cs[k] ((IntKind.i64.wrap hall).tmod 100)) hrow6 (by simp [St.put]) (ds := []) rfl rfl rfl (by simp [St.put]) (fun _ => rfl) rfl rfl rfl rfl rfl el33 agg3 sz3 (.inr rfl) (by omega) (row_get hkl) fun p ces hces => ?_
                  obtain rfl := rInt_open hces
                  clear hces
                  refine WO.go 2 (ds := []) rfl ?_
                  simp only [sx, ty, Bool.false_eq_true, Int.reduceEq, Int.reduceLT, Nat.reduceAdd, Nat.reduceSub, Nat.reduceMul, Nat.reduceLT, Nat.reduceLeDiff, Nat.reduceEqDiff, List.reduceReplicate, reduceIte, beq_self_eq_true, bne_self_eq_false, Int.reduceBEq, Int.reduceBNe, Bool.or_false, Bool.false_or, Bool.not_false, Bool.not_true]
                  with_reducible refine WO.nil ?_
                  refine hK31 _ ?_; clear hK31
                  refine W.cond rfl rfl (fun hc => ?_) (fun hc => ?_)
                  · skip
                    have hge : 0 ≤ costF ds[m] cs[k] ((IntKind.i64.wrap hall).tmod 100) := by simpa using hc
                    refine W.regionQ mixed (by kernel_rfl) ?_
                    refine WQ.go 3 (ds := [some 139, some 140, some 141, some 142, some 143, some 144, some 145, some 146, some 147, some 148, some 149, some 150, some 151, some 152, some 153, some 154, some 155, some 11]) rfl ?_
                    simp only [sx, ty, Bool.false_eq_true, Int.reduceEq, Int.reduceLT, Nat.reduceAdd, Nat.reduceSub, Nat.reduceMul, Nat.reduceLT, Nat.reduceLeDiff, Nat.reduceEqDiff, List.reduceReplicate, reduceIte, sxq, Bool.false_eq_true, beq_self_eq_true, bne_self_eq_false, Int.reduceBEq, Int.reduceBNe, Bool.or_false, Bool.false_or, Bool.not_false, Bool.not_true]
                    refine WQ.elem (y := (cs.map fun c => costF (moreD ds[m] more) c ((IntKind.i64.wrap hall).tmod 100))) hr3 (by simp [St.put]) (ds := [some 139, some 140, some 141, some 142, some 143, some 144, some 145, some 146, some 147, some 148, some 149, some 150, some 151, some 152, some 153, some 154, some 155, some 11]) rfl rfl rfl (by simp [St.put]) (fun _ => rfl) rfl rfl rfl rfl rfl el26 agg33 sz33 (.inr rfl) (by omega) (rfl) fun p ces hces => ?_
                    obtain ⟨p9, c9, rfl, hq9, hqc9⟩ := rInts_open hces
                    have hrow9 := hces
                    clear hces
                    refine WQ.go 1 (ds := [some 139, some 140, some 141, some 142, some 143, some 144, some 145, some 146, some 147, some 148, some 149, some 150, some 151, some 152, some 153, some 154, some 155, some 11]) rfl ?_
                    simp only [sx, ty, Bool.false_eq_true, Int.reduceEq, Int.reduceLT, Nat.reduceAdd, Nat.reduceSub, Nat.reduceMul, Nat.reduceLT, Nat.reduceLeDiff, Nat.reduceEqDiff, List.reduceReplicate, reduceIte, sxq, Bool.false_eq_true, beq_self_eq_true, bne_self_eq_false, Int.reduceBEq, Int.reduceBNe, Bool.or_false, Bool.false_or, Bool.not_false, Bool.not_true]
                    refine WQ.elem (y := costF (moreD ds[m] more) cs[k] ((IntKind.i64.wrap hall).tmod 100)) hrow9 (by simp [St.put]) (ds := [some 139, some 140, some 141, some 142, some 143, some 144, some 145, some 146, some 147, some 148, some 149, some 150, some 151, some 152, some 153, some 154, some 155, some 11]) rfl rfl rfl (by simp [St.put]) (fun _ => rfl) rfl rfl rfl rfl rfl el33 agg3 sz3 (.inr rfl) (by omega) (row_get hkl) fun p ces hces => ?_
                    obtain rfl := rInt_open hces
                    clear hces
                    refine WQ.go 2 (ds := [some 139, some 140, some 141, some 142, some 143, some 144, some 145, some 146, some 147, some 148, some 149, some 150, some 151, some 152, some 153, some 154, some 155, some 11]) rfl ?_
                    simp only [sx, ty, Bool.false_eq_true, Int.reduceEq, Int.reduceLT, Nat.reduceAdd, Nat.reduceSub, Nat.reduceMul, Nat.reduceLT, Nat.reduceLeDiff, Nat.reduceEqDiff, List.reduceReplicate, reduceIte, sxq, Bool.false_eq_true, beq_self_eq_true, bne_self_eq_false, Int.reduceBEq, Int.reduceBNe, Bool.or_false, Bool.false_or, Bool.not_false, Bool.not_true]
                    refine WQ.elem (y := (cs.map fun c => costF ds[m] c ((IntKind.i64.wrap hall).tmod 100))) hr1 (by simp [St.put]) (ds := [some 139, some 140, some 141, some 142, some 143, some 144, some 145, some 146, some 147, some 148, some 149, some 150, some 151, some 152, some 153, some 154, some 155, some 11]) rfl rfl rfl (by simp [St.put]) (fun _ => rfl) rfl rfl rfl rfl rfl el26 agg33 sz33 (.inr rfl) (by omega) (costsF_row hml) fun p ces hces => ?_
                    obtain ⟨p7, c7, rfl, hq7, hqc7⟩ := rInts_open hces
                    have hrow7 := hces
                    clear hces
                    refine WQ.go 1 (ds := [some 139, some 140, some 141, some 142, some 143, some 144, some 145, some 146, some 147, some 148, some 149, some 150, some 151, some 152, some 153, some 154, some 155, some 11]) rfl ?_
                    simp only [sx, ty, Bool.false_eq_true, Int.reduceEq, Int.reduceLT, Nat.reduceAdd, Nat.reduceSub, Nat.reduceMul, Nat.reduceLT, Nat.reduceLeDiff, Nat.reduceEqDiff, List.reduceReplicate, reduceIte, sxq, Bool.false_eq_true, beq_self_eq_true, bne_self_eq_false, Int.reduceBEq, Int.reduceBNe, Bool.or_false, Bool.false_or, Bool.not_false, Bool.not_true]
                    refine WQ.elem (y := costF ds[m] cs[k] ((IntKind.i64.wrap hall).tmod 100)) hrow7 (by simp [St.put]) (ds := [some 139, some 140, some 141, some 142, some 143, some 144, some 145, some 146, some 147, some 148, some 149, some 150, some 151, some 152, some 153, some 154, some 155, some 11]) rfl rfl rfl (by simp [St.put]) (fun _ => rfl) rfl rfl rfl rfl rfl el33 agg3 sz3 (.inr rfl) (by omega) (row_get hkl) fun p ces hces => ?_
                    obtain rfl := rInt_open hces
                    clear hces
                    refine WQ.go 3 (ds := [some 139, some 140, some 141, some 142, some 143, some 144, some 145, some 146, some 147, some 148, some 149, some 150, some 151, some 152, some 153, some 154, some 155, some 11]) rfl ?_
                    simp only [sx, ty, Bool.false_eq_true, Int.reduceEq, Int.reduceLT, Nat.reduceAdd, Nat.reduceSub, Nat.reduceMul, Nat.reduceLT, Nat.reduceLeDiff, Nat.reduceEqDiff, List.reduceReplicate, reduceIte, sxq, Bool.false_eq_true, beq_self_eq_true, bne_self_eq_false, Int.reduceBEq, Int.reduceBNe, Bool.or_false, Bool.false_or, Bool.not_false, Bool.not_true]
                    with_reducible refine WQ.nil ?_
                    refine hK29 _ ?_
                    refine W.region ?_
                    refine WO.go 2 (ds := []) rfl ?_
                    simp only [sx, ty, Bool.false_eq_true, Int.reduceEq, Int.reduceLT, Nat.reduceAdd, Nat.reduceSub, Nat.reduceMul, Nat.reduceLT, Nat.reduceLeDiff, Nat.reduceEqDiff, List.reduceReplicate, reduceIte, beq_self_eq_true, bne_self_eq_false, Int.reduceBEq, Int.reduceBNe, Bool.or_false, Bool.false_or, Bool.not_false, Bool.not_true]
                    with_reducible refine WO.nil ?_
                    refine ⟨k + 1, ?_, by first | omega | (simp; omega), rfl, by simp [getE, bnd, keepE, wrap_succ (show k + 1 ≤ 9223372036854775807 by omega), ed_same (x := more) hge], ⟨_, rfl⟩, by simp [Own.bnd, bndL, bnd], by simp⟩
                    exact hkl
                  · skip
                    have hge : ¬ 0 ≤ costF ds[m] cs[k] ((IntKind.i64.wrap hall).tmod 100) := by simpa using hc
                    refine W.seqK fun K32 hK32 => W.region ?_
                    refine WO.go 1 (ds := []) rfl ?_
                    simp only [sx, ty, Bool.false_eq_true, Int.reduceEq, Int.reduceLT, Nat.reduceAdd, Nat.reduceSub, Nat.reduceMul, Nat.reduceLT, Nat.reduceLeDiff, Nat.reduceEqDiff, List.reduceReplicate, reduceIte, beq_self_eq_true, bne_self_eq_false, Int.reduceBEq, Int.reduceBNe, Bool.or_false, Bool.false_or, Bool.not_false, Bool.not_true]
                    refine WO.elem (y := (cs.map fun c => costF (moreD ds[m] more) c ((IntKind.i64.wrap hall).tmod 100))) hr3 (by simp [St.put]) (ds := []) rfl rfl rfl (by simp [St.put]) (fun _ => rfl) rfl rfl rfl rfl rfl el26 agg33 sz33 (.inr rfl) (by omega) (rfl) fun p ces hces => ?_
                    obtain ⟨p9, c9, rfl, hq9, hqc9⟩ := rInts_open hces
                    have hrow9 := hces
                    clear hces
                    refine WO.go 1 (ds := []) rfl ?_
                    simp only [sx, ty, Bool.false_eq_true, Int.reduceEq, Int.reduceLT, Nat.reduceAdd, Nat.reduceSub, Nat.reduceMul, Nat.reduceLT, Nat.reduceLeDiff, Nat.reduceEqDiff, List.reduceReplicate, reduceIte, beq_self_eq_true, bne_self_eq_false, Int.reduceBEq, Int.reduceBNe, Bool.or_false, Bool.false_or, Bool.not_false, Bool.not_true]
                    refine WO.elem (y := costF (moreD ds[m] more) cs[k] ((IntKind.i64.wrap hall).tmod 100)) hrow9 (by simp [St.put]) (ds := []) rfl rfl rfl (by simp [St.put]) (fun _ => rfl) rfl rfl rfl rfl rfl el33 agg3 sz3 (.inr rfl) (by omega) (row_get hkl) fun p ces hces => ?_
                    obtain rfl := rInt_open hces
                    clear hces
                    refine WO.go 2 (ds := []) rfl ?_
                    simp only [sx, ty, Bool.false_eq_true, Int.reduceEq, Int.reduceLT, Nat.reduceAdd, Nat.reduceSub, Nat.reduceMul, Nat.reduceLT, Nat.reduceLeDiff, Nat.reduceEqDiff, List.reduceReplicate, reduceIte, beq_self_eq_true, bne_self_eq_false, Int.reduceBEq, Int.reduceBNe, Bool.or_false, Bool.false_or, Bool.not_false, Bool.not_true]
                    with_reducible refine WO.nil ?_
                    refine hK32 _ ?_; clear hK32
                    refine W.cond rfl rfl (fun hc => ?_) (fun hc => ?_)
                    · skip
                      have hnew := ed_new hge (show 0 ≤ costF (moreD ds[m] more) cs[k] ((IntKind.i64.wrap hall).tmod 100) by simpa using hc)
                      refine W.regionQ mixed (by kernel_rfl) ?_
                      refine WQ.go 4 (ds := [some 164, some 165, some 166, some 167, some 168, some 169, some 170, some 171, some 172, some 173, some 174, some 175, some 176, some 177, some 178, some 179, some 180, some 181, some 182, some 183, some 11]) rfl ?_
                      simp only [sx, ty, Bool.false_eq_true, Int.reduceEq, Int.reduceLT, Nat.reduceAdd, Nat.reduceSub, Nat.reduceMul, Nat.reduceLT, Nat.reduceLeDiff, Nat.reduceEqDiff, List.reduceReplicate, reduceIte, sxq, Bool.false_eq_true, beq_self_eq_true, bne_self_eq_false, Int.reduceBEq, Int.reduceBNe, Bool.or_false, Bool.false_or, Bool.not_false, Bool.not_true]
                      refine WQ.elemF (y := cs[k]) hl2 (by simp [St.put]) (ds := [some 164, some 165, some 166, some 167, some 168, some 169, some 170, some 171, some 172, some 173, some 174, some 175, some 176, some 177, some 178, some 179, some 180, some 181, some 182, some 183, some 11]) rfl rfl rfl (by simp [St.put]) (fun _ => rfl) rfl (by simp [St.put]) (fun _ _ => rfl) rfl rfl rfl rfl rfl rfl el23 fo37_2 agg3 sz3 (by decide) (.inr rfl) (by omega) (getIdx cs hkl) fun p q ces hces => ?_
                      obtain rfl := rCop_open hces
                      clear hces
                      refine WQ.go 4 (ds := [some 164, some 165, some 166, some 167, some 168, some 169, some 170, some 171, some 172, some 173, some 174, some 175, some 176, some 177, some 178, some 179, some 180, some 181, some 182, some 183, some 11]) rfl ?_
                      simp only [sx, ty, Bool.false_eq_true, Int.reduceEq, Int.reduceLT, Nat.reduceAdd, Nat.reduceSub, Nat.reduceMul, Nat.reduceLT, Nat.reduceLeDiff, Nat.reduceEqDiff, List.reduceReplicate, reduceIte, sxq, Bool.false_eq_true, beq_self_eq_true, bne_self_eq_false, Int.reduceBEq, Int.reduceBNe, Bool.or_false, Bool.false_or, Bool.not_false, Bool.not_true]
                      refine WQ.cases 174 _ rfl (fun hg174 => ?_) (fun hg174 => ?_)
                      · skip
                        refine WQ.go 2 (ds := [some 164, some 165, some 166, some 167, some 168, some 169, some 170, some 171, some 172, some 173, some 174, some 175, some 176, some 177, some 178, some 179, some 180, some 181, some 182, some 183, some 11]) rfl ?_
                        simp only [sx, ty, Bool.false_eq_true, Int.reduceEq, Int.reduceLT, Nat.reduceAdd, Nat.reduceSub, Nat.reduceMul, Nat.reduceLT, Nat.reduceLeDiff, Nat.reduceEqDiff, List.reduceReplicate, reduceIte, sxq, Bool.false_eq_true, beq_self_eq_true, bne_self_eq_false, Int.reduceBEq, Int.reduceBNe, Bool.or_false, Bool.false_or, Bool.not_false, Bool.not_true]
                        refine WQ.elemF (y := cs[k]) hl2 (by simp [St.put]) (ds := [some 164, some 165, some 166, some 167, some 168, some 169, some 170, some 171, some 172, some 173, some 174, some 175, some 176, some 177, some 178, some 179, some 180, some 181, some 182, some 183, some 11]) rfl rfl rfl (by simp [St.put]) (fun _ => rfl) rfl (by simp [St.put]) (fun _ _ => rfl) rfl rfl rfl rfl rfl rfl el23 fo37_1 agg3 sz3 (by decide) (.inr rfl) (by omega) (getIdx cs hkl) fun p q ces hces => ?_
                        obtain rfl := rCop_open hces
                        clear hces
                        refine WQ.go 5 (ds := [some 164, some 165, some 166, some 167, some 168, some 169, some 170, some 171, some 172, some 173, some 174, some 175, some 176, some 177, some 178, some 179, some 180, some 181, some 182, some 183, some 11]) rfl ?_
                        simp only [sx, ty, Bool.false_eq_true, Int.reduceEq, Int.reduceLT, Nat.reduceAdd, Nat.reduceSub, Nat.reduceMul, Nat.reduceLT, Nat.reduceLeDiff, Nat.reduceEqDiff, List.reduceReplicate, reduceIte, sxq, Bool.false_eq_true, beq_self_eq_true, bne_self_eq_false, Int.reduceBEq, Int.reduceBNe, Bool.or_false, Bool.false_or, Bool.not_false, Bool.not_true]
                        with_reducible refine WQ.nil ?_
                        refine hK29 _ ?_
                        refine W.region ?_
                        refine WO.go 2 (ds := []) rfl ?_
                        simp only [sx, ty, Bool.false_eq_true, Int.reduceEq, Int.reduceLT, Nat.reduceAdd, Nat.reduceSub, Nat.reduceMul, Nat.reduceLT, Nat.reduceLeDiff, Nat.reduceEqDiff, List.reduceReplicate, reduceIte, beq_self_eq_true, bne_self_eq_false, Int.reduceBEq, Int.reduceBNe, Bool.or_false, Bool.false_or, Bool.not_false, Bool.not_true]
                        with_reducible refine WO.nil ?_
                        refine ⟨k + 1, ?_, by first | omega | (simp; omega), rfl, by simp [getE, bnd, keepE, wrap_succ (show k + 1 ≤ 9223372036854775807 by omega), hnew.2], ⟨_, rfl⟩, by simp [Own.bnd, bndL, bnd], by simp⟩
                        exact hkl
                      · skip
                        rw [hnew.1] at hg174
                        simp at hg174
                    · skip
                      refine W.skip (hK29 _ ?_)
                      refine W.region ?_
                      refine WO.go 2 (ds := []) rfl ?_
                      simp only [sx, ty, Bool.false_eq_true, Int.reduceEq, Int.reduceLT, Nat.reduceAdd, Nat.reduceSub, Nat.reduceMul, Nat.reduceLT, Nat.reduceLeDiff, Nat.reduceEqDiff, List.reduceReplicate, reduceIte, beq_self_eq_true, bne_self_eq_false, Int.reduceBEq, Int.reduceBNe, Bool.or_false, Bool.false_or, Bool.not_false, Bool.not_true]
                      with_reducible refine WO.nil ?_
                      refine ⟨k + 1, ?_, by first | omega | (simp; omega), rfl, by simp [getE, bnd, keepE, wrap_succ (show k + 1 ≤ 9223372036854775807 by omega)], ⟨_, rfl⟩, by simp [Own.bnd, bndL, bnd], by simp⟩
                      exact hkl
                · skip
                  refine W.exit (hK25 _ ?_)
                  refine W.pure (ds := []) rfl fun K33 hK33 => ?_
                  simp only [sx, ty, Bool.false_eq_true, Int.reduceEq, Int.reduceLT, Nat.reduceAdd, Nat.reduceSub, Nat.reduceMul, Nat.reduceLT, Nat.reduceLeDiff, Nat.reduceEqDiff, List.reduceReplicate, reduceIte, beq_self_eq_true, bne_self_eq_false, Int.reduceBEq, Int.reduceBNe, Bool.or_false, Bool.false_or, Bool.not_false, Bool.not_true]; with_reducible refine hK33 _ ?_; clear hK33
                  refine W.ret ⟨by simp, _, rfl, fun ρ w1 hb => ?_⟩
                  rfl
end Go.Proofs.Ytblagioibffgcaa
