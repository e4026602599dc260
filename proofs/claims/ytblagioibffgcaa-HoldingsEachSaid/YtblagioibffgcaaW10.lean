/-
  Holdings: each demand and copy alone, and all in the opposite order: walks.
-/
import Derived.Test.YtblagioibffgcaaPlain4
set_option linter.unusedVariables false
set_option linter.unusedSimpArgs false
set_option maxHeartbeats 2000000
namespace Go.Proofs.Ytblagioibffgcaa
open Go Go.SX Go.RowKit
/-- function 4 -/
theorem law2 {S S2 : Nat → Prop} {w : World} {v u : Value} {ds : List Dem} {cs : List Cop} (hl : rDems.rd S w [v] ds) (hl2 : rCops.rd S2 w [u] cs) (i k hall o : Int) (hi : 0 ≤ i ∧ i ≤ 255) (hk : 0 ≤ k ∧ k ≤ 255) (hh : 0 ≤ hall ∧ hall ≤ 255) (ho : 0 ≤ o ∧ o ≤ 65535) :
    Gives Try.prog 4 #[v, u, .int .u8 i, .int .u8 k, .int .u8 hall, .int .u16 o] w fun r _ => r = .bool true := by
  obtain ⟨p, c, rfl, hc1, hc2⟩ := Rp.slice_val hl
  obtain ⟨p2, c2, rfl, hc3, hc4⟩ := Rp.slice_val hl2
  have hl : (Rp.slice rDem).rd (fun _ => True) w _ ds := Rp.any hl
  have hl2 : (Rp.slice rCop).rd (fun _ => True) w _ cs := Rp.any hl2
  refine gives_of [.val (.slice p ds.length c), .val (.slice p2 cs.length c2), .val (.int .u8 i), .val (.int .u8 k), .val (.int .u8 hall), .val (.int .u16 o)] 200 [.tmp 12] Try.func4 rfl rfl rfl (by simp) rfl rfl ?_
  refine W.pure (ds := []) rfl fun K1 hK1 => ?_
  simp only [sx, ty, Bool.false_eq_true, Int.reduceEq, Int.reduceLT, Nat.reduceAdd, Nat.reduceSub, Nat.reduceMul, Nat.reduceLT, Nat.reduceLeDiff, Nat.reduceEqDiff, List.reduceReplicate, reduceIte, beq_self_eq_true, bne_self_eq_false, Int.reduceBEq, Int.reduceBNe, Bool.or_false, Bool.false_or, Bool.not_false, Bool.not_true]; with_reducible refine hK1 _ ?_; clear hK1
  refine W.seqK fun K2 hK2 => W.region ?_
  refine WO.call (.bool true) (ds := []) rfl rfl rfl rfl co8 (fun ρ w1 hb => head_spec w1) ?_
  refine WO.go 1 (ds := []) rfl ?_
  simp only [sx, ty, Bool.false_eq_true, Int.reduceEq, Int.reduceLT, Nat.reduceAdd, Nat.reduceSub, Nat.reduceMul, Nat.reduceLT, Nat.reduceLeDiff, Nat.reduceEqDiff, List.reduceReplicate, reduceIte, beq_self_eq_true, bne_self_eq_false, Int.reduceBEq, Int.reduceBNe, Bool.or_false, Bool.false_or, Bool.not_false, Bool.not_true]
  with_reducible refine WO.nil ?_
  refine hK2 _ ?_; clear hK2
  refine W.seqK fun K3 hK3 => ?_
  refine W.seqK fun K4 hK4 => W.region ?_
  refine WO.go 2 (ds := []) rfl ?_
  simp only [sx, ty, Bool.false_eq_true, Int.reduceEq, Int.reduceLT, Nat.reduceAdd, Nat.reduceSub, Nat.reduceMul, Nat.reduceLT, Nat.reduceLeDiff, Nat.reduceEqDiff, List.reduceReplicate, reduceIte, beq_self_eq_true, bne_self_eq_false, Int.reduceBEq, Int.reduceBNe, Bool.or_false, Bool.false_or, Bool.not_false, Bool.not_true]
  refine WO.call (.bool (usableB ds cs)) (ds := []) rfl rfl rfl rfl co15 (fun ρ w1 hb => usable_spec (Rp.now hl (hb.first (by simp))) (Rp.now hl2 (hb.first (by simp)))) ?_
  refine WO.go 1 (ds := []) rfl ?_
  simp only [sx, ty, Bool.false_eq_true, Int.reduceEq, Int.reduceLT, Nat.reduceAdd, Nat.reduceSub, Nat.reduceMul, Nat.reduceLT, Nat.reduceLeDiff, Nat.reduceEqDiff, List.reduceReplicate, reduceIte, beq_self_eq_true, bne_self_eq_false, Int.reduceBEq, Int.reduceBNe, Bool.or_false, Bool.false_or, Bool.not_false, Bool.not_true]
  with_reducible refine WO.nil ?_
  refine hK4 _ ?_; clear hK4
  refine W.cond rfl rfl (fun hc => ?_) (fun hc => ?_)
  · skip
    refine W.pure (ds := []) rfl fun K5 hK5 => ?_
    simp only [sx, ty, Bool.false_eq_true, Int.reduceEq, Int.reduceLT, Nat.reduceAdd, Nat.reduceSub, Nat.reduceMul, Nat.reduceLT, Nat.reduceLeDiff, Nat.reduceEqDiff, List.reduceReplicate, reduceIte, beq_self_eq_true, bne_self_eq_false, Int.reduceBEq, Int.reduceBNe, Bool.or_false, Bool.false_or, Bool.not_false, Bool.not_true]; with_reducible refine hK5 _ ?_; clear hK5
    refine W.ret ⟨by simp, _, rfl, fun ρ w1 hb => ?_⟩
    rfl
  · skip
    have hU : usableB ds cs = true := by simpa using hc
    clear hc
    obtain ⟨hd0, hc0, hv⟩ := usable_of hU
    obtain ⟨hdl, hcl, hel⟩ := valid_lens hv
    have hdn : ¬ ((ds.length : Int) = 0) := by omega
    have hcn : ¬ ((cs.length : Int) = 0) := by omega
    obtain ⟨m, hm, hml⟩ := rem_nat hi hd0
    obtain ⟨n, hn, hnl⟩ := rem_nat hk hc0
    obtain ⟨hw1, hw2, hw3⟩ := u16r ho
    have hva := alone_valid hv hml hnl ho
    have hvr := rev_valid hv
    refine W.skip (hK3 _ ?_)
    refine W.seqK fun K6 hK6 => ?_
    refine W.regionQ mixed (by kernel_rfl) ?_
    refine WQ.go 4 (ds := []) rfl ?_
    simp only [sx, ty, Bool.false_eq_true, Int.reduceEq, Int.reduceLT, Nat.reduceAdd, Nat.reduceSub, Nat.reduceMul, Nat.reduceLT, Nat.reduceLeDiff, Nat.reduceEqDiff, List.reduceReplicate, reduceIte, sxq, Bool.false_eq_true, beq_self_eq_true, bne_self_eq_false, Int.reduceBEq, Int.reduceBNe, Bool.or_false, Bool.false_or, Bool.not_false, Bool.not_true]
    refine WQ.go 1 (ds := []) rfl ?_
    simp only [sx, ty, Bool.false_eq_true, Int.reduceEq, Int.reduceLT, Nat.reduceAdd, Nat.reduceSub, Nat.reduceMul, Nat.reduceLT, Nat.reduceLeDiff, Nat.reduceEqDiff, List.reduceReplicate, reduceIte, sxq, Bool.false_eq_true, beq_self_eq_true, bne_self_eq_false, Int.reduceBEq, Int.reduceBNe, Bool.or_false, Bool.false_or, Bool.not_false, Bool.not_true, if_neg hdn, hm]
    refine WQ.go 4 (ds := []) rfl ?_
    simp only [sx, ty, Bool.false_eq_true, Int.reduceEq, Int.reduceLT, Nat.reduceAdd, Nat.reduceSub, Nat.reduceMul, Nat.reduceLT, Nat.reduceLeDiff, Nat.reduceEqDiff, List.reduceReplicate, reduceIte, sxq, Bool.false_eq_true, beq_self_eq_true, bne_self_eq_false, Int.reduceBEq, Int.reduceBNe, Bool.or_false, Bool.false_or, Bool.not_false, Bool.not_true]
    refine WQ.go 1 (ds := []) rfl ?_
    simp only [sx, ty, Bool.false_eq_true, Int.reduceEq, Int.reduceLT, Nat.reduceAdd, Nat.reduceSub, Nat.reduceMul, Nat.reduceLT, Nat.reduceLeDiff, Nat.reduceEqDiff, List.reduceReplicate, reduceIte, sxq, Bool.false_eq_true, beq_self_eq_true, bne_self_eq_false, Int.reduceBEq, Int.reduceBNe, Bool.or_false, Bool.false_or, Bool.not_false, Bool.not_true, if_neg hcn, hn]
    refine WQ.go 6 (ds := []) rfl ?_
    simp only [sx, ty, Bool.false_eq_true, Int.reduceEq, Int.reduceLT, Nat.reduceAdd, Nat.reduceSub, Nat.reduceMul, Nat.reduceLT, Nat.reduceLeDiff, Nat.reduceEqDiff, List.reduceReplicate, reduceIte, sxq, Bool.false_eq_true, beq_self_eq_true, bne_self_eq_false, Int.reduceBEq, Int.reduceBNe, Bool.or_false, Bool.false_or, Bool.not_false, Bool.not_true]
    with_reducible refine WQ.nil ?_
    refine hK6 _ ?_; clear hK6
    refine W.seqK fun K7 hK7 => W.region ?_
    refine WO.go 3 (ds := []) rfl ?_
    simp only [sx, ty, Bool.false_eq_true, Int.reduceEq, Int.reduceLT, Nat.reduceAdd, Nat.reduceSub, Nat.reduceMul, Nat.reduceLT, Nat.reduceLeDiff, Nat.reduceEqDiff, List.reduceReplicate, reduceIte, beq_self_eq_true, bne_self_eq_false, Int.reduceBEq, Int.reduceBNe, Bool.or_false, Bool.false_or, Bool.not_false, Bool.not_true]
    refine WO.callM (fun x : Option Addr × Nat => .tuple #[.slice x.1 (costsF ds cs ((IntKind.i64.wrap hall).tmod 100)).length x.2, .int .i64 0]) (fun lo x s => rRows.rd (fun b => lo ≤ b) s [.slice x.1 (costsF ds cs ((IntKind.i64.wrap hall).tmod 100)).length x.2] (costsF ds cs ((IntKind.i64.wrap hall).tmod 100))) (ds := []) rfl rfl rfl rfl co10 (fun ρ w1 hb => costs_call (costs_of hv (rem_hall hh)) (Rp.now hl (hb.first (by simp))) (Rp.now hl2 (hb.first (by simp)))) fun x lohr1 hr1s hr1 => ?_
    obtain ⟨hr1p, hr1c⟩ := x
    simp only at hr1
    refine WO.go 5 (ds := []) rfl ?_
    simp only [sx, ty, Bool.false_eq_true, Int.reduceEq, Int.reduceLT, Nat.reduceAdd, Nat.reduceSub, Nat.reduceMul, Nat.reduceLT, Nat.reduceLeDiff, Nat.reduceEqDiff, List.reduceReplicate, reduceIte, beq_self_eq_true, bne_self_eq_false, Int.reduceBEq, Int.reduceBNe, Bool.or_false, Bool.false_or, Bool.not_false, Bool.not_true]
    with_reducible refine WO.nil ?_
    refine hK7 _ ?_; clear hK7
    refine W.seqK fun K8 hK8 => ?_
    refine W.regionS (ds := [some 55, some 56, some 57, some 58, some 59, some 60, some 61, some 62, some 19, some 20, none, none]) (tg := [none, none, none, none, none, none, none, none, some 0, some 1, some 0, some 1]) [⟨[], [], [0], [0, 1], none, false⟩, ⟨[], [], [14], [0, 1], none, false⟩, ⟨[0, 1], [0, 1], [], [0, 1], none, false⟩, ⟨[0, 1, 2], [2], [], [0, 1], none, false⟩, ⟨[], [], [1], [0, 1], none, false⟩, ⟨[], [], [15], [0, 1], none, false⟩, ⟨[4, 5], [4, 5], [], [0, 1], none, false⟩, ⟨[4, 5, 6], [6], [], [0, 1], none, false⟩, ⟨[], [], [], [1], some 0, true⟩, ⟨[], [], [], [0], some 1, true⟩, ⟨[0, 1, 2, 3, 8, 9], [8, 3], [], [], some 0, false⟩, ⟨[0, 1, 2, 3, 4, 5, 6, 7, 8, 9, 10], [9, 7], [], [], some 1, false⟩] 2 0 200 mixed rfl rfl (by kernel_rfl) (by kernel_rfl) ?_
    simp only [sx, ty, Bool.false_eq_true, Int.reduceEq, Int.reduceLT, Nat.reduceAdd, Nat.reduceSub, Nat.reduceMul, Nat.reduceLT, Nat.reduceLeDiff, Nat.reduceEqDiff, List.reduceReplicate, reduceIte, sxs, List.toList_toArray, List.cons_append, List.nil_append, List.append_nil, beq_self_eq_true, bne_self_eq_false, Int.reduceBEq, Int.reduceBNe, Bool.or_false, Bool.false_or, Bool.not_false, Bool.not_true]
    refine WS.go rfl rfl rfl ?_
    simp only [sx, ty, Bool.false_eq_true, Int.reduceEq, Int.reduceLT, Nat.reduceAdd, Nat.reduceSub, Nat.reduceMul, Nat.reduceLT, Nat.reduceLeDiff, Nat.reduceEqDiff, List.reduceReplicate, reduceIte, sxs, List.toList_toArray, List.cons_append, List.nil_append, List.append_nil, beq_self_eq_true, bne_self_eq_false, Int.reduceBEq, Int.reduceBNe, Bool.or_false, Bool.false_or, Bool.not_false, Bool.not_true]
    refine WS.go rfl rfl rfl ?_
    simp only [sx, ty, Bool.false_eq_true, Int.reduceEq, Int.reduceLT, Nat.reduceAdd, Nat.reduceSub, Nat.reduceMul, Nat.reduceLT, Nat.reduceLeDiff, Nat.reduceEqDiff, List.reduceReplicate, reduceIte, sxs, List.toList_toArray, List.cons_append, List.nil_append, List.append_nil, beq_self_eq_true, bne_self_eq_false, Int.reduceBEq, Int.reduceBNe, Bool.or_false, Bool.false_or, Bool.not_false, Bool.not_true]
    refine WS.elem (y := ds[m]) hl (by simp) rfl rfl (fun _ => rfl) rfl rfl rfl (fun _ => rfl) rfl rfl el22 agg35 sz35 (.inl rfl) (by omega) (getIdx ds hml) fun p ces hces => ?_
    obtain ⟨p8, c8, rfl, hed8, hel8⟩ := rDem_open hces
    clear hces
    simp only [sx, ty, Bool.false_eq_true, Int.reduceEq, Int.reduceLT, Nat.reduceAdd, Nat.reduceSub, Nat.reduceMul, Nat.reduceLT, Nat.reduceLeDiff, Nat.reduceEqDiff, List.reduceReplicate, reduceIte, sxs, List.toList_toArray, List.cons_append, List.nil_append, List.append_nil, beq_self_eq_true, bne_self_eq_false, Int.reduceBEq, Int.reduceBNe, Bool.or_false, Bool.false_or, Bool.not_false, Bool.not_true]
    refine WS.go rfl rfl rfl ?_
    simp only [sx, ty, Bool.false_eq_true, Int.reduceEq, Int.reduceLT, Nat.reduceAdd, Nat.reduceSub, Nat.reduceMul, Nat.reduceLT, Nat.reduceLeDiff, Nat.reduceEqDiff, List.reduceReplicate, reduceIte, sxs, List.toList_toArray, List.cons_append, List.nil_append, List.append_nil, beq_self_eq_true, bne_self_eq_false, Int.reduceBEq, Int.reduceBNe, Bool.or_false, Bool.false_or, Bool.not_false, Bool.not_true]
    refine WS.go rfl rfl rfl ?_
    simp only [sx, ty, Bool.false_eq_true, Int.reduceEq, Int.reduceLT, Nat.reduceAdd, Nat.reduceSub, Nat.reduceMul, Nat.reduceLT, Nat.reduceLeDiff, Nat.reduceEqDiff, List.reduceReplicate, reduceIte, sxs, List.toList_toArray, List.cons_append, List.nil_append, List.append_nil, beq_self_eq_true, bne_self_eq_false, Int.reduceBEq, Int.reduceBNe, Bool.or_false, Bool.false_or, Bool.not_false, Bool.not_true]
    refine WS.elem (y := cs[n]) hl2 (by simp) rfl rfl (fun _ => rfl) rfl rfl rfl (fun _ => rfl) rfl rfl el23 agg37 sz37 (.inl rfl) (by omega) (getIdx cs hnl) fun p ces hces => ?_
    obtain rfl := rCop_open hces
    clear hces
    simp only [sx, ty, Bool.false_eq_true, Int.reduceEq, Int.reduceLT, Nat.reduceAdd, Nat.reduceSub, Nat.reduceMul, Nat.reduceLT, Nat.reduceLeDiff, Nat.reduceEqDiff, List.reduceReplicate, reduceIte, sxs, List.toList_toArray, List.cons_append, List.nil_append, List.append_nil, beq_self_eq_true, bne_self_eq_false, Int.reduceBEq, Int.reduceBNe, Bool.or_false, Bool.false_or, Bool.not_false, Bool.not_true]
    refine WS.alloc rfl rfl ze35 rfl rfl ?_
    simp only [sx, ty, Bool.false_eq_true, Int.reduceEq, Int.reduceLT, Nat.reduceAdd, Nat.reduceSub, Nat.reduceMul, Nat.reduceLT, Nat.reduceLeDiff, Nat.reduceEqDiff, List.reduceReplicate, reduceIte, sxs, List.toList_toArray, List.cons_append, List.nil_append, List.append_nil, beq_self_eq_true, bne_self_eq_false, Int.reduceBEq, Int.reduceBNe, Bool.or_false, Bool.false_or, Bool.not_false, Bool.not_true]
    refine WS.alloc rfl rfl ze37 rfl rfl ?_
    simp only [sx, ty, Bool.false_eq_true, Int.reduceEq, Int.reduceLT, Nat.reduceAdd, Nat.reduceSub, Nat.reduceMul, Nat.reduceLT, Nat.reduceLeDiff, Nat.reduceEqDiff, List.reduceReplicate, reduceIte, sxs, List.toList_toArray, List.cons_append, List.nil_append, List.append_nil, beq_self_eq_true, bne_self_eq_false, Int.reduceBEq, Int.reduceBNe, Bool.or_false, Bool.false_or, Bool.not_false, Bool.not_true]
    refine WS.store rfl rfl rfl rfl rfl rfl rfl sz35 (Nat.le_of_ble_eq_true rfl) rfl ?_
    simp only [sx, ty, Bool.false_eq_true, Int.reduceEq, Int.reduceLT, Nat.reduceAdd, Nat.reduceSub, Nat.reduceMul, Nat.reduceLT, Nat.reduceLeDiff, Nat.reduceEqDiff, List.reduceReplicate, reduceIte, sxs, List.toList_toArray, List.cons_append, List.nil_append, List.append_nil, beq_self_eq_true, bne_self_eq_false, Int.reduceBEq, Int.reduceBNe, Bool.or_false, Bool.false_or, Bool.not_false, Bool.not_true]
    refine WS.store rfl rfl rfl rfl rfl rfl rfl sz37 (Nat.le_of_ble_eq_true rfl) rfl ?_
    simp only [sx, ty, Bool.false_eq_true, Int.reduceEq, Int.reduceLT, Nat.reduceAdd, Nat.reduceSub, Nat.reduceMul, Nat.reduceLT, Nat.reduceLeDiff, Nat.reduceEqDiff, List.reduceReplicate, reduceIte, sxs, List.toList_toArray, List.cons_append, List.nil_append, List.append_nil, beq_self_eq_true, bne_self_eq_false, Int.reduceBEq, Int.reduceBNe, Bool.or_false, Bool.false_or, Bool.not_false, Bool.not_true]
    refine WS.nil [0, 1, 2, 3, 4, 5, 6, 7, 8, 9, 10, 11] rfl rfl ?_
    simp only [sx, ty, Bool.false_eq_true, Int.reduceEq, Int.reduceLT, Nat.reduceAdd, Nat.reduceSub, Nat.reduceMul, Nat.reduceLT, Nat.reduceLeDiff, Nat.reduceEqDiff, List.reduceReplicate, reduceIte, sxs, List.toList_toArray, List.cons_append, List.nil_append, List.append_nil, beq_self_eq_true, bne_self_eq_false, Int.reduceBEq, Int.reduceBNe, Bool.or_false, Bool.false_or, Bool.not_false, Bool.not_true]
    refine hK8 _ ?_; clear hK8
    refine W.pure (ds := []) rfl fun K9 hK9 => ?_
    simp only [sx, ty, Bool.false_eq_true, Int.reduceEq, Int.reduceLT, Nat.reduceAdd, Nat.reduceSub, Nat.reduceMul, Nat.reduceLT, Nat.reduceLeDiff, Nat.reduceEqDiff, List.reduceReplicate, reduceIte, beq_self_eq_true, bne_self_eq_false, Int.reduceBEq, Int.reduceBNe, Bool.or_false, Bool.false_or, Bool.not_false, Bool.not_true]; with_reducible refine hK9 _ ?_; clear hK9
    simp only [hw1, hw2, hw3]
    refine W.seqK fun K10 hK10 => W.region ?_
    refine WO.go 5 (ds := []) rfl ?_
    simp only [sx, ty, Bool.false_eq_true, Int.reduceEq, Int.reduceLT, Nat.reduceAdd, Nat.reduceSub, Nat.reduceMul, Nat.reduceLT, Nat.reduceLeDiff, Nat.reduceEqDiff, List.reduceReplicate, reduceIte, beq_self_eq_true, bne_self_eq_false, Int.reduceBEq, Int.reduceBNe, Bool.or_false, Bool.false_or, Bool.not_false, Bool.not_true]
    refine WO.callM (fun x : Option Addr × Nat => .tuple #[.slice x.1 (costsF [(aloneD ds[m] o)] [(aloneC cs[n] o)] ((IntKind.i64.wrap hall).tmod 100)).length x.2, .int .i64 0]) (fun lo x s => rRows.rd (fun b => lo ≤ b) s [.slice x.1 (costsF [(aloneD ds[m] o)] [(aloneC cs[n] o)] ((IntKind.i64.wrap hall).tmod 100)).length x.2] (costsF [(aloneD ds[m] o)] [(aloneC cs[n] o)] ((IntKind.i64.wrap hall).tmod 100))) (ds := []) rfl rfl rfl rfl co10 (fun ρ w1 hb => costs_call (costs_of hva (rem_hall hh)) (own_list (A := rDem) (k := 2) hb rfl rfl (by omega) (by omega) (Rp.one (show rDem.rd _ _ _ (aloneD ds[m] o) from rDem_mk (Rp.any (Rp.now hed8 (hb.first (by simp))))))) (own_list (A := rCop) (k := 3) hb rfl rfl (by omega) (by omega) (Rp.one (show rCop.rd _ _ _ (aloneC cs[n] o) from rCop_mk _ _ _ _)))) fun x lohr2 hr2s hr2 => ?_
    obtain ⟨hr2p, hr2c⟩ := x
    simp only at hr2
    refine WO.go 5 (ds := []) rfl ?_
    simp only [sx, ty, Bool.false_eq_true, Int.reduceEq, Int.reduceLT, Nat.reduceAdd, Nat.reduceSub, Nat.reduceMul, Nat.reduceLT, Nat.reduceLeDiff, Nat.reduceEqDiff, List.reduceReplicate, reduceIte, beq_self_eq_true, bne_self_eq_false, Int.reduceBEq, Int.reduceBNe, Bool.or_false, Bool.false_or, Bool.not_false, Bool.not_true]
    with_reducible refine WO.nil ?_
    refine hK10 _ ?_; clear hK10
    refine W.fresh [0, 1, 13, 14, 15, 16, 17, 18, 21, 22] (by rfl) ?_
    simp only [sx, ty, Bool.false_eq_true, Int.reduceEq, Int.reduceLT, Nat.reduceAdd, Nat.reduceSub, Nat.reduceMul, Nat.reduceLT, Nat.reduceLeDiff, Nat.reduceEqDiff, List.reduceReplicate, reduceIte, sxk]
    refine W.pure (ds := []) rfl fun K11 hK11 => ?_
    simp only [sx, ty, Bool.false_eq_true, Int.reduceEq, Int.reduceLT, Nat.reduceAdd, Nat.reduceSub, Nat.reduceMul, Nat.reduceLT, Nat.reduceLeDiff, Nat.reduceEqDiff, List.reduceReplicate, reduceIte, beq_self_eq_true, bne_self_eq_false, Int.reduceBEq, Int.reduceBNe, Bool.or_false, Bool.false_or, Bool.not_false, Bool.not_true]; with_reducible refine hK11 _ ?_; clear hK11
    refine W.pure (ds := []) rfl fun K12 hK12 => ?_
    simp only [sx, ty, Bool.false_eq_true, Int.reduceEq, Int.reduceLT, Nat.reduceAdd, Nat.reduceSub, Nat.reduceMul, Nat.reduceLT, Nat.reduceLeDiff, Nat.reduceEqDiff, List.reduceReplicate, reduceIte, beq_self_eq_true, bne_self_eq_false, Int.reduceBEq, Int.reduceBNe, Bool.or_false, Bool.false_or, Bool.not_false, Bool.not_true]; with_reducible refine hK12 _ ?_; clear hK12
    refine W.seqK fun K13 hK13 => ?_
    refine W.pure (ds := []) rfl fun K14 hK14 => ?_
    simp only [sx, ty, Bool.false_eq_true, Int.reduceEq, Int.reduceLT, Nat.reduceAdd, Nat.reduceSub, Nat.reduceMul, Nat.reduceLT, Nat.reduceLeDiff, Nat.reduceEqDiff, List.reduceReplicate, reduceIte, beq_self_eq_true, bne_self_eq_false, Int.reduceBEq, Int.reduceBNe, Bool.or_false, Bool.false_or, Bool.not_false, Bool.not_true]; with_reducible refine hK14 _ ?_; clear hK14
    refine W.block ?_
    refine W.ownNil 35 4 ?_
    simp only [sx, ty, Bool.false_eq_true, Int.reduceEq, Int.reduceLT, Nat.reduceAdd, Nat.reduceSub, Nat.reduceMul, Nat.reduceLT, Nat.reduceLeDiff, Nat.reduceEqDiff, List.reduceReplicate, reduceIte]
    refine W.loopO (X := Nat × Option Addr × Nat × List Value) [0, 1, 13, 14, 15, 16, 17, 18, 21, 22, 24, 86] (fun x => [(23, .val (.slice x.2.1 x.1 x.2.2.1)), (87, .val (.int .i64 x.1))]) (fun x => [.slice 35 4 (.slice x.2.1 x.1 x.2.2.1) x.1 x.2.2.2]) (fun x => [((fun b => lohr2 ≤ b), hr2s), ((fun b => lohr1 ≤ b), hr1s), ((fun _ => True), w)]) (fun x => x.1 ≤ ds.length ∧ x.2.2.2.length = x.1 * 4 ∧ (∀ i y, ((ds).reverse.take x.1)[i]? = some y → rDem.rd (fun _ => True) w ((x.2.2.2.drop (i * rDem.sz)).take rDem.sz) y)) (fun x => ds.length - x.1) (0, none, 0, []) ?_ ?_ ?_
    · exact ⟨rfl, by simp [getE, bnd, keepE], ⟨[], by simp⟩, by simp [Own.bnd, bndL, bnd, boxO], by simp⟩
    · skip
      exact ⟨Nat.zero_le _, rfl, fun i y h => by simp at h⟩
    · rintro ⟨j, p3, c3, xs⟩ ⟨hj, hxl, hrd⟩
      simp only at hj hxl hrd
      simp only [sx, ty, Bool.false_eq_true, Int.reduceEq, Int.reduceLT, Nat.reduceAdd, Nat.reduceSub, Nat.reduceMul, Nat.reduceLT, Nat.reduceLeDiff, Nat.reduceEqDiff, List.reduceReplicate, reduceIte, sxk, beq_self_eq_true, bne_self_eq_false, Int.reduceBEq, Int.reduceBNe, Bool.or_false, Bool.false_or, Bool.not_false, Bool.not_true]
      refine W.pure (ds := []) rfl fun K15 hK15 => ?_
      simp only [sx, ty, Bool.false_eq_true, Int.reduceEq, Int.reduceLT, Nat.reduceAdd, Nat.reduceSub, Nat.reduceMul, Nat.reduceLT, Nat.reduceLeDiff, Nat.reduceEqDiff, List.reduceReplicate, reduceIte, beq_self_eq_true, bne_self_eq_false, Int.reduceBEq, Int.reduceBNe, Bool.or_false, Bool.false_or, Bool.not_false, Bool.not_true]; with_reducible refine hK15 _ ?_; clear hK15
      refine W.seqK fun K16 hK16 => ?_
      refine W.cond rfl rfl (fun hc => ?_) (fun hc => ?_)
      · skip
        have hlt : j < ds.length := by simpa using hc
        have hwa := wrap_id (x := (ds.length : Int) - 1) (by omega) (by omega)
        have hwb := wrap_id (x := (ds.length : Int) - 1 - (j : Int)) (by omega) (by omega)
        have hwc : (ds.length : Int) - 1 - (j : Int) = ((ds.length - 1 - j : Nat) : Int) := by omega
        refine W.skip (hK16 _ ?_)
        refine W.seqK fun K17 hK17 => ?_
        refine W.block ?_
        refine W.pure (ds := []) rfl fun K18 hK18 => ?_
        simp only [sx, ty, Bool.false_eq_true, Int.reduceEq, Int.reduceLT, Nat.reduceAdd, Nat.reduceSub, Nat.reduceMul, Nat.reduceLT, Nat.reduceLeDiff, Nat.reduceEqDiff, List.reduceReplicate, reduceIte, beq_self_eq_true, bne_self_eq_false, Int.reduceBEq, Int.reduceBNe, Bool.or_false, Bool.false_or, Bool.not_false, Bool.not_true]; with_reducible refine hK18 _ ?_; clear hK18
        refine W.region ?_
        refine WO.go 7 (ds := []) rfl ?_
        simp only [sx, ty, Bool.false_eq_true, Int.reduceEq, Int.reduceLT, Nat.reduceAdd, Nat.reduceSub, Nat.reduceMul, Nat.reduceLT, Nat.reduceLeDiff, Nat.reduceEqDiff, List.reduceReplicate, reduceIte, beq_self_eq_true, bne_self_eq_false, Int.reduceBEq, Int.reduceBNe, Bool.or_false, Bool.false_or, Bool.not_false, Bool.not_true]
        rw [hwa, hwb, hwc]
        refine WO.elem (y := ds[ds.length - 1 - j]) hl (by simp [St.put]) (ds := []) rfl rfl rfl (by simp [St.put]) (fun _ => rfl) rfl rfl rfl rfl rfl el22 agg35 sz35 (.inl rfl) (by omega) (getIdx ds (by omega)) fun p ces hces => ?_
        obtain ⟨p9, c9, rfl, hed9, hel9⟩ := rDem_open hces
        have hd9 := hces
        clear hces
        refine WO.go 1 (ds := []) rfl ?_
        simp only [sx, ty, Bool.false_eq_true, Int.reduceEq, Int.reduceLT, Nat.reduceAdd, Nat.reduceSub, Nat.reduceMul, Nat.reduceLT, Nat.reduceLeDiff, Nat.reduceEqDiff, List.reduceReplicate, reduceIte, beq_self_eq_true, bne_self_eq_false, Int.reduceBEq, Int.reduceBNe, Bool.or_false, Bool.false_or, Bool.not_false, Bool.not_true]
        refine WO.append (k := 0) (m := 1) [.int .i64 ds[ds.length - 1 - j].1, .int .i64 ds[ds.length - 1 - j].2.1, .int .i64 ds[ds.length - 1 - j].2.2.1, .slice p9 ds[ds.length - 1 - j].2.2.2.length c9] (ds := []) rfl rfl rfl rfl rfl rfl rfl ek22 (news_own (k2 := 1) rfl fun _ => rfl) rfl (by simp [Value.oneCell']) (by rw [maxLen_eq]; omega) (by omega) fun q6 d6 => ?_
        refine WO.go 1 (ds := []) rfl ?_
        simp only [sx, ty, Bool.false_eq_true, Int.reduceEq, Int.reduceLT, Nat.reduceAdd, Nat.reduceSub, Nat.reduceMul, Nat.reduceLT, Nat.reduceLeDiff, Nat.reduceEqDiff, List.reduceReplicate, reduceIte, beq_self_eq_true, bne_self_eq_false, Int.reduceBEq, Int.reduceBNe, Bool.or_false, Bool.false_or, Bool.not_false, Bool.not_true]
        with_reducible refine WO.nil ?_
        refine hK17 _ ?_
        refine W.region ?_
        refine WO.go 2 (ds := []) rfl ?_
        simp only [sx, ty, Bool.false_eq_true, Int.reduceEq, Int.reduceLT, Nat.reduceAdd, Nat.reduceSub, Nat.reduceMul, Nat.reduceLT, Nat.reduceLeDiff, Nat.reduceEqDiff, List.reduceReplicate, reduceIte, beq_self_eq_true, bne_self_eq_false, Int.reduceBEq, Int.reduceBNe, Bool.or_false, Bool.false_or, Bool.not_false, Bool.not_true]
        with_reducible refine WO.nil ?_
        refine ⟨(j + 1, q6, d6, _), ⟨hlt, ?_, ?_⟩, by simp only; omega, rfl, by simp [getE, bnd, keepE, wrap_succ (show j + 1 ≤ 9223372036854775807 by omega)], ⟨_, rfl⟩, by simp [Own.bnd, bndL, bnd], by simp⟩
        · simp only [List.length_append, hxl, List.length_cons, List.length_nil]; omega
        · rw [rev_take ds hlt]
          exact Rp.app (A := rDem) (by rw [hxl, List.length_take, List.length_reverse, Nat.min_eq_left (by omega)]; rfl) hrd (Rp.one (Rp.any hd9))
      · skip
        obtain rfl : j = ds.length := Nat.le_antisymm hj (by simpa using hc)
        rw [List.take_of_length_le (by simp)] at hrd
        refine W.exit (hK13 _ ?_)
        refine W.seqK fun K19 hK19 => ?_
        refine W.pure (ds := []) rfl fun K20 hK20 => ?_
        simp only [sx, ty, Bool.false_eq_true, Int.reduceEq, Int.reduceLT, Nat.reduceAdd, Nat.reduceSub, Nat.reduceMul, Nat.reduceLT, Nat.reduceLeDiff, Nat.reduceEqDiff, List.reduceReplicate, reduceIte, beq_self_eq_true, bne_self_eq_false, Int.reduceBEq, Int.reduceBNe, Bool.or_false, Bool.false_or, Bool.not_false, Bool.not_true]; with_reducible refine hK20 _ ?_; clear hK20
        refine W.block ?_
        refine W.ownNil 37 4 ?_
        simp only [sx, ty, Bool.false_eq_true, Int.reduceEq, Int.reduceLT, Nat.reduceAdd, Nat.reduceSub, Nat.reduceMul, Nat.reduceLT, Nat.reduceLeDiff, Nat.reduceEqDiff, List.reduceReplicate, reduceIte]
        refine W.loopO (X := Nat × Option Addr × Nat × List Value) [0, 1, 13, 14, 15, 16, 17, 18, 21, 22, 23, 103] (fun x => [(24, .val (.slice x.2.1 x.1 x.2.2.1)), (104, .val (.int .i64 x.1))]) (fun x => [.slice 35 4 (.slice p3 ds.length c3) ds.length xs, .slice 37 4 (.slice x.2.1 x.1 x.2.2.1) x.1 x.2.2.2]) (fun x => [((fun b => lohr2 ≤ b), hr2s), ((fun b => lohr1 ≤ b), hr1s), ((fun _ => True), w)]) (fun x => x.1 ≤ cs.length ∧ x.2.2.2.length = x.1 * 4 ∧ (∀ i y, ((cs).reverse.take x.1)[i]? = some y → rCop.rd (fun _ => True) w ((x.2.2.2.drop (i * rCop.sz)).take rCop.sz) y)) (fun x => cs.length - x.1) (0, none, 0, []) ?_ ?_ ?_
        · exact ⟨rfl, by simp [getE, bnd, keepE], ⟨[], by simp⟩, by simp [Own.bnd, bndL, bnd, boxO], by simp⟩
        · skip
          exact ⟨Nat.zero_le _, rfl, fun i y h => by simp at h⟩
        · rintro ⟨k, p4, c4, ys⟩ ⟨hk2, hyl, hrd2⟩
          simp only at hk2 hyl hrd2
          simp only [sx, ty, Bool.false_eq_true, Int.reduceEq, Int.reduceLT, Nat.reduceAdd, Nat.reduceSub, Nat.reduceMul, Nat.reduceLT, Nat.reduceLeDiff, Nat.reduceEqDiff, List.reduceReplicate, reduceIte, sxk, beq_self_eq_true, bne_self_eq_false, Int.reduceBEq, Int.reduceBNe, Bool.or_false, Bool.false_or, Bool.not_false, Bool.not_true]
          refine W.pure (ds := []) rfl fun K21 hK21 => ?_
          simp only [sx, ty, Bool.false_eq_true, Int.reduceEq, Int.reduceLT, Nat.reduceAdd, Nat.reduceSub, Nat.reduceMul, Nat.reduceLT, Nat.reduceLeDiff, Nat.reduceEqDiff, List.reduceReplicate, reduceIte, beq_self_eq_true, bne_self_eq_false, Int.reduceBEq, Int.reduceBNe, Bool.or_false, Bool.false_or, Bool.not_false, Bool.not_true]; with_reducible refine hK21 _ ?_; clear hK21
          refine W.seqK fun K22 hK22 => ?_
          refine W.cond rfl rfl (fun hc => ?_) (fun hc => ?_)
          · skip
            have hlt : k < cs.length := by simpa using hc
            have hwa := wrap_id (x := (cs.length : Int) - 1) (by omega) (by omega)
            have hwb := wrap_id (x := (cs.length : Int) - 1 - (k : Int)) (by omega) (by omega)
            have hwc : (cs.length : Int) - 1 - (k : Int) = ((cs.length - 1 - k : Nat) : Int) := by omega
            refine W.skip (hK22 _ ?_)
            refine W.seqK fun K23 hK23 => ?_
            refine W.block ?_
            refine W.pure (ds := []) rfl fun K24 hK24 => ?_
            simp only [sx, ty, Bool.false_eq_true, Int.reduceEq, Int.reduceLT, Nat.reduceAdd, Nat.reduceSub, Nat.reduceMul, Nat.reduceLT, Nat.reduceLeDiff, Nat.reduceEqDiff, List.reduceReplicate, reduceIte, beq_self_eq_true, bne_self_eq_false, Int.reduceBEq, Int.reduceBNe, Bool.or_false, Bool.false_or, Bool.not_false, Bool.not_true]; with_reducible refine hK24 _ ?_; clear hK24
            refine W.region ?_
            refine WO.go 7 (ds := []) rfl ?_
            simp only [sx, ty, Bool.false_eq_true, Int.reduceEq, Int.reduceLT, Nat.reduceAdd, Nat.reduceSub, Nat.reduceMul, Nat.reduceLT, Nat.reduceLeDiff, Nat.reduceEqDiff, List.reduceReplicate, reduceIte, beq_self_eq_true, bne_self_eq_false, Int.reduceBEq, Int.reduceBNe, Bool.or_false, Bool.false_or, Bool.not_false, Bool.not_true]
            rw [hwa, hwb, hwc]
            refine WO.elem (y := cs[cs.length - 1 - k]) hl2 (by simp [St.put]) (ds := []) rfl rfl rfl (by simp [St.put]) (fun _ => rfl) rfl rfl rfl rfl rfl el23 agg37 sz37 (.inl rfl) (by omega) (getIdx cs (by omega)) fun p ces hces => ?_
            obtain rfl := rCop_open hces
            have hd9 := hces
            clear hces
            refine WO.go 1 (ds := []) rfl ?_
            simp only [sx, ty, Bool.false_eq_true, Int.reduceEq, Int.reduceLT, Nat.reduceAdd, Nat.reduceSub, Nat.reduceMul, Nat.reduceLT, Nat.reduceLeDiff, Nat.reduceEqDiff, List.reduceReplicate, reduceIte, beq_self_eq_true, bne_self_eq_false, Int.reduceBEq, Int.reduceBNe, Bool.or_false, Bool.false_or, Bool.not_false, Bool.not_true]
            refine WO.append (k := 1) (m := 1) [.int .i64 cs[cs.length - 1 - k].1, .int .i64 cs[cs.length - 1 - k].2.1, .int .i64 cs[cs.length - 1 - k].2.2.1, .int .i64 cs[cs.length - 1 - k].2.2.2] (ds := []) rfl rfl rfl rfl rfl rfl rfl ek23 (news_own (k2 := 2) rfl fun _ => rfl) rfl (by simp [Value.oneCell']) (by rw [maxLen_eq]; omega) (by omega) fun q6 d6 => ?_
            refine WO.go 1 (ds := []) rfl ?_
            simp only [sx, ty, Bool.false_eq_true, Int.reduceEq, Int.reduceLT, Nat.reduceAdd, Nat.reduceSub, Nat.reduceMul, Nat.reduceLT, Nat.reduceLeDiff, Nat.reduceEqDiff, List.reduceReplicate, reduceIte, beq_self_eq_true, bne_self_eq_false, Int.reduceBEq, Int.reduceBNe, Bool.or_false, Bool.false_or, Bool.not_false, Bool.not_true]
            with_reducible refine WO.nil ?_
            refine hK23 _ ?_
            refine W.region ?_
            refine WO.go 2 (ds := []) rfl ?_
            simp only [sx, ty, Bool.false_eq_true, Int.reduceEq, Int.reduceLT, Nat.reduceAdd, Nat.reduceSub, Nat.reduceMul, Nat.reduceLT, Nat.reduceLeDiff, Nat.reduceEqDiff, List.reduceReplicate, reduceIte, beq_self_eq_true, bne_self_eq_false, Int.reduceBEq, Int.reduceBNe, Bool.or_false, Bool.false_or, Bool.not_false, Bool.not_true]
            with_reducible refine WO.nil ?_
            refine ⟨(k + 1, q6, d6, _), ⟨hlt, ?_, ?_⟩, by simp only; omega, rfl, by simp [getE, bnd, keepE, wrap_succ (show k + 1 ≤ 9223372036854775807 by omega)], ⟨_, rfl⟩, by simp [Own.bnd, bndL, bnd], by simp⟩
            · simp only [List.length_append, hyl, List.length_cons, List.length_nil]; omega
            · rw [rev_take cs hlt]
              exact Rp.app (A := rCop) (by rw [hyl, List.length_take, List.length_reverse, Nat.min_eq_left (by omega)]; rfl) hrd2 (Rp.one (Rp.any hd9))
          · skip
            obtain rfl : k = cs.length := Nat.le_antisymm hk2 (by simpa using hc)
            rw [List.take_of_length_le (by simp)] at hrd2
            refine W.exit (hK19 _ ?_)
            refine W.seqK fun K25 hK25 => W.region ?_
            refine WO.go 3 (ds := []) rfl ?_
            simp only [sx, ty, Bool.false_eq_true, Int.reduceEq, Int.reduceLT, Nat.reduceAdd, Nat.reduceSub, Nat.reduceMul, Nat.reduceLT, Nat.reduceLeDiff, Nat.reduceEqDiff, List.reduceReplicate, reduceIte, beq_self_eq_true, bne_self_eq_false, Int.reduceBEq, Int.reduceBNe, Bool.or_false, Bool.false_or, Bool.not_false, Bool.not_true]
            refine WO.callM (fun x : Option Addr × Nat => .tuple #[.slice x.1 (costsF ds.reverse cs.reverse ((IntKind.i64.wrap hall).tmod 100)).length x.2, .int .i64 0]) (fun lo x s => rRows.rd (fun b => lo ≤ b) s [.slice x.1 (costsF ds.reverse cs.reverse ((IntKind.i64.wrap hall).tmod 100)).length x.2] (costsF ds.reverse cs.reverse ((IntKind.i64.wrap hall).tmod 100))) (ds := []) rfl rfl rfl rfl co10 (fun ρ w1 hb => costs_call (costs_of hvr (rem_hall hh)) (own_slice (A := rDem) (S := fun _ => True) (k := 0) hb rfl (by simp) (fun _ _ => trivial) (fun i y hy => Rp.now (hrd i y hy) (hb.first (by simp)))) (own_slice (A := rCop) (S := fun _ => True) (k := 1) hb rfl (by simp) (fun _ _ => trivial) (fun i y hy => Rp.now (hrd2 i y hy) (hb.first (by simp))))) fun x lohr3 hr3s hr3 => ?_
            obtain ⟨hr3p, hr3c⟩ := x
            simp only at hr3
            refine WO.go 5 (ds := []) rfl ?_
            simp only [sx, ty, Bool.false_eq_true, Int.reduceEq, Int.reduceLT, Nat.reduceAdd, Nat.reduceSub, Nat.reduceMul, Nat.reduceLT, Nat.reduceLeDiff, Nat.reduceEqDiff, List.reduceReplicate, reduceIte, beq_self_eq_true, bne_self_eq_false, Int.reduceBEq, Int.reduceBNe, Bool.or_false, Bool.false_or, Bool.not_false, Bool.not_true]
            with_reducible refine WO.nil ?_
            refine hK25 _ ?_; clear hK25
            refine W.seqK fun K26 hK26 => ?_
            refine W.seqK fun K27 hK27 => ?_
            refine W.regionQ mixed (by kernel_rfl) ?_
            refine WQ.go 14 (ds := [some 126, some 127, some 128, some 129, some 130, some 131, some 132, some 133, some 134, some 135, some 136, some 137, some 138, some 139, some 140, some 141, some 142, some 143, some 144, some 145, some 146, some 147, some 148, some 149, some 150, some 151, some 152, some 153, some 154, some 155, some 156, some 157, some 158]) rfl ?_
            simp only [sx, ty, Bool.false_eq_true, Int.reduceEq, Int.reduceLT, Nat.reduceAdd, Nat.reduceSub, Nat.reduceMul, Nat.reduceLT, Nat.reduceLeDiff, Nat.reduceEqDiff, List.reduceReplicate, reduceIte, sxq, Bool.false_eq_true, beq_self_eq_true, bne_self_eq_false, Int.reduceBEq, Int.reduceBNe, Bool.or_false, Bool.false_or, Bool.not_false, Bool.not_true]
            refine WQ.call (.bool true) (ds := [some 126, some 127, some 128, some 129, some 130, some 131, some 132, some 133, some 134, some 135, some 136, some 137, some 138, some 139, some 140, some 141, some 142, some 143, some 144, some 145, some 146, some 147, some 148, some 149, some 150, some 151, some 152, some 153, some 154, some 155, some 156, some 157, some 158]) rfl rfl rfl rfl co16 (fun ρ w1 hb => shaped_costs (ds := ds) (cs := cs) (Rp.keep hr1 (hb.at (by simp))) _ _ _ _ _ _ (by simp [loS, hiS]) (by simp [loS, hiS])) ?_
            refine WQ.go 6 (ds := [some 126, some 127, some 128, some 129, some 130, some 131, some 132, some 133, some 134, some 135, some 136, some 137, some 138, some 139, some 140, some 141, some 142, some 143, some 144, some 145, some 146, some 147, some 148, some 149, some 150, some 151, some 152, some 153, some 154, some 155, some 156, some 157, some 158]) rfl ?_
            simp only [sx, ty, Bool.false_eq_true, Int.reduceEq, Int.reduceLT, Nat.reduceAdd, Nat.reduceSub, Nat.reduceMul, Nat.reduceLT, Nat.reduceLeDiff, Nat.reduceEqDiff, List.reduceReplicate, reduceIte, sxq, Bool.false_eq_true, beq_self_eq_true, bne_self_eq_false, Int.reduceBEq, Int.reduceBNe, Bool.or_false, Bool.false_or, Bool.not_false, Bool.not_true]
            refine WQ.call (.bool true) (ds := [some 126, some 127, some 128, some 129, some 130, some 131, some 132, some 133, some 134, some 135, some 136, some 137, some 138, some 139, some 140, some 141, some 142, some 143, some 144, some 145, some 146, some 147, some 148, some 149, some 150, some 151, some 152, some 153, some 154, some 155, some 156, some 157, some 158]) rfl rfl rfl rfl co16 (fun ρ w1 hb => shaped_costs (ds := ds.reverse) (cs := cs.reverse) (Rp.keep hr3 (hb.at (by simp))) _ _ _ _ _ _ (by simp [loS, hiS]) (by simp [loS, hiS])) ?_
            refine WQ.go 5 (ds := [some 126, some 127, some 128, some 129, some 130, some 131, some 132, some 133, some 134, some 135, some 136, some 137, some 138, some 139, some 140, some 141, some 142, some 143, some 144, some 145, some 146, some 147, some 148, some 149, some 150, some 151, some 152, some 153, some 154, some 155, some 156, some 157, some 158]) rfl ?_
            simp only [sx, ty, Bool.false_eq_true, Int.reduceEq, Int.reduceLT, Nat.reduceAdd, Nat.reduceSub, Nat.reduceMul, Nat.reduceLT, Nat.reduceLeDiff, Nat.reduceEqDiff, List.reduceReplicate, reduceIte, sxq, Bool.false_eq_true, beq_self_eq_true, bne_self_eq_false, Int.reduceBEq, Int.reduceBNe, Bool.or_false, Bool.false_or, Bool.not_false, Bool.not_true]
            refine WQ.slc (ds := [some 126, some 127, some 128, some 129, some 130, some 131, some 132, some 133, some 134, some 135, some 136, some 137, some 138, some 139, some 140, some 141, some 142, some 143, some 144, some 145, some 146, some 147, some 148, some 149, some 150, some 151, some 152, some 153, some 154, some 155, some 156, some 157, some 158]) rfl rfl rfl rfl rfl el22 rfl rfl (by simp [loS]) (by simp [loS, hiS]) (by simp [hiS]; omega) ?_
            refine WQ.go 1 (ds := [some 126, some 127, some 128, some 129, some 130, some 131, some 132, some 133, some 134, some 135, some 136, some 137, some 138, some 139, some 140, some 141, some 142, some 143, some 144, some 145, some 146, some 147, some 148, some 149, some 150, some 151, some 152, some 153, some 154, some 155, some 156, some 157, some 158]) rfl ?_
            simp only [sx, ty, Bool.false_eq_true, Int.reduceEq, Int.reduceLT, Nat.reduceAdd, Nat.reduceSub, Nat.reduceMul, Nat.reduceLT, Nat.reduceLeDiff, Nat.reduceEqDiff, List.reduceReplicate, reduceIte, sxq, Bool.false_eq_true, beq_self_eq_true, bne_self_eq_false, Int.reduceBEq, Int.reduceBNe, Bool.or_false, Bool.false_or, Bool.not_false, Bool.not_true]
            refine WQ.slc (ds := [some 126, some 127, some 128, some 129, some 130, some 131, some 132, some 133, some 134, some 135, some 136, some 137, some 138, some 139, some 140, some 141, some 142, some 143, some 144, some 145, some 146, some 147, some 148, some 149, some 150, some 151, some 152, some 153, some 154, some 155, some 156, some 157, some 158]) rfl rfl rfl rfl rfl el23 rfl rfl (by simp [loS]) (by simp [loS, hiS]) (by simp [hiS]; omega) ?_
            simp only [sx, ty, Bool.false_eq_true, Int.reduceEq, Int.reduceLT, Nat.reduceAdd, Nat.reduceSub, Nat.reduceMul, Nat.reduceLT, Nat.reduceLeDiff, Nat.reduceEqDiff, List.reduceReplicate, reduceIte, beq_self_eq_true, bne_self_eq_false, Int.reduceBEq, Int.reduceBNe, Bool.or_false, Bool.false_or, Bool.not_false, Bool.not_true]
            refine WQ.call (.bool true) (ds := [some 126, some 127, some 128, some 129, some 130, some 131, some 132, some 133, some 134, some 135, some 136, some 137, some 138, some 139, some 140, some 141, some 142, some 143, some 144, some 145, some 146, some 147, some 148, some 149, some 150, some 151, some 152, some 153, some 154, some 155, some 156, some 157, some 158]) rfl rfl rfl rfl co16 (fun ρ w1 hb => shaped_costs (ds := [(aloneD ds[m] o)]) (cs := [(aloneC cs[n] o)]) (Rp.keep hr2 (hb.at (by simp))) _ _ _ _ _ _ (by simp [loS, hiS]) (by simp [loS, hiS])) ?_
            refine WQ.go 2 (ds := [some 126, some 127, some 128, some 129, some 130, some 131, some 132, some 133, some 134, some 135, some 136, some 137, some 138, some 139, some 140, some 141, some 142, some 143, some 144, some 145, some 146, some 147, some 148, some 149, some 150, some 151, some 152, some 153, some 154, some 155, some 156, some 157, some 158]) rfl ?_
            simp only [sx, ty, Bool.false_eq_true, Int.reduceEq, Int.reduceLT, Nat.reduceAdd, Nat.reduceSub, Nat.reduceMul, Nat.reduceLT, Nat.reduceLeDiff, Nat.reduceEqDiff, List.reduceReplicate, reduceIte, sxq, Bool.false_eq_true, beq_self_eq_true, bne_self_eq_false, Int.reduceBEq, Int.reduceBNe, Bool.or_false, Bool.false_or, Bool.not_false, Bool.not_true]
            with_reducible refine WQ.nil ?_
            refine hK27 _ ?_; clear hK27
            refine W.cond rfl rfl (fun hc => ?_) (fun hc => ?_)
            · skip
              simp at hc
            · skip
              refine W.skip (hK26 _ ?_)
              refine W.seqK fun K28 hK28 => ?_
              refine W.regionQ mixed (by kernel_rfl) ?_
              refine WQ.go 4 (ds := [some 159, some 160, some 161, some 162, some 163, some 164, some 165, some 166, some 167, some 168, some 169, some 170, some 171, some 172, some 173, some 174, some 175, some 176, some 177, some 178, some 179, some 180, some 181, some 182, some 183, some 184, some 185, some 186, some 187, some 188, some 189, some 190, some 191, some 192, some 193, some 194, some 195, some 196, some 197, some 198, some 199, some 12]) rfl ?_
              simp only [sx, ty, Bool.false_eq_true, Int.reduceEq, Int.reduceLT, Nat.reduceAdd, Nat.reduceSub, Nat.reduceMul, Nat.reduceLT, Nat.reduceLeDiff, Nat.reduceEqDiff, List.reduceReplicate, reduceIte, sxq, Bool.false_eq_true, beq_self_eq_true, bne_self_eq_false, Int.reduceBEq, Int.reduceBNe, Bool.or_false, Bool.false_or, Bool.not_false, Bool.not_true]
              refine WQ.elem (y := (cs.map fun c => costF ds[m] c ((IntKind.i64.wrap hall).tmod 100))) hr1 (by simp [St.put]) (ds := [some 159, some 160, some 161, some 162, some 163, some 164, some 165, some 166, some 167, some 168, some 169, some 170, some 171, some 172, some 173, some 174, some 175, some 176, some 177, some 178, some 179, some 180, some 181, some 182, some 183, some 184, some 185, some 186, some 187, some 188, some 189, some 190, some 191, some 192, some 193, some 194, some 195, some 196, some 197, some 198, some 199, some 12]) rfl rfl rfl (by simp [St.put]) (fun _ => rfl) rfl rfl rfl rfl rfl el26 agg33 sz33 (.inr rfl) (by omega) (costsF_row hml) fun p ces hces => ?_
              obtain ⟨p5, c5, rfl, hq5, hqc5⟩ := rInts_open hces
              have hrow5 := hces
              clear hces
              refine WQ.go 1 (ds := [some 159, some 160, some 161, some 162, some 163, some 164, some 165, some 166, some 167, some 168, some 169, some 170, some 171, some 172, some 173, some 174, some 175, some 176, some 177, some 178, some 179, some 180, some 181, some 182, some 183, some 184, some 185, some 186, some 187, some 188, some 189, some 190, some 191, some 192, some 193, some 194, some 195, some 196, some 197, some 198, some 199, some 12]) rfl ?_
              simp only [sx, ty, Bool.false_eq_true, Int.reduceEq, Int.reduceLT, Nat.reduceAdd, Nat.reduceSub, Nat.reduceMul, Nat.reduceLT, Nat.reduceLeDiff, Nat.reduceEqDiff, List.reduceReplicate, reduceIte, sxq, Bool.false_eq_true, beq_self_eq_true, bne_self_eq_false, Int.reduceBEq, Int.reduceBNe, Bool.or_false, Bool.false_or, Bool.not_false, Bool.not_true]
              refine WQ.elem (y := costF ds[m] cs[n] ((IntKind.i64.wrap hall).tmod 100)) hrow5 (by simp [St.put]) (ds := [some 159, some 160, some 161, some 162, some 163, some 164, some 165, some 166, some 167, some 168, some 169, some 170, some 171, some 172, some 173, some 174, some 175, some 176, some 177, some 178, some 179, some 180, some 181, some 182, some 183, some 184, some 185, some 186, some 187, some 188, some 189, some 190, some 191, some 192, some 193, some 194, some 195, some 196, some 197, some 198, some 199, some 12]) rfl rfl rfl (by simp [St.put]) (fun _ => rfl) rfl rfl rfl rfl rfl el33 agg3 sz3 (.inr rfl) (by omega) (row_get hnl) fun p ces hces => ?_
              obtain rfl := rInt_open hces
              clear hces
              refine WQ.go 1 (ds := [some 159, some 160, some 161, some 162, some 163, some 164, some 165, some 166, some 167, some 168, some 169, some 170, some 171, some 172, some 173, some 174, some 175, some 176, some 177, some 178, some 179, some 180, some 181, some 182, some 183, some 184, some 185, some 186, some 187, some 188, some 189, some 190, some 191, some 192, some 193, some 194, some 195, some 196, some 197, some 198, some 199, some 12]) rfl ?_
              simp only [sx, ty, Bool.false_eq_true, Int.reduceEq, Int.reduceLT, Nat.reduceAdd, Nat.reduceSub, Nat.reduceMul, Nat.reduceLT, Nat.reduceLeDiff, Nat.reduceEqDiff, List.reduceReplicate, reduceIte, sxq, Bool.false_eq_true, beq_self_eq_true, bne_self_eq_false, Int.reduceBEq, Int.reduceBNe, Bool.or_false, Bool.false_or, Bool.not_false, Bool.not_true]
              refine WQ.elem (y := [costF ds[m] cs[n] ((IntKind.i64.wrap hall).tmod 100)]) hr2 (by simp [St.put]) (ds := [some 159, some 160, some 161, some 162, some 163, some 164, some 165, some 166, some 167, some 168, some 169, some 170, some 171, some 172, some 173, some 174, some 175, some 176, some 177, some 178, some 179, some 180, some 181, some 182, some 183, some 184, some 185, some 186, some 187, some 188, some 189, some 190, some 191, some 192, some 193, some 194, some 195, some 196, some 197, some 198, some 199, some 12]) rfl rfl rfl (by simp [St.put]) (fun _ => rfl) rfl rfl rfl rfl rfl el26 agg33 sz33 (.inr rfl) (by omega) (rfl) fun p ces hces => ?_
              obtain ⟨p6, c6, rfl, hq6, hqc6⟩ := rInts_open hces
              have hrow6 := hces
              clear hces
              simp only [sx, ty, Bool.false_eq_true, Int.reduceEq, Int.reduceLT, Nat.reduceAdd, Nat.reduceSub, Nat.reduceMul, Nat.reduceLT, Nat.reduceLeDiff, Nat.reduceEqDiff, List.reduceReplicate, reduceIte, beq_self_eq_true, bne_self_eq_false, Int.reduceBEq, Int.reduceBNe, Bool.or_false, Bool.false_or, Bool.not_false, Bool.not_true]
              refine WQ.elem (y := costF ds[m] cs[n] ((IntKind.i64.wrap hall).tmod 100)) hrow6 (by simp [St.put]) (ds := [some 159, some 160, some 161, some 162, some 163, some 164, some 165, some 166, some 167, some 168, some 169, some 170, some 171, some 172, some 173, some 174, some 175, some 176, some 177, some 178, some 179, some 180, some 181, some 182, some 183, some 184, some 185, some 186, some 187, some 188, some 189, some 190, some 191, some 192, some 193, some 194, some 195, some 196, some 197, some 198, some 199, some 12]) rfl rfl rfl (by simp [St.put]) (fun _ => rfl) rfl rfl rfl rfl rfl el33 agg3 sz3 (.inr rfl) (by omega) (rfl) fun p ces hces => ?_
              obtain rfl := rInt_open hces
              clear hces
              refine WQ.go 5 (ds := [some 159, some 160, some 161, some 162, some 163, some 164, some 165, some 166, some 167, some 168, some 169, some 170, some 171, some 172, some 173, some 174, some 175, some 176, some 177, some 178, some 179, some 180, some 181, some 182, some 183, some 184, some 185, some 186, some 187, some 188, some 189, some 190, some 191, some 192, some 193, some 194, some 195, some 196, some 197, some 198, some 199, some 12]) rfl ?_
              simp only [sx, ty, Bool.false_eq_true, Int.reduceEq, Int.reduceLT, Nat.reduceAdd, Nat.reduceSub, Nat.reduceMul, Nat.reduceLT, Nat.reduceLeDiff, Nat.reduceEqDiff, List.reduceReplicate, reduceIte, sxq, Bool.false_eq_true, beq_self_eq_true, bne_self_eq_false, Int.reduceBEq, Int.reduceBNe, Bool.or_false, Bool.false_or, Bool.not_false, Bool.not_true]
              refine WQ.elem (y := (cs.map fun c => costF ds[m] c ((IntKind.i64.wrap hall).tmod 100))) hr1 (by simp [St.put]) (ds := [some 159, some 160, some 161, some 162, some 163, some 164, some 165, some 166, some 167, some 168, some 169, some 170, some 171, some 172, some 173, some 174, some 175, some 176, some 177, some 178, some 179, some 180, some 181, some 182, some 183, some 184, some 185, some 186, some 187, some 188, some 189, some 190, some 191, some 192, some 193, some 194, some 195, some 196, some 197, some 198, some 199, some 12]) rfl rfl rfl (by simp [St.put]) (fun _ => rfl) rfl rfl rfl rfl rfl el26 agg33 sz33 (.inr rfl) (by omega) (costsF_row hml) fun p ces hces => ?_
              obtain ⟨p7, c7, rfl, hq7, hqc7⟩ := rInts_open hces
              have hrow7 := hces
              clear hces
              refine WQ.go 1 (ds := [some 159, some 160, some 161, some 162, some 163, some 164, some 165, some 166, some 167, some 168, some 169, some 170, some 171, some 172, some 173, some 174, some 175, some 176, some 177, some 178, some 179, some 180, some 181, some 182, some 183, some 184, some 185, some 186, some 187, some 188, some 189, some 190, some 191, some 192, some 193, some 194, some 195, some 196, some 197, some 198, some 199, some 12]) rfl ?_
              simp only [sx, ty, Bool.false_eq_true, Int.reduceEq, Int.reduceLT, Nat.reduceAdd, Nat.reduceSub, Nat.reduceMul, Nat.reduceLT, Nat.reduceLeDiff, Nat.reduceEqDiff, List.reduceReplicate, reduceIte, sxq, Bool.false_eq_true, beq_self_eq_true, bne_self_eq_false, Int.reduceBEq, Int.reduceBNe, Bool.or_false, Bool.false_or, Bool.not_false, Bool.not_true]
              refine WQ.elem (y := costF ds[m] cs[n] ((IntKind.i64.wrap hall).tmod 100)) hrow7 (by simp [St.put]) (ds := [some 159, some 160, some 161, some 162, some 163, some 164, some 165, some 166, some 167, some 168, some 169, some 170, some 171, some 172, some 173, some 174, some 175, some 176, some 177, some 178, some 179, some 180, some 181, some 182, some 183, some 184, some 185, some 186, some 187, some 188, some 189, some 190, some 191, some 192, some 193, some 194, some 195, some 196, some 197, some 198, some 199, some 12]) rfl rfl rfl (by simp [St.put]) (fun _ => rfl) rfl rfl rfl rfl rfl el33 agg3 sz3 (.inr rfl) (by omega) (row_get hnl) fun p ces hces => ?_
              obtain rfl := rInt_open hces
              clear hces
              refine WQ.go 6 (ds := [some 159, some 160, some 161, some 162, some 163, some 164, some 165, some 166, some 167, some 168, some 169, some 170, some 171, some 172, some 173, some 174, some 175, some 176, some 177, some 178, some 179, some 180, some 181, some 182, some 183, some 184, some 185, some 186, some 187, some 188, some 189, some 190, some 191, some 192, some 193, some 194, some 195, some 196, some 197, some 198, some 199, some 12]) rfl ?_
              simp only [sx, ty, Bool.false_eq_true, Int.reduceEq, Int.reduceLT, Nat.reduceAdd, Nat.reduceSub, Nat.reduceMul, Nat.reduceLT, Nat.reduceLeDiff, Nat.reduceEqDiff, List.reduceReplicate, reduceIte, sxq, Bool.false_eq_true, beq_self_eq_true, bne_self_eq_false, Int.reduceBEq, Int.reduceBNe, Bool.or_false, Bool.false_or, Bool.not_false, Bool.not_true]
              rw [wrap_id (x := (ds.length : Int) - 1) (by omega) (by omega), wrap_id (x := (ds.length : Int) - 1 - (m : Int)) (by omega) (by omega), show (ds.length : Int) - 1 - (m : Int) = ((ds.length - 1 - m : Nat) : Int) by omega]
              refine WQ.elem (y := (cs.reverse.map fun c => costF ds[m] c ((IntKind.i64.wrap hall).tmod 100))) hr3 (by simp [St.put]) (ds := [some 159, some 160, some 161, some 162, some 163, some 164, some 165, some 166, some 167, some 168, some 169, some 170, some 171, some 172, some 173, some 174, some 175, some 176, some 177, some 178, some 179, some 180, some 181, some 182, some 183, some 184, some 185, some 186, some 187, some 188, some 189, some 190, some 191, some 192, some 193, some 194, some 195, some 196, some 197, some 198, some 199, some 12]) rfl rfl rfl (by simp [St.put]) (fun _ => rfl) rfl rfl rfl rfl rfl el26 agg33 sz33 (.inr rfl) (by omega) (back_row hml) fun p ces hces => ?_
              obtain ⟨p9, c9, rfl, hq9, hqc9⟩ := rInts_open hces
              have hrow9 := hces
              clear hces
              refine WQ.go 5 (ds := [some 159, some 160, some 161, some 162, some 163, some 164, some 165, some 166, some 167, some 168, some 169, some 170, some 171, some 172, some 173, some 174, some 175, some 176, some 177, some 178, some 179, some 180, some 181, some 182, some 183, some 184, some 185, some 186, some 187, some 188, some 189, some 190, some 191, some 192, some 193, some 194, some 195, some 196, some 197, some 198, some 199, some 12]) rfl ?_
              simp only [sx, ty, Bool.false_eq_true, Int.reduceEq, Int.reduceLT, Nat.reduceAdd, Nat.reduceSub, Nat.reduceMul, Nat.reduceLT, Nat.reduceLeDiff, Nat.reduceEqDiff, List.reduceReplicate, reduceIte, sxq, Bool.false_eq_true, beq_self_eq_true, bne_self_eq_false, Int.reduceBEq, Int.reduceBNe, Bool.or_false, Bool.false_or, Bool.not_false, Bool.not_true]
              rw [wrap_id (x := (cs.length : Int) - 1) (by omega) (by omega), wrap_id (x := (cs.length : Int) - 1 - (n : Int)) (by omega) (by omega), show (cs.length : Int) - 1 - (n : Int) = ((cs.length - 1 - n : Nat) : Int) by omega]
              refine WQ.elem (y := costF ds[m] cs[n] ((IntKind.i64.wrap hall).tmod 100)) hrow9 (by simp [St.put]) (ds := [some 159, some 160, some 161, some 162, some 163, some 164, some 165, some 166, some 167, some 168, some 169, some 170, some 171, some 172, some 173, some 174, some 175, some 176, some 177, some 178, some 179, some 180, some 181, some 182, some 183, some 184, some 185, some 186, some 187, some 188, some 189, some 190, some 191, some 192, some 193, some 194, some 195, some 196, some 197, some 198, some 199, some 12]) rfl rfl rfl (by simp [St.put]) (fun _ => rfl) rfl rfl rfl rfl rfl el33 agg3 sz3 (.inr rfl) (by omega) (back_cell hnl) fun p ces hces => ?_
              obtain rfl := rInt_open hces
              clear hces
              refine WQ.go 3 (ds := [some 159, some 160, some 161, some 162, some 163, some 164, some 165, some 166, some 167, some 168, some 169, some 170, some 171, some 172, some 173, some 174, some 175, some 176, some 177, some 178, some 179, some 180, some 181, some 182, some 183, some 184, some 185, some 186, some 187, some 188, some 189, some 190, some 191, some 192, some 193, some 194, some 195, some 196, some 197, some 198, some 199, some 12]) rfl ?_
              simp only [sx, ty, Bool.false_eq_true, Int.reduceEq, Int.reduceLT, Nat.reduceAdd, Nat.reduceSub, Nat.reduceMul, Nat.reduceLT, Nat.reduceLeDiff, Nat.reduceEqDiff, List.reduceReplicate, reduceIte, sxq, Bool.false_eq_true, beq_self_eq_true, bne_self_eq_false, Int.reduceBEq, Int.reduceBNe, Bool.or_false, Bool.false_or, Bool.not_false, Bool.not_true]
              with_reducible refine WQ.nil ?_
              refine hK28 _ ?_; clear hK28
              refine W.ret ⟨by simp, _, rfl, fun ρ w1 hb => ?_⟩
              rfl
end Go.Proofs.Ytblagioibffgcaa
