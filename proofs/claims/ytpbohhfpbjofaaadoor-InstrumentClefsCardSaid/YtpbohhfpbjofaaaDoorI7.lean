/-
  Instruments: the best clef, orders, octaves: walks.
-/
import Derived.Test.YtpbohhfpbjofaaaDoorI4
import Derived.Test.YtpbohhfpbjofaaaDoorPlainJ
set_option linter.unusedVariables false
set_option linter.unusedSimpArgs false
set_option maxHeartbeats 1000000
namespace Go.Proofs.YtpbohhfpbjofaaaDoor
open Go Go.SX Go.RowKit

theorem rem4 {i : Int} (h : 0 ≤ i ∧ i ≤ 255) : ∃ m : Nat, IntKind.i64.wrap (1 + (IntKind.i64.wrap i).tmod 4) = (m : Int) ∧ 1 ≤ m ∧ m ≤ 4 := by
  have h1 := Int.tmod_nonneg 4 h.1
  have h2 := Int.tmod_lt_of_pos i (show (0 : Int) < 4 by omega)
  rw [wrap_id (x := i) (by omega) (by omega), wrap_id (by omega) (by omega)]
  exact ⟨(1 + i.tmod 4).toNat, by omega, by omega, by omega⟩
theorem u8_range {x : Int} (h : (Lit.int .u8 x).wf = true) : 0 ≤ x ∧ x ≤ 255 := by
  simp [Lit.wf, IntKind.min, IntKind.max, IntKind.signed, IntKind.bits] at h; omega
def okU (l : List Pit) (n : Nat) : Bool := ((l.take n).map upP).all validP
theorem okU_zero (l : List Pit) : okU l 0 = true := rfl
theorem okU_step (l : List Pit) {i : Nat} (h : i < l.length) : okU l (i + 1) = (okU l i && validP (upP l[i])) := by
  unfold okU
  rw [List.take_add_one, List.getElem?_eq_getElem h, Option.toList_some]
  simp only [List.map_append, List.all_append, List.map_cons, List.map_nil, List.all_cons, List.all_nil, Bool.and_true]
theorem okU_all (l : List Pit) : okU l l.length = (l.map upP).all validP := by unfold okU; rw [List.take_length]
theorem back_step (l : List Pit) {i : Nat} (h : i < l.length) : pitsV (l.reverse.take (i + 1)) = pitsV (l.reverse.take i) ++ pitV (l[l.length - 1 - i]'(by omega)) := by
  rw [List.take_add_one, List.getElem?_eq_getElem (by simpa using h), Option.toList_some, pitsV_app, List.getElem_reverse]
  simp [pitsV]
theorem high_step (l : List Pit) {i : Nat} (h : i < l.length) : pitsV ((l.take (i + 1)).map upP) = pitsV ((l.take i).map upP) ++ pitV (upP l[i]) := by
  rw [List.take_add_one, List.getElem?_eq_getElem h, Option.toList_some, List.map_append, pitsV_app]
  simp [pitsV]
theorem clef_err {l : List Pit} (h : l.length ≤ 60) (h2 : (clefF l).2 ≠ 0) : clefF l = (0, 1) := by
  cases hv : l.all validP with
  | false => exact clefF_bad (by omega) hv
  | true => rw [clefF_yes (by omega) hv] at h2; exact absurd rfl h2
theorem clef_good {l : List Pit} (h : l.length ≤ 60) (h2 : (clefF l).2 = 0) : l.all validP = true ∧ clefF l = (((bestN (linesL l) 3 : Nat) : Int), 0) := by
  cases hv : l.all validP with
  | false => rw [clefF_bad (by omega) hv] at h2; simp at h2
  | true => exact ⟨rfl, clefF_yes (by omega) hv⟩
/-- function 7 -/
theorem law5 {S : Nat → Prop} {w : World} (hN : GN w) {v : Value} {l : List Pit} (hl : rPits.rd S w [v] l) (other : Int) (hoth : 0 ≤ other ∧ other ≤ 255) : Gives Tryd.prog 7 #[v, .int .u8 other] w fun r _ => r = .bool true := by
  obtain ⟨p, c0, rfl, hc1, hc2⟩ := Rp.slice_val hl
  have hl : (Rp.slice rPit).rd (fun _ => True) w _ l := Rp.any hl
  have hr := bestN_range (linesL l) 3
  obtain ⟨kk, hkk, hkb⟩ := rem4 hoth
  have hbl := bestN_le (linesL l) 3 kk hkb.1 hkb.2
  have hup := best_up l
  refine gives_of [.val (.slice p l.length c0), .val (.int .u8 other)] 136 [.tmp 4] Tryd.func7 rfl rfl rfl (by simp) rfl rfl ?_
  refine W.pure (ds := []) rfl fun K1 hK1 => ?_
  simp only [sx, ty, Bool.false_eq_true, Int.reduceEq, Int.reduceLT, Nat.reduceAdd, Nat.reduceSub, Nat.reduceMul, Nat.reduceLT, Nat.reduceLeDiff, Nat.reduceEqDiff, List.reduceReplicate, reduceIte, beq_self_eq_true, bne_self_eq_false, Int.reduceBEq, Int.reduceBNe, Bool.or_false, Bool.false_or, Bool.not_false, Bool.not_true]; with_reducible refine hK1 _ ?_; clear hK1
  refine W.seqK fun K2 hK2 => W.region ?_
  refine WO.call (.bool true) (ds := []) rfl rfl rfl rfl co10 (fun ρ w1 hb => head_spec (hN.now (hb.first (by simp)))) ?_
  refine WO.go 1 (ds := []) rfl ?_
  simp only [sx, ty, Bool.false_eq_true, Int.reduceEq, Int.reduceLT, Nat.reduceAdd, Nat.reduceSub, Nat.reduceMul, Nat.reduceLT, Nat.reduceLeDiff, Nat.reduceEqDiff, List.reduceReplicate, reduceIte, beq_self_eq_true, bne_self_eq_false, Int.reduceBEq, Int.reduceBNe, Bool.or_false, Bool.false_or, Bool.not_false, Bool.not_true]
  with_reducible refine WO.nil ?_
  refine hK2 _ ?_; clear hK2
  refine W.seqK fun K3 hK3 => ?_
  refine W.pure (ds := []) rfl fun K4 hK4 => ?_
  simp only [sx, ty, Bool.false_eq_true, Int.reduceEq, Int.reduceLT, Nat.reduceAdd, Nat.reduceSub, Nat.reduceMul, Nat.reduceLT, Nat.reduceLeDiff, Nat.reduceEqDiff, List.reduceReplicate, reduceIte, beq_self_eq_true, bne_self_eq_false, Int.reduceBEq, Int.reduceBNe, Bool.or_false, Bool.false_or, Bool.not_false, Bool.not_true]; with_reducible refine hK4 _ ?_; clear hK4
  refine W.cond rfl rfl (fun hc => ?_) (fun hc => ?_)
  · skip
    refine W.pure (ds := []) rfl fun K5 hK5 => ?_
    simp only [sx, ty, Bool.false_eq_true, Int.reduceEq, Int.reduceLT, Nat.reduceAdd, Nat.reduceSub, Nat.reduceMul, Nat.reduceLT, Nat.reduceLeDiff, Nat.reduceEqDiff, List.reduceReplicate, reduceIte, beq_self_eq_true, bne_self_eq_false, Int.reduceBEq, Int.reduceBNe, Bool.or_false, Bool.false_or, Bool.not_false, Bool.not_true]; with_reducible refine hK5 _ ?_; clear hK5
    refine W.ret ⟨by simp, _, rfl, fun ρ w1 hb => ?_⟩
    rfl
  · skip
    have h60 : l.length ≤ 60 := by simp at hc; omega
    refine W.skip (hK3 _ ?_)
    refine W.seqK fun K6 hK6 => W.region ?_
    refine WO.go 1 (ds := []) rfl ?_
    simp only [sx, ty, Bool.false_eq_true, Int.reduceEq, Int.reduceLT, Nat.reduceAdd, Nat.reduceSub, Nat.reduceMul, Nat.reduceLT, Nat.reduceLeDiff, Nat.reduceEqDiff, List.reduceReplicate, reduceIte, beq_self_eq_true, bne_self_eq_false, Int.reduceBEq, Int.reduceBNe, Bool.or_false, Bool.false_or, Bool.not_false, Bool.not_true]
    refine WO.call (.tuple #[.int .i64 (clefF l).1, .int .i64 (clefF l).2]) (ds := []) rfl rfl rfl rfl co19 (fun ρ w1 hb => iclef_spec (Rp.now hl (hb.first (by simp)))) ?_
    refine WO.go 5 (ds := []) rfl ?_
    simp only [sx, ty, Bool.false_eq_true, Int.reduceEq, Int.reduceLT, Nat.reduceAdd, Nat.reduceSub, Nat.reduceMul, Nat.reduceLT, Nat.reduceLeDiff, Nat.reduceEqDiff, List.reduceReplicate, reduceIte, beq_self_eq_true, bne_self_eq_false, Int.reduceBEq, Int.reduceBNe, Bool.or_false, Bool.false_or, Bool.not_false, Bool.not_true]
    with_reducible refine WO.nil ?_
    refine hK6 _ ?_; clear hK6
    refine W.seqK fun K7 hK7 => ?_
    refine W.pure (ds := []) rfl fun K8 hK8 => ?_
    simp only [sx, ty, Bool.false_eq_true, Int.reduceEq, Int.reduceLT, Nat.reduceAdd, Nat.reduceSub, Nat.reduceMul, Nat.reduceLT, Nat.reduceLeDiff, Nat.reduceEqDiff, List.reduceReplicate, reduceIte, beq_self_eq_true, bne_self_eq_false, Int.reduceBEq, Int.reduceBNe, Bool.or_false, Bool.false_or, Bool.not_false, Bool.not_true]; with_reducible refine hK8 _ ?_; clear hK8
    refine W.cond rfl rfl (fun hc => ?_) (fun hc => ?_)
    · skip
      have hce := clef_err h60 (by simpa using hc)
      simp only [hce]
      refine W.seqK fun K9 hK9 => W.region ?_
      refine WO.go 10 (ds := [some 30, some 31, some 32, some 33, some 34, some 35, some 36, some 37, some 38, some 4]) rfl ?_
      simp only [sx, ty, Bool.false_eq_true, Int.reduceEq, Int.reduceLT, Nat.reduceAdd, Nat.reduceSub, Nat.reduceMul, Nat.reduceLT, Nat.reduceLeDiff, Nat.reduceEqDiff, List.reduceReplicate, reduceIte, beq_self_eq_true, bne_self_eq_false, Int.reduceBEq, Int.reduceBNe, Bool.or_false, Bool.false_or, Bool.not_false, Bool.not_true]
      with_reducible refine WO.nil ?_
      refine hK9 _ ?_; clear hK9
      refine W.ret ⟨by simp, _, rfl, fun ρ w1 hb => ?_⟩
      rfl
    · skip
      obtain ⟨hv, hcg⟩ := clef_good h60 (by simpa using hc)
      simp only [hcg]
      refine W.skip (hK7 _ ?_)
      refine W.pure (ds := []) rfl fun K10 hK10 => ?_
      simp only [sx, ty, Bool.false_eq_true, Int.reduceEq, Int.reduceLT, Nat.reduceAdd, Nat.reduceSub, Nat.reduceMul, Nat.reduceLT, Nat.reduceLeDiff, Nat.reduceEqDiff, List.reduceReplicate, reduceIte, beq_self_eq_true, bne_self_eq_false, Int.reduceBEq, Int.reduceBNe, Bool.or_false, Bool.false_or, Bool.not_false, Bool.not_true]; with_reducible refine hK10 _ ?_; clear hK10
      refine W.pure (ds := []) rfl fun K11 hK11 => ?_
      simp only [sx, ty, Bool.false_eq_true, Int.reduceEq, Int.reduceLT, Nat.reduceAdd, Nat.reduceSub, Nat.reduceMul, Nat.reduceLT, Nat.reduceLeDiff, Nat.reduceEqDiff, List.reduceReplicate, reduceIte, beq_self_eq_true, bne_self_eq_false, Int.reduceBEq, Int.reduceBNe, Bool.or_false, Bool.false_or, Bool.not_false, Bool.not_true]; with_reducible refine hK11 _ ?_; clear hK11
      refine W.seqK fun K12 hK12 => ?_
      refine W.pure (ds := []) rfl fun K13 hK13 => ?_
      simp only [sx, ty, Bool.false_eq_true, Int.reduceEq, Int.reduceLT, Nat.reduceAdd, Nat.reduceSub, Nat.reduceMul, Nat.reduceLT, Nat.reduceLeDiff, Nat.reduceEqDiff, List.reduceReplicate, reduceIte, beq_self_eq_true, bne_self_eq_false, Int.reduceBEq, Int.reduceBNe, Bool.or_false, Bool.false_or, Bool.not_false, Bool.not_true]; with_reducible refine hK13 _ ?_; clear hK13
      refine W.block ?_
      refine W.ownNil 25 3 ?_
      simp only [sx, ty, Bool.false_eq_true, Int.reduceEq, Int.reduceLT, Nat.reduceAdd, Nat.reduceSub, Nat.reduceMul, Nat.reduceLT, Nat.reduceLeDiff, Nat.reduceEqDiff, List.reduceReplicate, reduceIte]
      refine W.ownNil 25 3 ?_
      simp only [sx, ty, Bool.false_eq_true, Int.reduceEq, Int.reduceLT, Nat.reduceAdd, Nat.reduceSub, Nat.reduceMul, Nat.reduceLT, Nat.reduceLeDiff, Nat.reduceEqDiff, List.reduceReplicate, reduceIte]
      refine W.loopO (X := Nat × Option Addr × Nat × Option Addr × Nat) [0, 1, 5, 6, 40] (fun x => [(8, .val (.slice x.2.1 x.1 x.2.2.1)), (9, .val (.slice x.2.2.2.1 x.1 x.2.2.2.2)), (10, .val (.bool (okU l x.1))), (41, .val (.int .i64 x.1))]) (fun x => [.slice 25 3 (.slice x.2.1 x.1 x.2.2.1) x.1 (pitsV (l.reverse.take x.1)), .slice 25 3 (.slice x.2.2.2.1 x.1 x.2.2.2.2) x.1 (pitsV ((l.take x.1).map upP))]) (fun x => [((fun _ => True), w)]) (fun x => x.1 ≤ l.length) (fun x => l.length - x.1) (0, none, 0, none, 0) ?_ ?_ ?_
      · exact ⟨rfl, by simp [getE, bnd, keepE, okU_zero], ⟨[], by simp [pitsV]⟩, by simp [Own.bnd, bndL, bnd, boxO], by simp⟩
      · skip
        exact Nat.zero_le _
      · rintro ⟨i, p3, c3, p4, c4⟩ hi
        simp only at hi
        simp only [sx, ty, Bool.false_eq_true, Int.reduceEq, Int.reduceLT, Nat.reduceAdd, Nat.reduceSub, Nat.reduceMul, Nat.reduceLT, Nat.reduceLeDiff, Nat.reduceEqDiff, List.reduceReplicate, reduceIte, sxk, beq_self_eq_true, bne_self_eq_false, Int.reduceBEq, Int.reduceBNe, Bool.or_false, Bool.false_or, Bool.not_false, Bool.not_true]
        refine W.pure (ds := []) rfl fun K14 hK14 => ?_
        simp only [sx, ty, Bool.false_eq_true, Int.reduceEq, Int.reduceLT, Nat.reduceAdd, Nat.reduceSub, Nat.reduceMul, Nat.reduceLT, Nat.reduceLeDiff, Nat.reduceEqDiff, List.reduceReplicate, reduceIte, beq_self_eq_true, bne_self_eq_false, Int.reduceBEq, Int.reduceBNe, Bool.or_false, Bool.false_or, Bool.not_false, Bool.not_true]; with_reducible refine hK14 _ ?_; clear hK14
        refine W.seqK fun K15 hK15 => ?_
        refine W.cond rfl rfl (fun hc => ?_) (fun hc => ?_)
        · skip
          have hlt : i < l.length := by simpa using hc
          have hwa := wrap_id (x := (l.length : Int) - 1) (by omega) (by omega)
          have hwb := wrap_id (x := (l.length : Int) - 1 - (i : Int)) (by omega) (by omega)
          have hwc : (l.length : Int) - 1 - (i : Int) = ((l.length - 1 - i : Nat) : Int) := by omega
          refine W.skip (hK15 _ ?_)
          refine W.seqK fun K16 hK16 => ?_
          refine W.block ?_
          refine W.pure (ds := []) rfl fun K17 hK17 => ?_
          simp only [sx, ty, Bool.false_eq_true, Int.reduceEq, Int.reduceLT, Nat.reduceAdd, Nat.reduceSub, Nat.reduceMul, Nat.reduceLT, Nat.reduceLeDiff, Nat.reduceEqDiff, List.reduceReplicate, reduceIte, beq_self_eq_true, bne_self_eq_false, Int.reduceBEq, Int.reduceBNe, Bool.or_false, Bool.false_or, Bool.not_false, Bool.not_true]; with_reducible refine hK17 _ ?_; clear hK17
          refine W.seqK fun K18 hK18 => W.region ?_
          refine WO.go 7 (ds := []) rfl ?_
          simp only [sx, ty, Bool.false_eq_true, Int.reduceEq, Int.reduceLT, Nat.reduceAdd, Nat.reduceSub, Nat.reduceMul, Nat.reduceLT, Nat.reduceLeDiff, Nat.reduceEqDiff, List.reduceReplicate, reduceIte, beq_self_eq_true, bne_self_eq_false, Int.reduceBEq, Int.reduceBNe, Bool.or_false, Bool.false_or, Bool.not_false, Bool.not_true]
          rw [hwa, hwb, hwc]
          refine WO.elem (y := (l[l.length - 1 - i]'(by omega))) hl (by simp [St.put]) (ds := []) rfl rfl rfl (by simp [St.put]) (fun _ => rfl) rfl rfl rfl rfl rfl el28 agg25 sz25 (.inl rfl) (by omega) (getIdx l (by omega)) fun p ces hces => ?_
          obtain rfl := rPit_open hces
          clear hces
          refine WO.go 1 (ds := []) rfl ?_
          simp only [sx, ty, Bool.false_eq_true, Int.reduceEq, Int.reduceLT, Nat.reduceAdd, Nat.reduceSub, Nat.reduceMul, Nat.reduceLT, Nat.reduceLeDiff, Nat.reduceEqDiff, List.reduceReplicate, reduceIte, beq_self_eq_true, bne_self_eq_false, Int.reduceBEq, Int.reduceBNe, Bool.or_false, Bool.false_or, Bool.not_false, Bool.not_true]
          refine WO.append (k := 0) (m := 1) [.int .i64 ((l[l.length - 1 - i]'(by omega))).1, .int .i64 ((l[l.length - 1 - i]'(by omega))).2.1, .int .i64 ((l[l.length - 1 - i]'(by omega))).2.2] (ds := []) rfl rfl rfl rfl rfl rfl rfl ek28 (news_own (k2 := 2) rfl fun _ => rfl) rfl (by simp [Value.oneCell', pitV]) (by rw [maxLen_eq]; omega) (by omega) fun q6 q6d => ?_
          refine WO.go 1 (ds := []) rfl ?_
          simp only [sx, ty, Bool.false_eq_true, Int.reduceEq, Int.reduceLT, Nat.reduceAdd, Nat.reduceSub, Nat.reduceMul, Nat.reduceLT, Nat.reduceLeDiff, Nat.reduceEqDiff, List.reduceReplicate, reduceIte, beq_self_eq_true, bne_self_eq_false, Int.reduceBEq, Int.reduceBNe, Bool.or_false, Bool.false_or, Bool.not_false, Bool.not_true]
          with_reducible refine WO.nil ?_
          refine hK18 _ ?_; clear hK18
          refine W.seqK fun K19 hK19 => W.region ?_
          refine WO.go 2 (ds := []) rfl ?_
          simp only [sx, ty, Bool.false_eq_true, Int.reduceEq, Int.reduceLT, Nat.reduceAdd, Nat.reduceSub, Nat.reduceMul, Nat.reduceLT, Nat.reduceLeDiff, Nat.reduceEqDiff, List.reduceReplicate, reduceIte, beq_self_eq_true, bne_self_eq_false, Int.reduceBEq, Int.reduceBNe, Bool.or_false, Bool.false_or, Bool.not_false, Bool.not_true]
          refine WO.elem (y := l[i]) hl (by simp [St.put]) (ds := []) rfl rfl rfl (by simp [St.put]) (fun _ => rfl) rfl rfl rfl rfl rfl el28 agg25 sz25 (.inl rfl) (by omega) (getIdx l hlt) fun p ces hces => ?_
          obtain rfl := rPit_open hces
          clear hces
          have hvi := validP_iff.1 (all_get hv hlt)
          have hwo := wrap_id (x := l[i].2.2 + 1) (by omega) (by omega)
          refine WO.go 2 (ds := []) rfl ?_
          simp only [sx, ty, Bool.false_eq_true, Int.reduceEq, Int.reduceLT, Nat.reduceAdd, Nat.reduceSub, Nat.reduceMul, Nat.reduceLT, Nat.reduceLeDiff, Nat.reduceEqDiff, List.reduceReplicate, reduceIte, beq_self_eq_true, bne_self_eq_false, Int.reduceBEq, Int.reduceBNe, Bool.or_false, Bool.false_or, Bool.not_false, Bool.not_true]
          with_reducible refine WO.nil ?_
          refine hK19 _ ?_; clear hK19
          refine W.pure (ds := []) rfl fun K20 hK20 => ?_
          simp only [sx, ty, Bool.false_eq_true, Int.reduceEq, Int.reduceLT, Nat.reduceAdd, Nat.reduceSub, Nat.reduceMul, Nat.reduceLT, Nat.reduceLeDiff, Nat.reduceEqDiff, List.reduceReplicate, reduceIte, beq_self_eq_true, bne_self_eq_false, Int.reduceBEq, Int.reduceBNe, Bool.or_false, Bool.false_or, Bool.not_false, Bool.not_true]; with_reducible refine hK20 _ ?_; clear hK20
          refine W.seqK fun K21 hK21 => W.region ?_
          refine WO.go 3 (ds := []) rfl ?_
          simp only [sx, ty, Bool.false_eq_true, Int.reduceEq, Int.reduceLT, Nat.reduceAdd, Nat.reduceSub, Nat.reduceMul, Nat.reduceLT, Nat.reduceLeDiff, Nat.reduceEqDiff, List.reduceReplicate, reduceIte, beq_self_eq_true, bne_self_eq_false, Int.reduceBEq, Int.reduceBNe, Bool.or_false, Bool.false_or, Bool.not_false, Bool.not_true]
          rw [hwo]
          refine WO.append (k := 1) (m := 1) [.int .i64 (upP l[i]).1, .int .i64 (upP l[i]).2.1, .int .i64 (upP l[i]).2.2] (ds := []) rfl rfl rfl rfl rfl rfl rfl ek28 (news_own (k2 := 4) rfl fun _ => rfl) rfl (by simp [Value.oneCell', pitV]) (by rw [maxLen_eq]; omega) (by omega) fun q7 q7d => ?_
          refine WO.go 1 (ds := []) rfl ?_
          simp only [sx, ty, Bool.false_eq_true, Int.reduceEq, Int.reduceLT, Nat.reduceAdd, Nat.reduceSub, Nat.reduceMul, Nat.reduceLT, Nat.reduceLeDiff, Nat.reduceEqDiff, List.reduceReplicate, reduceIte, beq_self_eq_true, bne_self_eq_false, Int.reduceBEq, Int.reduceBNe, Bool.or_false, Bool.false_or, Bool.not_false, Bool.not_true]
          with_reducible refine WO.nil ?_
          refine hK21 _ ?_; clear hK21
          refine W.region ?_
          refine WO.go 2 (ds := [some 67, some 68, some 69, some 70, some 71, some 10]) rfl ?_
          simp only [sx, ty, Bool.false_eq_true, Int.reduceEq, Int.reduceLT, Nat.reduceAdd, Nat.reduceSub, Nat.reduceMul, Nat.reduceLT, Nat.reduceLeDiff, Nat.reduceEqDiff, List.reduceReplicate, reduceIte, beq_self_eq_true, bne_self_eq_false, Int.reduceBEq, Int.reduceBNe, Bool.or_false, Bool.false_or, Bool.not_false, Bool.not_true]
          refine WO.cases 68 _ rfl (fun hg68 => ?_) (fun hg68 => ?_)
          · skip
            have hou : okU l i = true := hg68
            refine WO.go 1 (ds := [some 67, some 68, some 69, some 70, some 71, some 10]) rfl ?_
            simp only [sx, ty, Bool.false_eq_true, Int.reduceEq, Int.reduceLT, Nat.reduceAdd, Nat.reduceSub, Nat.reduceMul, Nat.reduceLT, Nat.reduceLeDiff, Nat.reduceEqDiff, List.reduceReplicate, reduceIte, beq_self_eq_true, bne_self_eq_false, Int.reduceBEq, Int.reduceBNe, Bool.or_false, Bool.false_or, Bool.not_false, Bool.not_true]
            refine WO.call (.bool (validP (upP l[i]))) (ds := [some 67, some 68, some 69, some 70, some 71, some 10]) rfl rfl rfl rfl co23 (fun ρ w1 hb => r2valid_spec w1 (upP l[i])) ?_
            refine WO.go 2 (ds := [some 67, some 68, some 69, some 70, some 71, some 10]) rfl ?_
            simp only [sx, ty, Bool.false_eq_true, Int.reduceEq, Int.reduceLT, Nat.reduceAdd, Nat.reduceSub, Nat.reduceMul, Nat.reduceLT, Nat.reduceLeDiff, Nat.reduceEqDiff, List.reduceReplicate, reduceIte, beq_self_eq_true, bne_self_eq_false, Int.reduceBEq, Int.reduceBNe, Bool.or_false, Bool.false_or, Bool.not_false, Bool.not_true]
            with_reducible refine WO.nil ?_
            refine hK16 _ ?_
            refine W.region ?_
            refine WO.go 2 (ds := []) rfl ?_
            simp only [sx, ty, Bool.false_eq_true, Int.reduceEq, Int.reduceLT, Nat.reduceAdd, Nat.reduceSub, Nat.reduceMul, Nat.reduceLT, Nat.reduceLeDiff, Nat.reduceEqDiff, List.reduceReplicate, reduceIte, beq_self_eq_true, bne_self_eq_false, Int.reduceBEq, Int.reduceBNe, Bool.or_false, Bool.false_or, Bool.not_false, Bool.not_true]
            with_reducible refine WO.nil ?_
            refine ⟨(i + 1, q6, q6d, q7, q7d), hlt, by simp only; omega, rfl, by simp [getE, bnd, keepE, wrap_succ (show i + 1 ≤ 9223372036854775807 by omega), okU_step l hlt, hou], ⟨_, by simp only [back_step l hlt, high_step l hlt]; rfl⟩, by simp [Own.bnd, bndL, bnd], by simp⟩
          · skip
            have hou : okU l i = false := by simpa using hg68
            refine WO.go 4 (ds := [some 67, some 68, some 69, some 70, some 71, some 10]) rfl ?_
            simp only [sx, ty, Bool.false_eq_true, Int.reduceEq, Int.reduceLT, Nat.reduceAdd, Nat.reduceSub, Nat.reduceMul, Nat.reduceLT, Nat.reduceLeDiff, Nat.reduceEqDiff, List.reduceReplicate, reduceIte, beq_self_eq_true, bne_self_eq_false, Int.reduceBEq, Int.reduceBNe, Bool.or_false, Bool.false_or, Bool.not_false, Bool.not_true]
            with_reducible refine WO.nil ?_
            refine hK16 _ ?_
            refine W.region ?_
            refine WO.go 2 (ds := []) rfl ?_
            simp only [sx, ty, Bool.false_eq_true, Int.reduceEq, Int.reduceLT, Nat.reduceAdd, Nat.reduceSub, Nat.reduceMul, Nat.reduceLT, Nat.reduceLeDiff, Nat.reduceEqDiff, List.reduceReplicate, reduceIte, beq_self_eq_true, bne_self_eq_false, Int.reduceBEq, Int.reduceBNe, Bool.or_false, Bool.false_or, Bool.not_false, Bool.not_true]
            with_reducible refine WO.nil ?_
            refine ⟨(i + 1, q6, q6d, q7, q7d), hlt, by simp only; omega, rfl, by simp [getE, bnd, keepE, wrap_succ (show i + 1 ≤ 9223372036854775807 by omega), okU_step l hlt, hou], ⟨_, by simp only [back_step l hlt, high_step l hlt]; rfl⟩, by simp [Own.bnd, bndL, bnd], by simp⟩
        · skip
          obtain rfl : i = l.length := Nat.le_antisymm hi (by simpa using hc)
          refine W.exit (hK12 _ ?_)
          refine W.seqK fun K22 hK22 => W.region ?_
          refine WO.go 1 (ds := []) rfl ?_
          simp only [sx, ty, Bool.false_eq_true, Int.reduceEq, Int.reduceLT, Nat.reduceAdd, Nat.reduceSub, Nat.reduceMul, Nat.reduceLT, Nat.reduceLeDiff, Nat.reduceEqDiff, List.reduceReplicate, reduceIte, beq_self_eq_true, bne_self_eq_false, Int.reduceBEq, Int.reduceBNe, Bool.or_false, Bool.false_or, Bool.not_false, Bool.not_true]
          refine WO.call (.tuple #[.int .i64 ((bestN (linesL l) 3 : Nat) : Int), .int .i64 0]) (ds := []) rfl rfl rfl rfl co19 (fun ρ w1 hb => by have := iclef_spec (S := fun _ => True) (l := l.reverse) (own_slice (A := rPit) (S := fun _ => True) (k := 0) hb rfl (by simp) (fun _ _ => trivial) (by rw [List.take_of_length_le (by simp)]; exact pits_read _)); rw [clefF_rev, hcg] at this; exact this) ?_
          refine WO.go 5 (ds := []) rfl ?_
          simp only [sx, ty, Bool.false_eq_true, Int.reduceEq, Int.reduceLT, Nat.reduceAdd, Nat.reduceSub, Nat.reduceMul, Nat.reduceLT, Nat.reduceLeDiff, Nat.reduceEqDiff, List.reduceReplicate, reduceIte, beq_self_eq_true, bne_self_eq_false, Int.reduceBEq, Int.reduceBNe, Bool.or_false, Bool.false_or, Bool.not_false, Bool.not_true]
          with_reducible refine WO.nil ?_
          refine hK22 _ ?_; clear hK22
          refine W.seqK fun K23 hK23 => ?_
          refine W.join 92 (.val (.bool false)) [0, 1, 5, 6, 9, 10] (W.region ?_) ?_
          · skip
            refine WO.go 3 (ds := [some 78, some 79, some 80, some 81, some 82, some 83, some 84, some 85, some 86, some 87, some 88, some 89, some 90, some 91, some 92]) rfl ?_
            simp only [sx, ty, Bool.false_eq_true, Int.reduceEq, Int.reduceLT, Nat.reduceAdd, Nat.reduceSub, Nat.reduceMul, Nat.reduceLT, Nat.reduceLeDiff, Nat.reduceEqDiff, List.reduceReplicate, reduceIte, beq_self_eq_true, bne_self_eq_false, Int.reduceBEq, Int.reduceBNe, Bool.or_false, Bool.false_or, Bool.not_false, Bool.not_true]
            refine WO.cases 80 _ rfl (fun hg80 => ?_) (fun hg80 => ?_)
            · skip
              refine WO.go 12 (ds := [some 78, some 79, some 80, some 81, some 82, some 83, some 84, some 85, some 86, some 87, some 88, some 89, some 90, some 91, some 92]) rfl ?_
              simp only [sx, ty, Bool.false_eq_true, Int.reduceEq, Int.reduceLT, Nat.reduceAdd, Nat.reduceSub, Nat.reduceMul, Nat.reduceLT, Nat.reduceLeDiff, Nat.reduceEqDiff, List.reduceReplicate, reduceIte, beq_self_eq_true, bne_self_eq_false, Int.reduceBEq, Int.reduceBNe, Bool.or_false, Bool.false_or, Bool.not_false, Bool.not_true]
              with_reducible refine WO.nil ?_
              refine ⟨rfl, ?_, ⟨_, rfl⟩, by simp [Own.bnd, bndL, bnd, boxO], by simp⟩
              try rw [hg80]
              try rw [hg85]
              try rw [hg89]
              simp [getE, bnd, keepE]
              try simp_all
              try omega
            · skip
              refine WO.go 5 (ds := [some 78, some 79, some 80, some 81, some 82, some 83, some 84, some 85, some 86, some 87, some 88, some 89, some 90, some 91, some 92]) rfl ?_
              simp only [sx, ty, Bool.false_eq_true, Int.reduceEq, Int.reduceLT, Nat.reduceAdd, Nat.reduceSub, Nat.reduceMul, Nat.reduceLT, Nat.reduceLeDiff, Nat.reduceEqDiff, List.reduceReplicate, reduceIte, beq_self_eq_true, bne_self_eq_false, Int.reduceBEq, Int.reduceBNe, Bool.or_false, Bool.false_or, Bool.not_false, Bool.not_true]
              refine WO.cases 85 _ rfl (fun hg85 => ?_) (fun hg85 => ?_)
              · skip
                refine WO.go 7 (ds := [some 78, some 79, some 80, some 81, some 82, some 83, some 84, some 85, some 86, some 87, some 88, some 89, some 90, some 91, some 92]) rfl ?_
                simp only [sx, ty, Bool.false_eq_true, Int.reduceEq, Int.reduceLT, Nat.reduceAdd, Nat.reduceSub, Nat.reduceMul, Nat.reduceLT, Nat.reduceLeDiff, Nat.reduceEqDiff, List.reduceReplicate, reduceIte, beq_self_eq_true, bne_self_eq_false, Int.reduceBEq, Int.reduceBNe, Bool.or_false, Bool.false_or, Bool.not_false, Bool.not_true]
                with_reducible refine WO.nil ?_
                refine ⟨rfl, ?_, ⟨_, rfl⟩, by simp [Own.bnd, bndL, bnd, boxO], by simp⟩
                try rw [hg80]
                try rw [hg85]
                try rw [hg89]
                simp [getE, bnd, keepE]
                try simp_all
                try omega
              · skip
                refine WO.go 4 (ds := [some 78, some 79, some 80, some 81, some 82, some 83, some 84, some 85, some 86, some 87, some 88, some 89, some 90, some 91, some 92]) rfl ?_
                simp only [sx, ty, Bool.false_eq_true, Int.reduceEq, Int.reduceLT, Nat.reduceAdd, Nat.reduceSub, Nat.reduceMul, Nat.reduceLT, Nat.reduceLeDiff, Nat.reduceEqDiff, List.reduceReplicate, reduceIte, beq_self_eq_true, bne_self_eq_false, Int.reduceBEq, Int.reduceBNe, Bool.or_false, Bool.false_or, Bool.not_false, Bool.not_true]
                refine WO.cases 89 _ rfl (fun hg89 => ?_) (fun hg89 => ?_)
                · skip
                  refine WO.go 3 (ds := [some 78, some 79, some 80, some 81, some 82, some 83, some 84, some 85, some 86, some 87, some 88, some 89, some 90, some 91, some 92]) rfl ?_
                  simp only [sx, ty, Bool.false_eq_true, Int.reduceEq, Int.reduceLT, Nat.reduceAdd, Nat.reduceSub, Nat.reduceMul, Nat.reduceLT, Nat.reduceLeDiff, Nat.reduceEqDiff, List.reduceReplicate, reduceIte, beq_self_eq_true, bne_self_eq_false, Int.reduceBEq, Int.reduceBNe, Bool.or_false, Bool.false_or, Bool.not_false, Bool.not_true]
                  with_reducible refine WO.nil ?_
                  refine ⟨rfl, ?_, ⟨_, rfl⟩, by simp [Own.bnd, bndL, bnd, boxO], by simp⟩
                  try rw [hg80]
                  try rw [hg85]
                  try rw [hg89]
                  simp [getE, bnd, keepE]
                  try simp_all
                  try omega
                · skip
                  refine WO.go 3 (ds := [some 78, some 79, some 80, some 81, some 82, some 83, some 84, some 85, some 86, some 87, some 88, some 89, some 90, some 91, some 92]) rfl ?_
                  simp only [sx, ty, Bool.false_eq_true, Int.reduceEq, Int.reduceLT, Nat.reduceAdd, Nat.reduceSub, Nat.reduceMul, Nat.reduceLT, Nat.reduceLeDiff, Nat.reduceEqDiff, List.reduceReplicate, reduceIte, beq_self_eq_true, bne_self_eq_false, Int.reduceBEq, Int.reduceBNe, Bool.or_false, Bool.false_or, Bool.not_false, Bool.not_true]
                  with_reducible refine WO.nil ?_
                  refine ⟨rfl, ?_, ⟨_, rfl⟩, by simp [Own.bnd, bndL, bnd, boxO], by simp⟩
                  try rw [hg80]
                  try rw [hg85]
                  try rw [hg89]
                  simp [getE, bnd, keepE]
                  try simp_all
                  try omega
          · simp only [sx, ty, Bool.false_eq_true, Int.reduceEq, Int.reduceLT, Nat.reduceAdd, Nat.reduceSub, Nat.reduceMul, Nat.reduceLT, Nat.reduceLeDiff, Nat.reduceEqDiff, List.reduceReplicate, reduceIte, sxk, beq_self_eq_true, bne_self_eq_false, Int.reduceBEq, Int.reduceBNe, Bool.or_false, Bool.false_or, Bool.not_false, Bool.not_true]
            refine W.cond rfl rfl (fun hc => ?_) (fun hc => ?_)
            · skip
              simp at hc
            · skip
              refine W.skip (hK23 _ ?_)
              refine W.pure (ds := []) rfl fun K25 hK25 => ?_
              simp only [sx, ty, Bool.false_eq_true, Int.reduceEq, Int.reduceLT, Nat.reduceAdd, Nat.reduceSub, Nat.reduceMul, Nat.reduceLT, Nat.reduceLeDiff, Nat.reduceEqDiff, List.reduceReplicate, reduceIte, beq_self_eq_true, bne_self_eq_false, Int.reduceBEq, Int.reduceBNe, Bool.or_false, Bool.false_or, Bool.not_false, Bool.not_true]; with_reducible refine hK25 _ ?_; clear hK25
              refine W.seqK fun K26 hK26 => ?_
              simp only [hkk]
              refine W.join 117 (.val (.bool false)) [5, 6, 9, 10] (W.region ?_) ?_
              · skip
                refine WO.go 2 (ds := [some 97, some 98, some 99, some 100, some 101, some 102, some 103, some 104, some 105, some 106, some 107, some 108, some 109, some 110, some 111, some 112, some 113, some 114, some 115, some 116, some 117]) rfl ?_
                simp only [sx, ty, Bool.false_eq_true, Int.reduceEq, Int.reduceLT, Nat.reduceAdd, Nat.reduceSub, Nat.reduceMul, Nat.reduceLT, Nat.reduceLeDiff, Nat.reduceEqDiff, List.reduceReplicate, reduceIte, beq_self_eq_true, bne_self_eq_false, Int.reduceBEq, Int.reduceBNe, Bool.or_false, Bool.false_or, Bool.not_false, Bool.not_true]
                refine WO.call (.int .i64 (linesL l kk)) (ds := [some 97, some 98, some 99, some 100, some 101, some 102, some 103, some 104, some 105, some 106, some 107, some 108, some 109, some 110, some 111, some 112, some 113, some 114, some 115, some 116, some 117]) rfl rfl rfl rfl co28 (fun ρ w1 hb => rlines_spec (Rp.now hl (hb.first (by simp))) hv (by omega) kk hkb) ?_
                refine WO.go 2 (ds := [some 97, some 98, some 99, some 100, some 101, some 102, some 103, some 104, some 105, some 106, some 107, some 108, some 109, some 110, some 111, some 112, some 113, some 114, some 115, some 116, some 117]) rfl ?_
                simp only [sx, ty, Bool.false_eq_true, Int.reduceEq, Int.reduceLT, Nat.reduceAdd, Nat.reduceSub, Nat.reduceMul, Nat.reduceLT, Nat.reduceLeDiff, Nat.reduceEqDiff, List.reduceReplicate, reduceIte, beq_self_eq_true, bne_self_eq_false, Int.reduceBEq, Int.reduceBNe, Bool.or_false, Bool.false_or, Bool.not_false, Bool.not_true]
                refine WO.call (.int .i64 (linesL l (bestN (linesL l) 3))) (ds := [some 97, some 98, some 99, some 100, some 101, some 102, some 103, some 104, some 105, some 106, some 107, some 108, some 109, some 110, some 111, some 112, some 113, some 114, some 115, some 116, some 117]) rfl rfl rfl rfl co28 (fun ρ w1 hb => rlines_spec (Rp.now hl (hb.first (by simp))) hv (by omega) _ hr) ?_
                refine WO.go 2 (ds := [some 97, some 98, some 99, some 100, some 101, some 102, some 103, some 104, some 105, some 106, some 107, some 108, some 109, some 110, some 111, some 112, some 113, some 114, some 115, some 116, some 117]) rfl ?_
                simp only [sx, ty, Bool.false_eq_true, Int.reduceEq, Int.reduceLT, Nat.reduceAdd, Nat.reduceSub, Nat.reduceMul, Nat.reduceLT, Nat.reduceLeDiff, Nat.reduceEqDiff, List.reduceReplicate, reduceIte, beq_self_eq_true, bne_self_eq_false, Int.reduceBEq, Int.reduceBNe, Bool.or_false, Bool.false_or, Bool.not_false, Bool.not_true]
                refine WO.cases 104 _ rfl (fun hg104 => ?_) (fun hg104 => ?_)
                · skip
                  refine WO.go 13 (ds := [some 97, some 98, some 99, some 100, some 101, some 102, some 103, some 104, some 105, some 106, some 107, some 108, some 109, some 110, some 111, some 112, some 113, some 114, some 115, some 116, some 117]) rfl ?_
                  simp only [sx, ty, Bool.false_eq_true, Int.reduceEq, Int.reduceLT, Nat.reduceAdd, Nat.reduceSub, Nat.reduceMul, Nat.reduceLT, Nat.reduceLeDiff, Nat.reduceEqDiff, List.reduceReplicate, reduceIte, beq_self_eq_true, bne_self_eq_false, Int.reduceBEq, Int.reduceBNe, Bool.or_false, Bool.false_or, Bool.not_false, Bool.not_true]
                  with_reducible refine WO.nil ?_
                  refine ⟨rfl, ?_, ⟨_, rfl⟩, by simp [Own.bnd, bndL, bnd, boxO], by simp⟩
                  try rw [hg104]
                  try rw [hg108]
                  simp [getE, bnd, keepE]
                  try simp_all
                  try omega
                · skip
                  refine WO.go 4 (ds := [some 97, some 98, some 99, some 100, some 101, some 102, some 103, some 104, some 105, some 106, some 107, some 108, some 109, some 110, some 111, some 112, some 113, some 114, some 115, some 116, some 117]) rfl ?_
                  simp only [sx, ty, Bool.false_eq_true, Int.reduceEq, Int.reduceLT, Nat.reduceAdd, Nat.reduceSub, Nat.reduceMul, Nat.reduceLT, Nat.reduceLeDiff, Nat.reduceEqDiff, List.reduceReplicate, reduceIte, beq_self_eq_true, bne_self_eq_false, Int.reduceBEq, Int.reduceBNe, Bool.or_false, Bool.false_or, Bool.not_false, Bool.not_true]
                  refine WO.cases 108 _ rfl (fun hg108 => ?_) (fun hg108 => ?_)
                  · skip
                    refine WO.go 2 (ds := [some 97, some 98, some 99, some 100, some 101, some 102, some 103, some 104, some 105, some 106, some 107, some 108, some 109, some 110, some 111, some 112, some 113, some 114, some 115, some 116, some 117]) rfl ?_
                    simp only [sx, ty, Bool.false_eq_true, Int.reduceEq, Int.reduceLT, Nat.reduceAdd, Nat.reduceSub, Nat.reduceMul, Nat.reduceLT, Nat.reduceLeDiff, Nat.reduceEqDiff, List.reduceReplicate, reduceIte, beq_self_eq_true, bne_self_eq_false, Int.reduceBEq, Int.reduceBNe, Bool.or_false, Bool.false_or, Bool.not_false, Bool.not_true]
                    refine WO.call (.int .i64 (linesL l kk)) (ds := [some 97, some 98, some 99, some 100, some 101, some 102, some 103, some 104, some 105, some 106, some 107, some 108, some 109, some 110, some 111, some 112, some 113, some 114, some 115, some 116, some 117]) rfl rfl rfl rfl co28 (fun ρ w1 hb => rlines_spec (Rp.now hl (hb.first (by simp))) hv (by omega) kk hkb) ?_
                    refine WO.go 2 (ds := [some 97, some 98, some 99, some 100, some 101, some 102, some 103, some 104, some 105, some 106, some 107, some 108, some 109, some 110, some 111, some 112, some 113, some 114, some 115, some 116, some 117]) rfl ?_
                    simp only [sx, ty, Bool.false_eq_true, Int.reduceEq, Int.reduceLT, Nat.reduceAdd, Nat.reduceSub, Nat.reduceMul, Nat.reduceLT, Nat.reduceLeDiff, Nat.reduceEqDiff, List.reduceReplicate, reduceIte, beq_self_eq_true, bne_self_eq_false, Int.reduceBEq, Int.reduceBNe, Bool.or_false, Bool.false_or, Bool.not_false, Bool.not_true]
                    refine WO.call (.int .i64 (linesL l (bestN (linesL l) 3))) (ds := [some 97, some 98, some 99, some 100, some 101, some 102, some 103, some 104, some 105, some 106, some 107, some 108, some 109, some 110, some 111, some 112, some 113, some 114, some 115, some 116, some 117]) rfl rfl rfl rfl co28 (fun ρ w1 hb => rlines_spec (Rp.now hl (hb.first (by simp))) hv (by omega) _ hr) ?_
                    refine WO.go 3 (ds := [some 97, some 98, some 99, some 100, some 101, some 102, some 103, some 104, some 105, some 106, some 107, some 108, some 109, some 110, some 111, some 112, some 113, some 114, some 115, some 116, some 117]) rfl ?_
                    simp only [sx, ty, Bool.false_eq_true, Int.reduceEq, Int.reduceLT, Nat.reduceAdd, Nat.reduceSub, Nat.reduceMul, Nat.reduceLT, Nat.reduceLeDiff, Nat.reduceEqDiff, List.reduceReplicate, reduceIte, beq_self_eq_true, bne_self_eq_false, Int.reduceBEq, Int.reduceBNe, Bool.or_false, Bool.false_or, Bool.not_false, Bool.not_true]
                    with_reducible refine WO.nil ?_
                    refine ⟨rfl, ?_, ⟨_, rfl⟩, by simp [Own.bnd, bndL, bnd, boxO], by simp⟩
                    try rw [hg104]
                    try rw [hg108]
                    simp [getE, bnd, keepE]
                    try simp_all
                    try omega
                  · skip
                    refine WO.go 9 (ds := [some 97, some 98, some 99, some 100, some 101, some 102, some 103, some 104, some 105, some 106, some 107, some 108, some 109, some 110, some 111, some 112, some 113, some 114, some 115, some 116, some 117]) rfl ?_
                    simp only [sx, ty, Bool.false_eq_true, Int.reduceEq, Int.reduceLT, Nat.reduceAdd, Nat.reduceSub, Nat.reduceMul, Nat.reduceLT, Nat.reduceLeDiff, Nat.reduceEqDiff, List.reduceReplicate, reduceIte, beq_self_eq_true, bne_self_eq_false, Int.reduceBEq, Int.reduceBNe, Bool.or_false, Bool.false_or, Bool.not_false, Bool.not_true]
                    with_reducible refine WO.nil ?_
                    refine ⟨rfl, ?_, ⟨_, rfl⟩, by simp [Own.bnd, bndL, bnd, boxO], by simp⟩
                    try rw [hg104]
                    try rw [hg108]
                    simp [getE, bnd, keepE]
                    try simp_all
                    try omega
              · simp only [sx, ty, Bool.false_eq_true, Int.reduceEq, Int.reduceLT, Nat.reduceAdd, Nat.reduceSub, Nat.reduceMul, Nat.reduceLT, Nat.reduceLeDiff, Nat.reduceEqDiff, List.reduceReplicate, reduceIte, sxk, beq_self_eq_true, bne_self_eq_false, Int.reduceBEq, Int.reduceBNe, Bool.or_false, Bool.false_or, Bool.not_false, Bool.not_true]
                refine W.cond rfl rfl (fun hc => ?_) (fun hc => ?_)
                · skip
                  simp at hc
                · skip
                  refine W.skip (hK26 _ ?_)
                  refine W.seqK fun K28 hK28 => ?_
                  refine W.pure (ds := []) rfl fun K29 hK29 => ?_
                  simp only [sx, ty, Bool.false_eq_true, Int.reduceEq, Int.reduceLT, Nat.reduceAdd, Nat.reduceSub, Nat.reduceMul, Nat.reduceLT, Nat.reduceLeDiff, Nat.reduceEqDiff, List.reduceReplicate, reduceIte, beq_self_eq_true, bne_self_eq_false, Int.reduceBEq, Int.reduceBNe, Bool.or_false, Bool.false_or, Bool.not_false, Bool.not_true]; with_reducible refine hK29 _ ?_; clear hK29
                  refine W.cond rfl rfl (fun hc => ?_) (fun hc => ?_)
                  · skip
                    refine W.pure (ds := []) rfl fun K30 hK30 => ?_
                    simp only [sx, ty, Bool.false_eq_true, Int.reduceEq, Int.reduceLT, Nat.reduceAdd, Nat.reduceSub, Nat.reduceMul, Nat.reduceLT, Nat.reduceLeDiff, Nat.reduceEqDiff, List.reduceReplicate, reduceIte, beq_self_eq_true, bne_self_eq_false, Int.reduceBEq, Int.reduceBNe, Bool.or_false, Bool.false_or, Bool.not_false, Bool.not_true]; with_reducible refine hK30 _ ?_; clear hK30
                    refine W.ret ⟨by simp, _, rfl, fun ρ w1 hb => ?_⟩
                    rfl
                  · skip
                    have hou : okU l l.length = true := by simpa using hc
                    rw [okU_all] at hou
                    refine W.skip (hK28 _ ?_)
                    refine W.seqK fun K31 hK31 => W.region ?_
                    refine WO.go 1 (ds := []) rfl ?_
                    simp only [sx, ty, Bool.false_eq_true, Int.reduceEq, Int.reduceLT, Nat.reduceAdd, Nat.reduceSub, Nat.reduceMul, Nat.reduceLT, Nat.reduceLeDiff, Nat.reduceEqDiff, List.reduceReplicate, reduceIte, beq_self_eq_true, bne_self_eq_false, Int.reduceBEq, Int.reduceBNe, Bool.or_false, Bool.false_or, Bool.not_false, Bool.not_true]
                    refine WO.call (.tuple #[.int .i64 ((bestN (linesL (l.map upP)) 3 : Nat) : Int), .int .i64 0]) (ds := []) rfl rfl rfl rfl co19 (fun ρ w1 hb => by have := iclef_spec (S := fun _ => True) (l := l.map upP) (own_slice (A := rPit) (S := fun _ => True) (k := 1) hb rfl (by simp) (fun _ _ => trivial) (by rw [List.take_length]; exact pits_read _)); rw [clefF_yes (by rw [List.length_map]; omega) hou] at this; exact this) ?_
                    refine WO.go 5 (ds := []) rfl ?_
                    simp only [sx, ty, Bool.false_eq_true, Int.reduceEq, Int.reduceLT, Nat.reduceAdd, Nat.reduceSub, Nat.reduceMul, Nat.reduceLT, Nat.reduceLeDiff, Nat.reduceEqDiff, List.reduceReplicate, reduceIte, beq_self_eq_true, bne_self_eq_false, Int.reduceBEq, Int.reduceBNe, Bool.or_false, Bool.false_or, Bool.not_false, Bool.not_true]
                    with_reducible refine WO.nil ?_
                    refine hK31 _ ?_; clear hK31
                    refine W.join 4 (.val (.bool true)) [] (W.region ?_) ?_
                    · skip
                      refine WO.go 2 (ds := [some 126, some 127, some 128, some 129, some 130, some 131, some 132, some 133, some 134, some 135, some 4]) rfl ?_
                      simp only [sx, ty, Bool.false_eq_true, Int.reduceEq, Int.reduceLT, Nat.reduceAdd, Nat.reduceSub, Nat.reduceMul, Nat.reduceLT, Nat.reduceLeDiff, Nat.reduceEqDiff, List.reduceReplicate, reduceIte, beq_self_eq_true, bne_self_eq_false, Int.reduceBEq, Int.reduceBNe, Bool.or_false, Bool.false_or, Bool.not_false, Bool.not_true]
                      refine WO.cases 127 _ rfl (fun hg127 => ?_) (fun hg127 => ?_)
                      · skip
                        refine WO.go 4 (ds := [some 126, some 127, some 128, some 129, some 130, some 131, some 132, some 133, some 134, some 135, some 4]) rfl ?_
                        simp only [sx, ty, Bool.false_eq_true, Int.reduceEq, Int.reduceLT, Nat.reduceAdd, Nat.reduceSub, Nat.reduceMul, Nat.reduceLT, Nat.reduceLeDiff, Nat.reduceEqDiff, List.reduceReplicate, reduceIte, beq_self_eq_true, bne_self_eq_false, Int.reduceBEq, Int.reduceBNe, Bool.or_false, Bool.false_or, Bool.not_false, Bool.not_true]
                        refine WO.cases 131 _ rfl (fun hg131 => ?_) (fun hg131 => ?_)
                        · skip
                          refine WO.go 5 (ds := [some 126, some 127, some 128, some 129, some 130, some 131, some 132, some 133, some 134, some 135, some 4]) rfl ?_
                          simp only [sx, ty, Bool.false_eq_true, Int.reduceEq, Int.reduceLT, Nat.reduceAdd, Nat.reduceSub, Nat.reduceMul, Nat.reduceLT, Nat.reduceLeDiff, Nat.reduceEqDiff, List.reduceReplicate, reduceIte, beq_self_eq_true, bne_self_eq_false, Int.reduceBEq, Int.reduceBNe, Bool.or_false, Bool.false_or, Bool.not_false, Bool.not_true]
                          with_reducible refine WO.nil ?_
                          refine ⟨rfl, ?_, ⟨_, rfl⟩, by simp [Own.bnd, bndL, bnd, boxO], by simp⟩
                          try rw [hg127]
                          try rw [hg131]
                          simp [getE, bnd, keepE]
                          try simp_all
                          try omega
                        · skip
                          refine WO.go 5 (ds := [some 126, some 127, some 128, some 129, some 130, some 131, some 132, some 133, some 134, some 135, some 4]) rfl ?_
                          simp only [sx, ty, Bool.false_eq_true, Int.reduceEq, Int.reduceLT, Nat.reduceAdd, Nat.reduceSub, Nat.reduceMul, Nat.reduceLT, Nat.reduceLeDiff, Nat.reduceEqDiff, List.reduceReplicate, reduceIte, beq_self_eq_true, bne_self_eq_false, Int.reduceBEq, Int.reduceBNe, Bool.or_false, Bool.false_or, Bool.not_false, Bool.not_true]
                          with_reducible refine WO.nil ?_
                          refine ⟨rfl, ?_, ⟨_, rfl⟩, by simp [Own.bnd, bndL, bnd, boxO], by simp⟩
                          try rw [hg127]
                          try rw [hg131]
                          simp [getE, bnd, keepE]
                          try simp_all
                          try omega
                      · skip
                        refine WO.go 9 (ds := [some 126, some 127, some 128, some 129, some 130, some 131, some 132, some 133, some 134, some 135, some 4]) rfl ?_
                        simp only [sx, ty, Bool.false_eq_true, Int.reduceEq, Int.reduceLT, Nat.reduceAdd, Nat.reduceSub, Nat.reduceMul, Nat.reduceLT, Nat.reduceLeDiff, Nat.reduceEqDiff, List.reduceReplicate, reduceIte, beq_self_eq_true, bne_self_eq_false, Int.reduceBEq, Int.reduceBNe, Bool.or_false, Bool.false_or, Bool.not_false, Bool.not_true]
                        with_reducible refine WO.nil ?_
                        refine ⟨rfl, ?_, ⟨_, rfl⟩, by simp [Own.bnd, bndL, bnd, boxO], by simp⟩
                        try rw [hg127]
                        try rw [hg131]
                        simp [getE, bnd, keepE]
                        try simp_all
                        try omega
                    · simp only [sx, ty, Bool.false_eq_true, Int.reduceEq, Int.reduceLT, Nat.reduceAdd, Nat.reduceSub, Nat.reduceMul, Nat.reduceLT, Nat.reduceLeDiff, Nat.reduceEqDiff, List.reduceReplicate, reduceIte, sxk, beq_self_eq_true, bne_self_eq_false, Int.reduceBEq, Int.reduceBNe, Bool.or_false, Bool.false_or, Bool.not_false, Bool.not_true]
                      refine W.ret ⟨by simp, _, rfl, fun ρ w1 hb => ?_⟩
                      rfl
end Go.Proofs.YtpbohhfpbjofaaaDoor
