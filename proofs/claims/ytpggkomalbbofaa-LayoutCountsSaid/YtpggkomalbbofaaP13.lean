/-
  Layout: the fourth and the sixth law: walks.
-/
import Derived.Test.YtpggkomalbbofaaP12
set_option linter.unusedVariables false
set_option linter.unusedSimpArgs false
set_option maxHeartbeats 1000000
namespace Go.Proofs.Ytpggkomalbbofaa
open Go Go.SX Go.RowKit
/-- function 6 -/
theorem law4 {S S2 : Nat → Prop} {w : World} {v u : Value} {ws : List Int} {good : List Bool} (hl : rInts.rd S w [v] ws) (hl2 : rBools.rd S2 w [u] good) (wd x3 x4 : Int) (h3 : 0 ≤ x3 ∧ x3 ≤ 255) (h4 : 0 ≤ x4 ∧ x4 ≤ 255) : Gives Try.prog 6 #[v, u, .int .i64 wd, .int .u8 x3, .int .u8 x4] w fun r _ => r = .bool true := by
  obtain ⟨p, c, rfl, hc1, hc2⟩ := Rp.slice_val hl
  obtain ⟨p2, c2, rfl, hc3, hc4⟩ := Rp.slice_val hl2
  have hl : (Rp.slice rInt).rd (fun _ => True) w _ ws := Rp.any hl
  have hl2 : (Rp.slice Rp.bool).rd (fun _ => True) w _ good := Rp.any hl2
  refine gives_of [.val (.slice p ws.length c), .val (.slice p2 good.length c2), .val (.int .i64 wd), .val (.int .u8 x3), .val (.int .u8 x4)] 123 [.tmp 10] Try.func6 rfl rfl rfl (by simp) rfl rfl ?_
  refine W.pure (ds := []) rfl fun K1 hK1 => ?_
  simp only [sx, ty, Bool.false_eq_true, Int.reduceEq, Int.reduceLT, Nat.reduceAdd, Nat.reduceSub, Nat.reduceMul, Nat.reduceLT, Nat.reduceLeDiff, Nat.reduceEqDiff, List.reduceReplicate, reduceIte, beq_self_eq_true, bne_self_eq_false, Int.reduceBEq, Int.reduceBNe, Bool.or_false, Bool.false_or, Bool.not_false, Bool.not_true]; with_reducible refine hK1 _ ?_; clear hK1
  refine W.seqK fun K2 hK2 => W.region ?_
  refine WO.call (.bool true) (ds := []) rfl rfl rfl rfl co9 (fun ρ w1 hb => head_spec w1) ?_
  refine WO.go 1 (ds := []) rfl ?_
  simp only [sx, ty, Bool.false_eq_true, Int.reduceEq, Int.reduceLT, Nat.reduceAdd, Nat.reduceSub, Nat.reduceMul, Nat.reduceLT, Nat.reduceLeDiff, Nat.reduceEqDiff, List.reduceReplicate, reduceIte, beq_self_eq_true, bne_self_eq_false, Int.reduceBEq, Int.reduceBNe, Bool.or_false, Bool.false_or, Bool.not_false, Bool.not_true]
  with_reducible refine WO.nil ?_
  refine hK2 _ ?_; clear hK2
  refine W.seqK fun K3 hK3 => ?_
  refine W.seqK fun K4 hK4 => W.region ?_
  refine WO.go 2 (ds := []) rfl ?_
  simp only [sx, ty, Bool.false_eq_true, Int.reduceEq, Int.reduceLT, Nat.reduceAdd, Nat.reduceSub, Nat.reduceMul, Nat.reduceLT, Nat.reduceLeDiff, Nat.reduceEqDiff, List.reduceReplicate, reduceIte, beq_self_eq_true, bne_self_eq_false, Int.reduceBEq, Int.reduceBNe, Bool.or_false, Bool.false_or, Bool.not_false, Bool.not_true]
  refine WO.call (.bool (decide ((ws.length : Int) ≤ 60) && decide ((good.length : Int) ≤ 60))) (ds := []) rfl rfl rfl rfl co10 (fun ρ w1 hb => few_wg (Rp.now hl (hb.first (by simp))) (Rp.now hl2 (hb.first (by simp)))) ?_
  refine WO.go 1 (ds := []) rfl ?_
  simp only [sx, ty, Bool.false_eq_true, Int.reduceEq, Int.reduceLT, Nat.reduceAdd, Nat.reduceSub, Nat.reduceMul, Nat.reduceLT, Nat.reduceLeDiff, Nat.reduceEqDiff, List.reduceReplicate, reduceIte, beq_self_eq_true, bne_self_eq_false, Int.reduceBEq, Int.reduceBNe, Bool.or_false, Bool.false_or, Bool.not_false, Bool.not_true]
  with_reducible refine WO.nil ?_
  refine hK4 _ ?_; clear hK4
  refine W.cond rfl rfl (fun hc => ?_) (fun hc => ?_)
  · skip
    refine W.pure (ds := []) rfl fun K5 hK5 => ?_
    simp only [sx, ty, Bool.false_eq_true, Int.reduceEq, Int.reduceLT, Nat.reduceAdd, Nat.reduceSub, Nat.reduceMul, Nat.reduceLT, Nat.reduceLeDiff, Nat.reduceEqDiff, List.reduceReplicate, reduceIte, beq_self_eq_true, bne_self_eq_false, Int.reduceBEq, Int.reduceBNe, Bool.or_false, Bool.false_or, Bool.not_false, Bool.not_true]; with_reducible refine hK5 _ ?_; clear hK5
    refine W.ret ⟨by simp, _, rfl, fun ρ w1 hb => ?_⟩
    rfl
  · skip
    have hn : ws.length ≤ 60 := by simp at hc; omega
    refine W.skip (hK3 _ ?_)
    refine W.seqK fun K6 hK6 => W.region ?_
    refine WO.go 3 (ds := []) rfl ?_
    simp only [sx, ty, Bool.false_eq_true, Int.reduceEq, Int.reduceLT, Nat.reduceAdd, Nat.reduceSub, Nat.reduceMul, Nat.reduceLT, Nat.reduceLeDiff, Nat.reduceEqDiff, List.reduceReplicate, reduceIte, beq_self_eq_true, bne_self_eq_false, Int.reduceBEq, Int.reduceBNe, Bool.or_false, Bool.false_or, Bool.not_false, Bool.not_true]
    refine WO.callM (fun x : Option Addr × Nat => .tuple #[.slice x.1 (bestF ws good wd).1.length x.2, .int .i64 (bestF ws good wd).2]) (fun lo x s9 => rPgs.rd (fun b => lo ≤ b) s9 [.slice x.1 (bestF ws good wd).1.length x.2] (bestF ws good wd).1) (ds := []) rfl rfl rfl rfl co11 (fun ρ w1 hb => best_call rfl (Rp.now hl (hb.first (by simp))) (Rp.now hl2 (hb.first (by simp)))) fun x lo hr1s hr1 => ?_
    obtain ⟨hr1p, hr1c⟩ := x
    simp only at hr1
    refine WO.go 5 (ds := []) rfl ?_
    simp only [sx, ty, Bool.false_eq_true, Int.reduceEq, Int.reduceLT, Nat.reduceAdd, Nat.reduceSub, Nat.reduceMul, Nat.reduceLT, Nat.reduceLeDiff, Nat.reduceEqDiff, List.reduceReplicate, reduceIte, beq_self_eq_true, bne_self_eq_false, Int.reduceBEq, Int.reduceBNe, Bool.or_false, Bool.false_or, Bool.not_false, Bool.not_true]
    with_reducible refine WO.nil ?_
    refine hK6 _ ?_; clear hK6
    refine W.seqK fun K7 hK7 => ?_
    refine W.join 44 (.val (.bool (!decide ((bestF ws good wd).2 = 0) || decide (good.length = 0)))) [0, 1, 2, 3, 4, 11, 12] (W.region ?_) ?_
    · skip
      refine WO.go 3 (ds := [some 38, some 39, some 40, some 41, some 42, some 43, some 44]) rfl ?_
      simp only [sx, ty, Bool.false_eq_true, Int.reduceEq, Int.reduceLT, Nat.reduceAdd, Nat.reduceSub, Nat.reduceMul, Nat.reduceLT, Nat.reduceLeDiff, Nat.reduceEqDiff, List.reduceReplicate, reduceIte, beq_self_eq_true, bne_self_eq_false, Int.reduceBEq, Int.reduceBNe, Bool.or_false, Bool.false_or, Bool.not_false, Bool.not_true]
      refine WO.cases 40 _ rfl (fun hg40 => ?_) (fun hg40 => ?_)
      · skip
        refine WO.go 4 (ds := [some 38, some 39, some 40, some 41, some 42, some 43, some 44]) rfl ?_
        simp only [sx, ty, Bool.false_eq_true, Int.reduceEq, Int.reduceLT, Nat.reduceAdd, Nat.reduceSub, Nat.reduceMul, Nat.reduceLT, Nat.reduceLeDiff, Nat.reduceEqDiff, List.reduceReplicate, reduceIte, beq_self_eq_true, bne_self_eq_false, Int.reduceBEq, Int.reduceBNe, Bool.or_false, Bool.false_or, Bool.not_false, Bool.not_true]
        with_reducible refine WO.nil ?_
        refine ⟨rfl, ?_, ⟨_, rfl⟩, by simp [Own.bnd, bndL, bnd, boxO], by simp⟩
        try rw [hg40]
        simp [getE, bnd, keepE]
        try simp_all
        try omega
        try (rw [Bool.eq_iff_iff]; simp)
      · skip
        refine WO.go 4 (ds := [some 38, some 39, some 40, some 41, some 42, some 43, some 44]) rfl ?_
        simp only [sx, ty, Bool.false_eq_true, Int.reduceEq, Int.reduceLT, Nat.reduceAdd, Nat.reduceSub, Nat.reduceMul, Nat.reduceLT, Nat.reduceLeDiff, Nat.reduceEqDiff, List.reduceReplicate, reduceIte, beq_self_eq_true, bne_self_eq_false, Int.reduceBEq, Int.reduceBNe, Bool.or_false, Bool.false_or, Bool.not_false, Bool.not_true]
        with_reducible refine WO.nil ?_
        refine ⟨rfl, ?_, ⟨_, rfl⟩, by simp [Own.bnd, bndL, bnd, boxO], by simp⟩
        try rw [hg40]
        simp [getE, bnd, keepE]
        try simp_all
        try omega
        try (rw [Bool.eq_iff_iff]; simp)
    · simp only [sx, ty, Bool.false_eq_true, Int.reduceEq, Int.reduceLT, Nat.reduceAdd, Nat.reduceSub, Nat.reduceMul, Nat.reduceLT, Nat.reduceLeDiff, Nat.reduceEqDiff, List.reduceReplicate, reduceIte, sxk, beq_self_eq_true, bne_self_eq_false, Int.reduceBEq, Int.reduceBNe, Bool.or_false, Bool.false_or, Bool.not_false, Bool.not_true]
      refine W.cond rfl rfl (fun hc => ?_) (fun hc => ?_)
      · skip
        refine W.pure (ds := []) rfl fun K9 hK9 => ?_
        simp only [sx, ty, Bool.false_eq_true, Int.reduceEq, Int.reduceLT, Nat.reduceAdd, Nat.reduceSub, Nat.reduceMul, Nat.reduceLT, Nat.reduceLeDiff, Nat.reduceEqDiff, List.reduceReplicate, reduceIte, beq_self_eq_true, bne_self_eq_false, Int.reduceBEq, Int.reduceBNe, Bool.or_false, Bool.false_or, Bool.not_false, Bool.not_true]; with_reducible refine hK9 _ ?_; clear hK9
        refine W.ret ⟨by simp, _, rfl, fun ρ w1 hb => ?_⟩
        rfl
      · skip
        have hc2 : (bestF ws good wd).2 = 0 ∧ ¬ good.length = 0 := by simpa using hc
        have hokk : good.length = ws.length ∧ (1 ≤ wd ∧ wd ≤ 100000) ∧ ws.all (within 1 100000) = true ∧ (∀ x, x ∈ ws → x ≤ wd) ∧ (bestF ws good wd).1 = path ws good wd ws.length 0 0 := by
          rcases bestF_few (good := good) (W := wd) hn with h | h
          · exact absurd hc2.1 h.1
          · exact h.2
        obtain ⟨hg, hWr, hv, hW, hpath⟩ := hokk
        have hpos : 0 < good.length := Nat.pos_of_ne_zero hc2.2
        obtain ⟨m, hm, hml⟩ := rem8u h4 hpos
        have hdn : ¬ ((good.length : Int) = 0) := by omega
        obtain h | ⟨a1, olds, ha1, hnl, hSD, hzD, holD, hatD, hrdD⟩ := Rp.slice_cells hl2
        · exact absurd (congrArg List.length h) (by simp only [List.length_nil]; omega)
        subst ha1
        obtain rfl := bools_cells (by rw [holD]; exact Nat.mul_one _) hrdD
        obtain ⟨W2, hW2, hw1, hw2⟩ := wider hWr h3
        have hWW : ∀ x, x ∈ ws → x ≤ W2 := fun x hx => Int.le_trans (hW x hx) hw1
        have hgs : (good.set m true).length = ws.length := by simp [hg]
        have hb1 := bestF_good (good := good) hn hg hWr hv hW
        have hb2 := bestF_good (good := good) (W := W2) hn hg (by omega) hv hWW
        have hb3 := bestF_good (good := (good.set m true)) hn hgs hWr hv hW
        have hp1 := path_bad (good := good) hn hg hWr hv hW
        have hp2 := path_bad (good := good) (W := W2) hn hg (by omega) hv hWW
        have hp3 := path_bad (good := (good.set m true)) hn hgs hWr hv hW
        have hgr := best_grows (good := good) hn hg hWr hv hW hw1 hw2 (i := m)
        have hd1 : decide ((cell ws good W2 0 0).1 ≤ (cell ws good wd 0 0).1) = true := decide_eq_true hgr.1
        have hd2 : decide ((cell ws (good.set m true) wd 0 0).1 ≤ (cell ws good wd 0 0).1) = true := decide_eq_true hgr.2
        simp only [hb1] at hr1 ⊢
        refine W.skip (hK7 _ ?_)
        refine W.seqK fun K10 hK10 => W.region ?_
        refine WO.go 6 (ds := []) rfl ?_
        simp only [sx, ty, Bool.false_eq_true, Int.reduceEq, Int.reduceLT, Nat.reduceAdd, Nat.reduceSub, Nat.reduceMul, Nat.reduceLT, Nat.reduceLeDiff, Nat.reduceEqDiff, List.reduceReplicate, reduceIte, beq_self_eq_true, bne_self_eq_false, Int.reduceBEq, Int.reduceBNe, Bool.or_false, Bool.false_or, Bool.not_false, Bool.not_true]
        refine WO.min2 (ds := []) rfl rfl rfl rfl rfl rfl ?_
        rw [hW2]
        simp only [sx, ty, Bool.false_eq_true, Int.reduceEq, Int.reduceLT, Nat.reduceAdd, Nat.reduceSub, Nat.reduceMul, Nat.reduceLT, Nat.reduceLeDiff, Nat.reduceEqDiff, List.reduceReplicate, reduceIte, beq_self_eq_true, bne_self_eq_false, Int.reduceBEq, Int.reduceBNe, Bool.or_false, Bool.false_or, Bool.not_false, Bool.not_true]
        refine WO.callM (fun x : Option Addr × Nat => .tuple #[.slice x.1 (path ws good W2 ws.length 0 0).length x.2, .int .i64 0]) (fun lo x s9 => rPgs.rd (fun b => lo ≤ b) s9 [.slice x.1 (path ws good W2 ws.length 0 0).length x.2] (path ws good W2 ws.length 0 0)) (ds := []) rfl rfl rfl rfl co11 (fun ρ w1 hb => best_call hb2 (Rp.now hl (hb.first (by simp))) (Rp.now hl2 (hb.first (by simp)))) fun x lo hr2s hr2 => ?_
        obtain ⟨hr2p, hr2c⟩ := x
        simp only at hr2
        refine WO.go 5 (ds := []) rfl ?_
        simp only [sx, ty, Bool.false_eq_true, Int.reduceEq, Int.reduceLT, Nat.reduceAdd, Nat.reduceSub, Nat.reduceMul, Nat.reduceLT, Nat.reduceLeDiff, Nat.reduceEqDiff, List.reduceReplicate, reduceIte, beq_self_eq_true, bne_self_eq_false, Int.reduceBEq, Int.reduceBNe, Bool.or_false, Bool.false_or, Bool.not_false, Bool.not_true]
        with_reducible refine WO.nil ?_
        refine hK10 _ ?_; clear hK10
        refine W.seqK fun K11 hK11 => W.region ?_
        refine WO.go 2 (ds := []) rfl ?_
        simp only [sx, ty, Bool.false_eq_true, Int.reduceEq, Int.reduceLT, Nat.reduceAdd, Nat.reduceSub, Nat.reduceMul, Nat.reduceLT, Nat.reduceLeDiff, Nat.reduceEqDiff, List.reduceReplicate, reduceIte, beq_self_eq_true, bne_self_eq_false, Int.reduceBEq, Int.reduceBNe, Bool.or_false, Bool.false_or, Bool.not_false, Bool.not_true]
        refine WO.appendFull (n := 0) (m := good.length) [] (good.map .bool) (ds := []) rfl rfl rfl rfl ⟨_, rfl, fun ρ w1 hb => ⟨⟨ρ 0, 0, none⟩, rfl, fun j v hv => by simp at hv⟩⟩ rfl ek23 rfl (by omega) (fun ρ w1 hb => ⟨a1, c2, rfl, hatD.now (S := fun _ => True) (s := w) hb (by simp) hSD hzD⟩) (by simp) (by rw [maxLen_eq]; omega) (by omega) fun q1 cq1 => ?_
        simp only [Nat.zero_add, List.nil_append]
        refine WO.go 1 (ds := []) rfl ?_
        simp only [sx, ty, Bool.false_eq_true, Int.reduceEq, Int.reduceLT, Nat.reduceAdd, Nat.reduceSub, Nat.reduceMul, Nat.reduceLT, Nat.reduceLeDiff, Nat.reduceEqDiff, List.reduceReplicate, reduceIte, beq_self_eq_true, bne_self_eq_false, Int.reduceBEq, Int.reduceBNe, Bool.or_false, Bool.false_or, Bool.not_false, Bool.not_true]
        with_reducible refine WO.nil ?_
        refine hK11 _ ?_; clear hK11
        refine W.ownAddr (k := 1) rfl (by omega) fun b9 hb9 => ?_
        subst hb9
        refine W.seqK fun K12 hK12 => W.region ?_
        refine WO.go 5 (ds := []) rfl ?_
        simp only [sx, ty, Bool.false_eq_true, Int.reduceEq, Int.reduceLT, Nat.reduceAdd, Nat.reduceSub, Nat.reduceMul, Nat.reduceLT, Nat.reduceLeDiff, Nat.reduceEqDiff, List.reduceReplicate, reduceIte, beq_self_eq_true, bne_self_eq_false, Int.reduceBEq, Int.reduceBNe, Bool.or_false, Bool.false_or, Bool.not_false, Bool.not_true]
        refine WO.go 1 (ds := []) rfl ?_
        simp only [sx, ty, Bool.false_eq_true, Int.reduceEq, Int.reduceLT, Nat.reduceAdd, Nat.reduceSub, Nat.reduceMul, Nat.reduceLT, Nat.reduceLeDiff, Nat.reduceEqDiff, List.reduceReplicate, reduceIte, beq_self_eq_true, bne_self_eq_false, Int.reduceBEq, Int.reduceBNe, Bool.or_false, Bool.false_or, Bool.not_false, Bool.not_true, if_neg hdn, hm]
        refine WO.index (ds := []) rfl rfl rfl rfl rfl rfl el23 (by omega) (by omega) ?_
        simp only [sx, ty, Bool.false_eq_true, Int.reduceEq, Int.reduceLT, Nat.reduceAdd, Nat.reduceSub, Nat.reduceMul, Nat.reduceLT, Nat.reduceLeDiff, Nat.reduceEqDiff, List.reduceReplicate, reduceIte, beq_self_eq_true, bne_self_eq_false, Int.reduceBEq, Int.reduceBNe, Bool.or_false, Bool.false_or, Bool.not_false, Bool.not_true]
        refine WO.storeOwn (k := 1) (i := m) (ds := []) rfl rfl rfl rfl rfl rfl rfl hml rfl rfl sz4 ?_
        rw [show (good.map Value.bool).set m (.bool true) = (good.set m true).map .bool by rw [List.map_set]]
        simp only [sx, ty, Bool.false_eq_true, Int.reduceEq, Int.reduceLT, Nat.reduceAdd, Nat.reduceSub, Nat.reduceMul, Nat.reduceLT, Nat.reduceLeDiff, Nat.reduceEqDiff, List.reduceReplicate, reduceIte, beq_self_eq_true, bne_self_eq_false, Int.reduceBEq, Int.reduceBNe, Bool.or_false, Bool.false_or, Bool.not_false, Bool.not_true]
        with_reducible refine WO.nil ?_
        refine hK12 _ ?_; clear hK12
        refine W.seqK fun K13 hK13 => W.region ?_
        refine WO.go 3 (ds := []) rfl ?_
        simp only [sx, ty, Bool.false_eq_true, Int.reduceEq, Int.reduceLT, Nat.reduceAdd, Nat.reduceSub, Nat.reduceMul, Nat.reduceLT, Nat.reduceLeDiff, Nat.reduceEqDiff, List.reduceReplicate, reduceIte, beq_self_eq_true, bne_self_eq_false, Int.reduceBEq, Int.reduceBNe, Bool.or_false, Bool.false_or, Bool.not_false, Bool.not_true]
        refine WO.callM (fun x : Option Addr × Nat => .tuple #[.slice x.1 (path ws (good.set m true) wd ws.length 0 0).length x.2, .int .i64 0]) (fun lo x s9 => rPgs.rd (fun b => lo ≤ b) s9 [.slice x.1 (path ws (good.set m true) wd ws.length 0 0).length x.2] (path ws (good.set m true) wd ws.length 0 0)) (ds := []) rfl rfl rfl rfl co11 (fun ρ w1 hb => best_call hb3 (Rp.now hl (hb.first (by simp))) (own_slice (A := Rp.bool) (S := fun _ => True) (k := 1) hb rfl (by simp) (fun _ _ => trivial) (bools_read _))) fun x lo hr3s hr3 => ?_
        obtain ⟨hr3p, hr3c⟩ := x
        simp only at hr3
        refine WO.go 5 (ds := []) rfl ?_
        simp only [sx, ty, Bool.false_eq_true, Int.reduceEq, Int.reduceLT, Nat.reduceAdd, Nat.reduceSub, Nat.reduceMul, Nat.reduceLT, Nat.reduceLeDiff, Nat.reduceEqDiff, List.reduceReplicate, reduceIte, beq_self_eq_true, bne_self_eq_false, Int.reduceBEq, Int.reduceBNe, Bool.or_false, Bool.false_or, Bool.not_false, Bool.not_true]
        with_reducible refine WO.nil ?_
        refine hK13 _ ?_; clear hK13
        refine W.seqK fun K14 hK14 => W.region ?_
        refine WO.go 2 (ds := []) rfl ?_
        simp only [sx, ty, Bool.false_eq_true, Int.reduceEq, Int.reduceLT, Nat.reduceAdd, Nat.reduceSub, Nat.reduceMul, Nat.reduceLT, Nat.reduceLeDiff, Nat.reduceEqDiff, List.reduceReplicate, reduceIte, beq_self_eq_true, bne_self_eq_false, Int.reduceBEq, Int.reduceBNe, Bool.or_false, Bool.false_or, Bool.not_false, Bool.not_true]
        refine WO.call (.tuple #[.int .i64 (cell ws good wd 0 0).1, .int .i64 0]) (ds := []) rfl rfl rfl rfl co14 (fun ρ w1 hb => bad_call hp1 (Rp.keep hr1 (hb.at (by simp))) (Rp.now hl2 (hb.first (by simp)))) ?_
        refine WO.go 5 (ds := []) rfl ?_
        simp only [sx, ty, Bool.false_eq_true, Int.reduceEq, Int.reduceLT, Nat.reduceAdd, Nat.reduceSub, Nat.reduceMul, Nat.reduceLT, Nat.reduceLeDiff, Nat.reduceEqDiff, List.reduceReplicate, reduceIte, beq_self_eq_true, bne_self_eq_false, Int.reduceBEq, Int.reduceBNe, Bool.or_false, Bool.false_or, Bool.not_false, Bool.not_true]
        with_reducible refine WO.nil ?_
        refine hK14 _ ?_; clear hK14
        refine W.seqK fun K15 hK15 => W.region ?_
        refine WO.go 2 (ds := []) rfl ?_
        simp only [sx, ty, Bool.false_eq_true, Int.reduceEq, Int.reduceLT, Nat.reduceAdd, Nat.reduceSub, Nat.reduceMul, Nat.reduceLT, Nat.reduceLeDiff, Nat.reduceEqDiff, List.reduceReplicate, reduceIte, beq_self_eq_true, bne_self_eq_false, Int.reduceBEq, Int.reduceBNe, Bool.or_false, Bool.false_or, Bool.not_false, Bool.not_true]
        refine WO.call (.tuple #[.int .i64 (cell ws good W2 0 0).1, .int .i64 0]) (ds := []) rfl rfl rfl rfl co14 (fun ρ w1 hb => bad_call hp2 (Rp.keep hr2 (hb.at (by simp))) (Rp.now hl2 (hb.first (by simp)))) ?_
        refine WO.go 5 (ds := []) rfl ?_
        simp only [sx, ty, Bool.false_eq_true, Int.reduceEq, Int.reduceLT, Nat.reduceAdd, Nat.reduceSub, Nat.reduceMul, Nat.reduceLT, Nat.reduceLeDiff, Nat.reduceEqDiff, List.reduceReplicate, reduceIte, beq_self_eq_true, bne_self_eq_false, Int.reduceBEq, Int.reduceBNe, Bool.or_false, Bool.false_or, Bool.not_false, Bool.not_true]
        with_reducible refine WO.nil ?_
        refine hK15 _ ?_; clear hK15
        refine W.seqK fun K16 hK16 => W.region ?_
        refine WO.go 2 (ds := []) rfl ?_
        simp only [sx, ty, Bool.false_eq_true, Int.reduceEq, Int.reduceLT, Nat.reduceAdd, Nat.reduceSub, Nat.reduceMul, Nat.reduceLT, Nat.reduceLeDiff, Nat.reduceEqDiff, List.reduceReplicate, reduceIte, beq_self_eq_true, bne_self_eq_false, Int.reduceBEq, Int.reduceBNe, Bool.or_false, Bool.false_or, Bool.not_false, Bool.not_true]
        refine WO.call (.tuple #[.int .i64 (cell ws (good.set m true) wd 0 0).1, .int .i64 0]) (ds := []) rfl rfl rfl rfl co14 (fun ρ w1 hb => bad_call hp3 (Rp.keep hr3 (hb.at (by simp))) (own_slice (A := Rp.bool) (S := fun _ => True) (k := 1) hb rfl (by simp) (fun _ _ => trivial) (bools_read _))) ?_
        refine WO.go 5 (ds := []) rfl ?_
        simp only [sx, ty, Bool.false_eq_true, Int.reduceEq, Int.reduceLT, Nat.reduceAdd, Nat.reduceSub, Nat.reduceMul, Nat.reduceLT, Nat.reduceLeDiff, Nat.reduceEqDiff, List.reduceReplicate, reduceIte, beq_self_eq_true, bne_self_eq_false, Int.reduceBEq, Int.reduceBNe, Bool.or_false, Bool.false_or, Bool.not_false, Bool.not_true]
        with_reducible refine WO.nil ?_
        refine hK16 _ ?_; clear hK16
        refine W.seqK fun K17 hK17 => W.region ?_
        refine WO.go 32 (ds := [some 92, some 93, some 94, some 95, some 96, some 97, some 98, some 99, some 100, some 101, some 102, some 103, some 104, some 105, some 106, some 107, some 108, some 109, some 110, some 111, some 112, some 113, some 114, some 115, some 116, some 117, some 118, some 119, some 120, some 121, some 122, some 10]) rfl ?_
        simp only [sx, ty, Bool.false_eq_true, Int.reduceEq, Int.reduceLT, Nat.reduceAdd, Nat.reduceSub, Nat.reduceMul, Nat.reduceLT, Nat.reduceLeDiff, Nat.reduceEqDiff, List.reduceReplicate, reduceIte, beq_self_eq_true, bne_self_eq_false, Int.reduceBEq, Int.reduceBNe, Bool.or_false, Bool.false_or, Bool.not_false, Bool.not_true, hd1, hd2]
        with_reducible refine WO.nil ?_
        refine hK17 _ ?_; clear hK17
        refine W.ret ⟨by simp, _, rfl, fun ρ w1 hb => ?_⟩
        rfl
/-- function 8 -/
theorem law6 {S S2 : Nat → Prop} {w : World} {z u : Value} {l : List Pg} {good : List Bool} (hl3 : rPgs.rd S w [z] l) (hl2 : rBools.rd S2 w [u] good) : Gives Try.prog 8 #[z, u] w fun r _ => r = .bool true := by
  obtain ⟨p3, c3, rfl, hc5, hc6⟩ := Rp.slice_val hl3
  have hl3 : (Rp.slice rPg).rd (fun _ => True) w _ l := Rp.any hl3
  obtain ⟨p2, c2, rfl, hc3, hc4⟩ := Rp.slice_val hl2
  have hl2 : (Rp.slice Rp.bool).rd (fun _ => True) w _ good := Rp.any hl2
  have hdv : IntKind.i64.wrap ((l.length : Int).tdiv 2) = ((l.length / 2 : Nat) : Int) := by rw [div2n, wrap_id (by omega) (by omega)]
  refine gives_of [.val (.slice p3 l.length c3), .val (.slice p2 good.length c2)] 86 [.tmp 4] Try.func8 rfl rfl rfl (by simp) rfl rfl ?_
  refine W.pure (ds := []) rfl fun K1 hK1 => ?_
  simp only [sx, ty, Bool.false_eq_true, Int.reduceEq, Int.reduceLT, Nat.reduceAdd, Nat.reduceSub, Nat.reduceMul, Nat.reduceLT, Nat.reduceLeDiff, Nat.reduceEqDiff, List.reduceReplicate, reduceIte, beq_self_eq_true, bne_self_eq_false, Int.reduceBEq, Int.reduceBNe, Bool.or_false, Bool.false_or, Bool.not_false, Bool.not_true]; with_reducible refine hK1 _ ?_; clear hK1
  refine W.seqK fun K2 hK2 => W.region ?_
  refine WO.call (.bool true) (ds := []) rfl rfl rfl rfl co9 (fun ρ w1 hb => head_spec w1) ?_
  refine WO.go 1 (ds := []) rfl ?_
  simp only [sx, ty, Bool.false_eq_true, Int.reduceEq, Int.reduceLT, Nat.reduceAdd, Nat.reduceSub, Nat.reduceMul, Nat.reduceLT, Nat.reduceLeDiff, Nat.reduceEqDiff, List.reduceReplicate, reduceIte, beq_self_eq_true, bne_self_eq_false, Int.reduceBEq, Int.reduceBNe, Bool.or_false, Bool.false_or, Bool.not_false, Bool.not_true]
  with_reducible refine WO.nil ?_
  refine hK2 _ ?_; clear hK2
  refine W.seqK fun K3 hK3 => ?_
  refine W.seqK fun K4 hK4 => W.region ?_
  refine WO.go 2 (ds := []) rfl ?_
  simp only [sx, ty, Bool.false_eq_true, Int.reduceEq, Int.reduceLT, Nat.reduceAdd, Nat.reduceSub, Nat.reduceMul, Nat.reduceLT, Nat.reduceLeDiff, Nat.reduceEqDiff, List.reduceReplicate, reduceIte, beq_self_eq_true, bne_self_eq_false, Int.reduceBEq, Int.reduceBNe, Bool.or_false, Bool.false_or, Bool.not_false, Bool.not_true]
  refine WO.call (.bool (decide ((good.length : Int) ≤ 60) && decide ((l.length : Int) ≤ 80))) (ds := []) rfl rfl rfl rfl co10 (fun ρ w1 hb => few_gl (Rp.now hl2 (hb.first (by simp))) (Rp.now hl3 (hb.first (by simp)))) ?_
  refine WO.go 1 (ds := []) rfl ?_
  simp only [sx, ty, Bool.false_eq_true, Int.reduceEq, Int.reduceLT, Nat.reduceAdd, Nat.reduceSub, Nat.reduceMul, Nat.reduceLT, Nat.reduceLeDiff, Nat.reduceEqDiff, List.reduceReplicate, reduceIte, beq_self_eq_true, bne_self_eq_false, Int.reduceBEq, Int.reduceBNe, Bool.or_false, Bool.false_or, Bool.not_false, Bool.not_true]
  with_reducible refine WO.nil ?_
  refine hK4 _ ?_; clear hK4
  refine W.cond rfl rfl (fun hc => ?_) (fun hc => ?_)
  · skip
    refine W.pure (ds := []) rfl fun K5 hK5 => ?_
    simp only [sx, ty, Bool.false_eq_true, Int.reduceEq, Int.reduceLT, Nat.reduceAdd, Nat.reduceSub, Nat.reduceMul, Nat.reduceLT, Nat.reduceLeDiff, Nat.reduceEqDiff, List.reduceReplicate, reduceIte, beq_self_eq_true, bne_self_eq_false, Int.reduceBEq, Int.reduceBNe, Bool.or_false, Bool.false_or, Bool.not_false, Bool.not_true]; with_reducible refine hK5 _ ?_; clear hK5
    refine W.ret ⟨by simp, _, rfl, fun ρ w1 hb => ?_⟩
    rfl
  · skip
    have hn : good.length ≤ 60 ∧ l.length ≤ 80 := by simp at hc; omega
    refine W.skip (hK3 _ ?_)
    refine W.seqK fun K6 hK6 => W.region ?_
    refine WO.go 2 (ds := []) rfl ?_
    simp only [sx, ty, Bool.false_eq_true, Int.reduceEq, Int.reduceLT, Nat.reduceAdd, Nat.reduceSub, Nat.reduceMul, Nat.reduceLT, Nat.reduceLeDiff, Nat.reduceEqDiff, List.reduceReplicate, reduceIte, beq_self_eq_true, bne_self_eq_false, Int.reduceBEq, Int.reduceBNe, Bool.or_false, Bool.false_or, Bool.not_false, Bool.not_true]
    refine WO.call (.tuple #[.int .i64 (badF l good).1, .int .i64 (badF l good).2]) (ds := []) rfl rfl rfl rfl co14 (fun ρ w1 hb => bad_spec (Rp.now hl3 (hb.first (by simp))) (Rp.now hl2 (hb.first (by simp)))) ?_
    refine WO.go 5 (ds := []) rfl ?_
    simp only [sx, ty, Bool.false_eq_true, Int.reduceEq, Int.reduceLT, Nat.reduceAdd, Nat.reduceSub, Nat.reduceMul, Nat.reduceLT, Nat.reduceLeDiff, Nat.reduceEqDiff, List.reduceReplicate, reduceIte, beq_self_eq_true, bne_self_eq_false, Int.reduceBEq, Int.reduceBNe, Bool.or_false, Bool.false_or, Bool.not_false, Bool.not_true]
    with_reducible refine WO.nil ?_
    refine hK6 _ ?_; clear hK6
    refine W.seqK fun K7 hK7 => ?_
    refine W.pure (ds := []) rfl fun K8 hK8 => ?_
    simp only [sx, ty, Bool.false_eq_true, Int.reduceEq, Int.reduceLT, Nat.reduceAdd, Nat.reduceSub, Nat.reduceMul, Nat.reduceLT, Nat.reduceLeDiff, Nat.reduceEqDiff, List.reduceReplicate, reduceIte, beq_self_eq_true, bne_self_eq_false, Int.reduceBEq, Int.reduceBNe, Bool.or_false, Bool.false_or, Bool.not_false, Bool.not_true]; with_reducible refine hK8 _ ?_; clear hK8
    refine W.cond rfl rfl (fun hc => ?_) (fun hc => ?_)
    · skip
      have hz := badF_e (l := l) (good := good) (by simpa using hc)
      refine W.seqK fun K9 hK9 => W.region ?_
      refine WO.go 6 (ds := [some 28, some 29, some 30, some 31, some 32, some 4]) rfl ?_
      simp only [sx, ty, Bool.false_eq_true, Int.reduceEq, Int.reduceLT, Nat.reduceAdd, Nat.reduceSub, Nat.reduceMul, Nat.reduceLT, Nat.reduceLeDiff, Nat.reduceEqDiff, List.reduceReplicate, reduceIte, beq_self_eq_true, bne_self_eq_false, Int.reduceBEq, Int.reduceBNe, Bool.or_false, Bool.false_or, Bool.not_false, Bool.not_true]
      with_reducible refine WO.nil ?_
      refine hK9 _ ?_; clear hK9
      refine W.ret ⟨by simp, _, rfl, fun ρ w1 hb => ?_⟩
      simp [den, hz]
    · skip
      have hp := badF_paged (l := l) hn.1 (by simpa using hc)
      obtain ⟨q1, q2, q3, q4⟩ := counts (by omega) hp
      have hd1 : decide (0 ≤ (badF l good).1) = true := decide_eq_true q3
      have hd2 : decide ((badF l good).1 ≤ ((l.length / 2 : Nat) : Int)) = true := decide_eq_true q4
      refine W.skip (hK7 _ ?_)
      refine W.seqK fun K10 hK10 => W.region ?_
      refine WO.go 2 (ds := []) rfl ?_
      simp only [sx, ty, Bool.false_eq_true, Int.reduceEq, Int.reduceLT, Nat.reduceAdd, Nat.reduceSub, Nat.reduceMul, Nat.reduceLT, Nat.reduceLeDiff, Nat.reduceEqDiff, List.reduceReplicate, reduceIte, beq_self_eq_true, bne_self_eq_false, Int.reduceBEq, Int.reduceBNe, Bool.or_false, Bool.false_or, Bool.not_false, Bool.not_true]
      refine WO.make (ds := []) rfl rfl rfl rfl rfl rfl ek23 (Nat.le_refl _) (by rw [maxLen_eq]; omega) (by omega) fun b0 => ?_
      rw [reps_false]
      refine WO.go 1 (ds := []) rfl ?_
      simp only [sx, ty, Bool.false_eq_true, Int.reduceEq, Int.reduceLT, Nat.reduceAdd, Nat.reduceSub, Nat.reduceMul, Nat.reduceLT, Nat.reduceLeDiff, Nat.reduceEqDiff, List.reduceReplicate, reduceIte, beq_self_eq_true, bne_self_eq_false, Int.reduceBEq, Int.reduceBNe, Bool.or_false, Bool.false_or, Bool.not_false, Bool.not_true]
      with_reducible refine WO.nil ?_
      refine hK10 _ ?_; clear hK10
      refine W.seqK fun K11 hK11 => W.region ?_
      refine WO.go 2 (ds := []) rfl ?_
      simp only [sx, ty, Bool.false_eq_true, Int.reduceEq, Int.reduceLT, Nat.reduceAdd, Nat.reduceSub, Nat.reduceMul, Nat.reduceLT, Nat.reduceLeDiff, Nat.reduceEqDiff, List.reduceReplicate, reduceIte, beq_self_eq_true, bne_self_eq_false, Int.reduceBEq, Int.reduceBNe, Bool.or_false, Bool.false_or, Bool.not_false, Bool.not_true]
      refine WO.call (.tuple #[.int .i64 ((l.length / 2 : Nat) : Int), .int .i64 0]) (ds := []) rfl rfl rfl rfl co14 (fun ρ w1 hb => bad_call (good := List.replicate 0 true ++ List.replicate (good.length - 0) false) (by simpa using q1) (Rp.now hl3 (hb.first (by simp))) (own_slice (A := Rp.bool) (S := fun _ => True) (k := 0) (xs := ((List.replicate 0 true ++ List.replicate (good.length - 0) false).map Value.bool)) hb rfl (by simp) (fun _ _ => trivial) (bools_read _))) ?_
      refine WO.go 5 (ds := []) rfl ?_
      simp only [sx, ty, Bool.false_eq_true, Int.reduceEq, Int.reduceLT, Nat.reduceAdd, Nat.reduceSub, Nat.reduceMul, Nat.reduceLT, Nat.reduceLeDiff, Nat.reduceEqDiff, List.reduceReplicate, reduceIte, beq_self_eq_true, bne_self_eq_false, Int.reduceBEq, Int.reduceBNe, Bool.or_false, Bool.false_or, Bool.not_false, Bool.not_true]
      with_reducible refine WO.nil ?_
      refine hK11 _ ?_; clear hK11
      refine W.seqK fun K12 hK12 => ?_
      refine W.pure (ds := []) rfl fun K13 hK13 => ?_
      simp only [sx, ty, Bool.false_eq_true, Int.reduceEq, Int.reduceLT, Nat.reduceAdd, Nat.reduceSub, Nat.reduceMul, Nat.reduceLT, Nat.reduceLeDiff, Nat.reduceEqDiff, List.reduceReplicate, reduceIte, beq_self_eq_true, bne_self_eq_false, Int.reduceBEq, Int.reduceBNe, Bool.or_false, Bool.false_or, Bool.not_false, Bool.not_true]; with_reducible refine hK13 _ ?_; clear hK13
      refine W.block ?_
      refine W.loopO (X := Nat) [0, 5, 6, 8, 9, 10, 43] (fun x => [(44, .val (.int .i64 x))]) (fun x => [.slice 4 1 (.slice (some ⟨b0, 0, none⟩) good.length good.length) good.length ((List.replicate x true ++ List.replicate (good.length - x) false).map Value.bool)]) (fun x => [((fun _ => True), w)]) (fun x => x ≤ good.length) (fun x => good.length - x) 0 ?_ ?_ ?_
      · exact ⟨rfl, by simp [getE, bnd, keepE], ⟨[], by simp⟩, by simp [Own.bnd, bndL, bnd, boxO], by simp⟩
      · skip
        exact Nat.zero_le _
      · rintro i hi
        simp only [sx, ty, Bool.false_eq_true, Int.reduceEq, Int.reduceLT, Nat.reduceAdd, Nat.reduceSub, Nat.reduceMul, Nat.reduceLT, Nat.reduceLeDiff, Nat.reduceEqDiff, List.reduceReplicate, reduceIte, sxk, beq_self_eq_true, bne_self_eq_false, Int.reduceBEq, Int.reduceBNe, Bool.or_false, Bool.false_or, Bool.not_false, Bool.not_true]
        refine W.pure (ds := []) rfl fun K14 hK14 => ?_
        simp only [sx, ty, Bool.false_eq_true, Int.reduceEq, Int.reduceLT, Nat.reduceAdd, Nat.reduceSub, Nat.reduceMul, Nat.reduceLT, Nat.reduceLeDiff, Nat.reduceEqDiff, List.reduceReplicate, reduceIte, beq_self_eq_true, bne_self_eq_false, Int.reduceBEq, Int.reduceBNe, Bool.or_false, Bool.false_or, Bool.not_false, Bool.not_true]; with_reducible refine hK14 _ ?_; clear hK14
        refine W.seqK fun K15 hK15 => ?_
        refine W.cond rfl rfl (fun hc => ?_) (fun hc => ?_)
        · skip
          have hlt : i < good.length := by simpa using hc
          refine W.skip (hK15 _ ?_)
          refine W.seqK fun K16 hK16 => ?_
          refine W.block ?_
          refine W.pure (ds := []) rfl fun K17 hK17 => ?_
          simp only [sx, ty, Bool.false_eq_true, Int.reduceEq, Int.reduceLT, Nat.reduceAdd, Nat.reduceSub, Nat.reduceMul, Nat.reduceLT, Nat.reduceLeDiff, Nat.reduceEqDiff, List.reduceReplicate, reduceIte, beq_self_eq_true, bne_self_eq_false, Int.reduceBEq, Int.reduceBNe, Bool.or_false, Bool.false_or, Bool.not_false, Bool.not_true]; with_reducible refine hK17 _ ?_; clear hK17
          refine W.region ?_
          refine WO.go 2 (ds := []) rfl ?_
          simp only [sx, ty, Bool.false_eq_true, Int.reduceEq, Int.reduceLT, Nat.reduceAdd, Nat.reduceSub, Nat.reduceMul, Nat.reduceLT, Nat.reduceLeDiff, Nat.reduceEqDiff, List.reduceReplicate, reduceIte, beq_self_eq_true, bne_self_eq_false, Int.reduceBEq, Int.reduceBNe, Bool.or_false, Bool.false_or, Bool.not_false, Bool.not_true]
          refine WO.index (ds := []) rfl rfl rfl rfl rfl rfl el23 (by omega) (by omega) ?_
          simp only [sx, ty, Bool.false_eq_true, Int.reduceEq, Int.reduceLT, Nat.reduceAdd, Nat.reduceSub, Nat.reduceMul, Nat.reduceLT, Nat.reduceLeDiff, Nat.reduceEqDiff, List.reduceReplicate, reduceIte, beq_self_eq_true, bne_self_eq_false, Int.reduceBEq, Int.reduceBNe, Bool.or_false, Bool.false_or, Bool.not_false, Bool.not_true]
          refine WO.storeOwn (k := 0) (i := i) (ds := []) rfl rfl rfl rfl rfl rfl rfl hlt rfl rfl sz4 ?_
          rw [reps_set hlt]
          simp only [sx, ty, Bool.false_eq_true, Int.reduceEq, Int.reduceLT, Nat.reduceAdd, Nat.reduceSub, Nat.reduceMul, Nat.reduceLT, Nat.reduceLeDiff, Nat.reduceEqDiff, List.reduceReplicate, reduceIte, beq_self_eq_true, bne_self_eq_false, Int.reduceBEq, Int.reduceBNe, Bool.or_false, Bool.false_or, Bool.not_false, Bool.not_true]
          with_reducible refine WO.nil ?_
          refine hK16 _ ?_
          refine W.region ?_
          refine WO.go 2 (ds := []) rfl ?_
          simp only [sx, ty, Bool.false_eq_true, Int.reduceEq, Int.reduceLT, Nat.reduceAdd, Nat.reduceSub, Nat.reduceMul, Nat.reduceLT, Nat.reduceLeDiff, Nat.reduceEqDiff, List.reduceReplicate, reduceIte, beq_self_eq_true, bne_self_eq_false, Int.reduceBEq, Int.reduceBNe, Bool.or_false, Bool.false_or, Bool.not_false, Bool.not_true]
          with_reducible refine WO.nil ?_
          refine ⟨i + 1, ?_, by first | omega | (simp; omega), rfl, by simp [getE, bnd, keepE, wrap_succ (show i + 1 ≤ 9223372036854775807 by omega)], ⟨_, rfl⟩, by simp [Own.bnd, bndL, bnd, boxO], by simp⟩
          exact hlt
        · skip
          obtain rfl : i = good.length := Nat.le_antisymm hi (by simpa using hc)
          refine W.exit (hK12 _ ?_)
          refine W.seqK fun K18 hK18 => W.region ?_
          refine WO.go 2 (ds := []) rfl ?_
          simp only [sx, ty, Bool.false_eq_true, Int.reduceEq, Int.reduceLT, Nat.reduceAdd, Nat.reduceSub, Nat.reduceMul, Nat.reduceLT, Nat.reduceLeDiff, Nat.reduceEqDiff, List.reduceReplicate, reduceIte, beq_self_eq_true, bne_self_eq_false, Int.reduceBEq, Int.reduceBNe, Bool.or_false, Bool.false_or, Bool.not_false, Bool.not_true]
          refine WO.call (.tuple #[.int .i64 0, .int .i64 0]) (ds := []) rfl rfl rfl rfl co14 (fun ρ w1 hb => bad_call (good := List.replicate good.length true ++ List.replicate (good.length - good.length) false) (by simpa using q2) (Rp.now hl3 (hb.first (by simp))) (own_slice (A := Rp.bool) (S := fun _ => True) (k := 0) (xs := ((List.replicate good.length true ++ List.replicate (good.length - good.length) false).map Value.bool)) hb rfl (by simp) (fun _ _ => trivial) (bools_read _))) ?_
          refine WO.go 5 (ds := []) rfl ?_
          simp only [sx, ty, Bool.false_eq_true, Int.reduceEq, Int.reduceLT, Nat.reduceAdd, Nat.reduceSub, Nat.reduceMul, Nat.reduceLT, Nat.reduceLeDiff, Nat.reduceEqDiff, List.reduceReplicate, reduceIte, beq_self_eq_true, bne_self_eq_false, Int.reduceBEq, Int.reduceBNe, Bool.or_false, Bool.false_or, Bool.not_false, Bool.not_true]
          with_reducible refine WO.nil ?_
          refine hK18 _ ?_; clear hK18
          refine W.seqK fun K19 hK19 => W.region ?_
          refine WO.go 30 (ds := [some 57, some 58, some 59, some 60, some 61, some 62, some 63, some 64, some 65, some 66, some 67, some 68, some 69, some 70, some 71, some 72, some 73, some 74, some 75, some 76, some 77, some 78, some 79, some 80, some 81, some 82, some 83, some 84, some 85, some 4]) rfl ?_
          simp only [sx, ty, Bool.false_eq_true, Int.reduceEq, Int.reduceLT, Nat.reduceAdd, Nat.reduceSub, Nat.reduceMul, Nat.reduceLT, Nat.reduceLeDiff, Nat.reduceEqDiff, List.reduceReplicate, reduceIte, beq_self_eq_true, bne_self_eq_false, Int.reduceBEq, Int.reduceBNe, Bool.or_false, Bool.false_or, Bool.not_false, Bool.not_true, hdv, hd1, hd2]
          with_reducible refine WO.nil ?_
          refine hK19 _ ?_; clear hK19
          refine W.ret ⟨by simp, _, rfl, fun ρ w1 hb => ?_⟩
          rfl
end Go.Proofs.Ytpggkomalbbofaa
