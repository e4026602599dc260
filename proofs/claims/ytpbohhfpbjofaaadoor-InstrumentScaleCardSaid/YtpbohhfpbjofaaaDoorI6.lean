/-
  Instruments: all pitches move alike, scales: walks.
-/
import Derived.Test.YtpbohhfpbjofaaaDoorI4
import Derived.Test.YtpbohhfpbjofaaaDoorPlainJ
set_option linter.unusedVariables false
set_option linter.unusedSimpArgs false
set_option maxHeartbeats 1000000
namespace Go.Proofs.YtpbohhfpbjofaaaDoor
open Go Go.SX Go.RowKit

theorem note_iff {p : Pit} : noteF p = true ↔ validP p = true ∧ (-2 ≤ p.2.1 ∧ p.2.1 ≤ 2) ∧ 0 ≤ p.2.2 ∧ p.2.2 ≤ 9 := by simp only [noteF, Bool.and_eq_true, within_iff]
/-- what a note is written as -/
theorem note_write {a b k t : Int} {lo hi c : Pit} (hok : okI a b lo hi k = true) (hm : mvI a b k = (7 * -b - 12 * (-a + t) + k, -a + t, -b)) (hf : formed (-a + t) (-b) = true) (hc : validP c = true) (ha : -2 ≤ c.2.1 ∧ c.2.1 ≤ 2) (ho : -2 ≤ c.2.2 ∧ c.2.2 ≤ 11) :
    writeF a b lo hi k c = (addP c (-a + t) (-b), 0) ∧ validP (addP c (-a + t) (-b)) = true ∧ betF c (addP c (-a + t) (-b)) = (-a + t, -b, 0) := by
  have h1 := write_ok hok hc ha ho
  have h2 := (write_back (by rw [h1])).2
  rw [hm] at h1
  rw [h1] at h2
  exact ⟨h1, h2, bet_of hc h2 hf⟩
theorem rem8 {i d : Int} (h : 0 ≤ i ∧ i ≤ 255) (hd : 0 < d) : 0 ≤ (IntKind.i64.wrap i).tmod d ∧ (IntKind.i64.wrap i).tmod d ≤ d - 1 := by
  rw [wrap_id (by omega) (by omega)]
  have := Int.tmod_nonneg d h.1
  have := Int.tmod_lt_of_pos i hd
  exact ⟨by omega, by omega⟩
theorem u8_range {x : Int} (h : (Lit.int .u8 x).wf = true) : 0 ≤ x ∧ x ≤ 255 := by
  simp [Lit.wf, IntKind.min, IntKind.max, IntKind.signed, IntKind.bits] at h; omega
/-- function 8 -/
theorem law6 {w : World} (hN : GN w) (q : Int × Int × Int × Int × Int) (a b : Int) (lo hi : Pit) (k : Int) (c d : Pit) : Gives Tryd.prog 8 #[.agg #[.int .i64 q.1, .int .i64 q.2.1, .int .i64 q.2.2.1, .int .i64 q.2.2.2.1, .int .i64 q.2.2.2.2, .int .i64 a, .int .i64 b, .int .i64 lo.1, .int .i64 lo.2.1, .int .i64 lo.2.2, .int .i64 hi.1, .int .i64 hi.2.1, .int .i64 hi.2.2], .int .i64 k, .agg #[.int .i64 c.1, .int .i64 c.2.1, .int .i64 c.2.2], .agg #[.int .i64 d.1, .int .i64 d.2.1, .int .i64 d.2.2]] w fun r _ => r = .bool true := by
  refine gives_of [.agg [.val (.int .i64 q.1), .val (.int .i64 q.2.1), .val (.int .i64 q.2.2.1), .val (.int .i64 q.2.2.2.1), .val (.int .i64 q.2.2.2.2), .val (.int .i64 a), .val (.int .i64 b), .val (.int .i64 lo.1), .val (.int .i64 lo.2.1), .val (.int .i64 lo.2.2), .val (.int .i64 hi.1), .val (.int .i64 hi.2.1), .val (.int .i64 hi.2.2)], .val (.int .i64 k), .agg [.val (.int .i64 c.1), .val (.int .i64 c.2.1), .val (.int .i64 c.2.2)], .agg [.val (.int .i64 d.1), .val (.int .i64 d.2.1), .val (.int .i64 d.2.2)]] 104 [.tmp 8] Tryd.func8 rfl rfl rfl (by simp) rfl rfl ?_
  refine W.pure (ds := []) rfl fun K1 hK1 => ?_
  simp only [sx, ty, Bool.false_eq_true, Int.reduceEq, Int.reduceLT, Nat.reduceAdd, Nat.reduceSub, Nat.reduceMul, Nat.reduceLT, Nat.reduceLeDiff, Nat.reduceEqDiff, List.reduceReplicate, reduceIte, beq_self_eq_true, bne_self_eq_false, Int.reduceBEq, Int.reduceBNe, Bool.or_false, Bool.false_or, Bool.not_false, Bool.not_true]; with_reducible refine hK1 _ ?_; clear hK1
  refine W.seqK fun K2 hK2 => W.region ?_
  refine WO.call (.bool true) (ds := []) rfl rfl rfl rfl co10 (fun ρ w1 hb => head_spec (hN.now (hb.first (by simp)))) ?_
  refine WO.go 1 (ds := []) rfl ?_
  simp only [sx, ty, Bool.false_eq_true, Int.reduceEq, Int.reduceLT, Nat.reduceAdd, Nat.reduceSub, Nat.reduceMul, Nat.reduceLT, Nat.reduceLeDiff, Nat.reduceEqDiff, List.reduceReplicate, reduceIte, beq_self_eq_true, bne_self_eq_false, Int.reduceBEq, Int.reduceBNe, Bool.or_false, Bool.false_or, Bool.not_false, Bool.not_true]
  with_reducible refine WO.nil ?_
  refine hK2 _ ?_; clear hK2
  refine W.seqK fun K3 hK3 => ?_
  refine W.join 33 (.val (.bool (!((okI a b lo hi k) && (noteF c && noteF d))))) [1, 4, 6, 7, 9] (W.region ?_) ?_
  · skip
    refine WO.go 2 (ds := [some 20, some 21, some 22, some 23, some 24, some 25, some 26, some 27, some 28, some 29, some 30, some 31, some 32, some 33]) rfl ?_
    simp only [sx, ty, Bool.false_eq_true, Int.reduceEq, Int.reduceLT, Nat.reduceAdd, Nat.reduceSub, Nat.reduceMul, Nat.reduceLT, Nat.reduceLeDiff, Nat.reduceEqDiff, List.reduceReplicate, reduceIte, beq_self_eq_true, bne_self_eq_false, Int.reduceBEq, Int.reduceBNe, Bool.or_false, Bool.false_or, Bool.not_false, Bool.not_true]
    refine WO.call (.bool (okI a b lo hi k)) (ds := [some 20, some 21, some 22, some 23, some 24, some 25, some 26, some 27, some 28, some 29, some 30, some 31, some 32, some 33]) rfl rfl rfl rfl co21 (fun ρ w1 hb => right_spec w1 q a b lo hi k) ?_
    refine WO.go 2 (ds := [some 20, some 21, some 22, some 23, some 24, some 25, some 26, some 27, some 28, some 29, some 30, some 31, some 32, some 33]) rfl ?_
    simp only [sx, ty, Bool.false_eq_true, Int.reduceEq, Int.reduceLT, Nat.reduceAdd, Nat.reduceSub, Nat.reduceMul, Nat.reduceLT, Nat.reduceLeDiff, Nat.reduceEqDiff, List.reduceReplicate, reduceIte, beq_self_eq_true, bne_self_eq_false, Int.reduceBEq, Int.reduceBNe, Bool.or_false, Bool.false_or, Bool.not_false, Bool.not_true]
    refine WO.cases 24 _ rfl (fun hg24 => ?_) (fun hg24 => ?_)
    · skip
      refine WO.go 9 (ds := [some 20, some 21, some 22, some 23, some 24, some 25, some 26, some 27, some 28, some 29, some 30, some 31, some 32, some 33]) rfl ?_
      simp only [sx, ty, Bool.false_eq_true, Int.reduceEq, Int.reduceLT, Nat.reduceAdd, Nat.reduceSub, Nat.reduceMul, Nat.reduceLT, Nat.reduceLeDiff, Nat.reduceEqDiff, List.reduceReplicate, reduceIte, beq_self_eq_true, bne_self_eq_false, Int.reduceBEq, Int.reduceBNe, Bool.or_false, Bool.false_or, Bool.not_false, Bool.not_true]
      with_reducible refine WO.nil ?_
      refine ⟨rfl, ?_, ⟨_, rfl⟩, by simp [Own.bnd, bndL, bnd, boxO], by simp⟩
      try rw [hg24]
      try rw [hg29]
      simp [getE, bnd, keepE]
      try simp_all
    · skip
      refine WO.go 1 (ds := [some 20, some 21, some 22, some 23, some 24, some 25, some 26, some 27, some 28, some 29, some 30, some 31, some 32, some 33]) rfl ?_
      simp only [sx, ty, Bool.false_eq_true, Int.reduceEq, Int.reduceLT, Nat.reduceAdd, Nat.reduceSub, Nat.reduceMul, Nat.reduceLT, Nat.reduceLeDiff, Nat.reduceEqDiff, List.reduceReplicate, reduceIte, beq_self_eq_true, bne_self_eq_false, Int.reduceBEq, Int.reduceBNe, Bool.or_false, Bool.false_or, Bool.not_false, Bool.not_true]
      refine WO.call (.bool (noteF c)) (ds := [some 20, some 21, some 22, some 23, some 24, some 25, some 26, some 27, some 28, some 29, some 30, some 31, some 32, some 33]) rfl rfl rfl rfl co29 (fun ρ w1 hb => rnote_spec w1 c) ?_
      refine WO.go 3 (ds := [some 20, some 21, some 22, some 23, some 24, some 25, some 26, some 27, some 28, some 29, some 30, some 31, some 32, some 33]) rfl ?_
      simp only [sx, ty, Bool.false_eq_true, Int.reduceEq, Int.reduceLT, Nat.reduceAdd, Nat.reduceSub, Nat.reduceMul, Nat.reduceLT, Nat.reduceLeDiff, Nat.reduceEqDiff, List.reduceReplicate, reduceIte, beq_self_eq_true, bne_self_eq_false, Int.reduceBEq, Int.reduceBNe, Bool.or_false, Bool.false_or, Bool.not_false, Bool.not_true]
      refine WO.cases 29 _ rfl (fun hg29 => ?_) (fun hg29 => ?_)
      · skip
        refine WO.go 4 (ds := [some 20, some 21, some 22, some 23, some 24, some 25, some 26, some 27, some 28, some 29, some 30, some 31, some 32, some 33]) rfl ?_
        simp only [sx, ty, Bool.false_eq_true, Int.reduceEq, Int.reduceLT, Nat.reduceAdd, Nat.reduceSub, Nat.reduceMul, Nat.reduceLT, Nat.reduceLeDiff, Nat.reduceEqDiff, List.reduceReplicate, reduceIte, beq_self_eq_true, bne_self_eq_false, Int.reduceBEq, Int.reduceBNe, Bool.or_false, Bool.false_or, Bool.not_false, Bool.not_true]
        with_reducible refine WO.nil ?_
        refine ⟨rfl, ?_, ⟨_, rfl⟩, by simp [Own.bnd, bndL, bnd, boxO], by simp⟩
        try rw [hg24]
        try rw [hg29]
        simp [getE, bnd, keepE]
        try simp_all
      · skip
        refine WO.go 1 (ds := [some 20, some 21, some 22, some 23, some 24, some 25, some 26, some 27, some 28, some 29, some 30, some 31, some 32, some 33]) rfl ?_
        simp only [sx, ty, Bool.false_eq_true, Int.reduceEq, Int.reduceLT, Nat.reduceAdd, Nat.reduceSub, Nat.reduceMul, Nat.reduceLT, Nat.reduceLeDiff, Nat.reduceEqDiff, List.reduceReplicate, reduceIte, beq_self_eq_true, bne_self_eq_false, Int.reduceBEq, Int.reduceBNe, Bool.or_false, Bool.false_or, Bool.not_false, Bool.not_true]
        refine WO.call (.bool (noteF d)) (ds := [some 20, some 21, some 22, some 23, some 24, some 25, some 26, some 27, some 28, some 29, some 30, some 31, some 32, some 33]) rfl rfl rfl rfl co29 (fun ρ w1 hb => rnote_spec w1 d) ?_
        refine WO.go 2 (ds := [some 20, some 21, some 22, some 23, some 24, some 25, some 26, some 27, some 28, some 29, some 30, some 31, some 32, some 33]) rfl ?_
        simp only [sx, ty, Bool.false_eq_true, Int.reduceEq, Int.reduceLT, Nat.reduceAdd, Nat.reduceSub, Nat.reduceMul, Nat.reduceLT, Nat.reduceLeDiff, Nat.reduceEqDiff, List.reduceReplicate, reduceIte, beq_self_eq_true, bne_self_eq_false, Int.reduceBEq, Int.reduceBNe, Bool.or_false, Bool.false_or, Bool.not_false, Bool.not_true]
        with_reducible refine WO.nil ?_
        refine ⟨rfl, ?_, ⟨_, rfl⟩, by simp [Own.bnd, bndL, bnd, boxO], by simp⟩
        try rw [hg24]
        try rw [hg29]
        simp [getE, bnd, keepE]
        try simp_all
  · simp only [sx, ty, Bool.false_eq_true, Int.reduceEq, Int.reduceLT, Nat.reduceAdd, Nat.reduceSub, Nat.reduceMul, Nat.reduceLT, Nat.reduceLeDiff, Nat.reduceEqDiff, List.reduceReplicate, reduceIte, sxk, beq_self_eq_true, bne_self_eq_false, Int.reduceBEq, Int.reduceBNe, Bool.or_false, Bool.false_or, Bool.not_false, Bool.not_true]
    refine W.cond rfl rfl (fun hc => ?_) (fun hc => ?_)
    · skip
      refine W.pure (ds := []) rfl fun K5 hK5 => ?_
      simp only [sx, ty, Bool.false_eq_true, Int.reduceEq, Int.reduceLT, Nat.reduceAdd, Nat.reduceSub, Nat.reduceMul, Nat.reduceLT, Nat.reduceLeDiff, Nat.reduceEqDiff, List.reduceReplicate, reduceIte, beq_self_eq_true, bne_self_eq_false, Int.reduceBEq, Int.reduceBNe, Bool.or_false, Bool.false_or, Bool.not_false, Bool.not_true]; with_reducible refine hK5 _ ?_; clear hK5
      refine W.ret ⟨by simp, _, rfl, fun ρ w1 hb => ?_⟩
      rfl
    · skip
      have hbb : ((okI a b lo hi k) && (noteF c && noteF d)) = true := by simpa only [Bool.not_eq_false'] using hc
      simp only [Bool.and_eq_true] at hbb
      obtain ⟨hok, hnc, hnd⟩ := hbb
      have nc := note_iff.1 hnc
      have nd := note_iff.1 hnd
      obtain ⟨t, h1, h2, h3, h4, h5, h6, h7⟩ := ok_fact hok
      have hfm := (written_iff.1 h7).1
      obtain ⟨wc, vc, bc⟩ := note_write hok h2 h5 nc.1 nc.2.1 (by omega)
      obtain ⟨wd, vd, bd⟩ := note_write hok h2 h5 nd.1 nd.2.1 (by omega)
      have hw1 := wrap_id (x := 0 - b) (by omega) (by omega)
      have hw2 := wrap_id (x := -a + t + a) (by omega) (by omega)
      refine W.skip (hK3 _ ?_)
      refine W.seqK fun K6 hK6 => W.region ?_
      refine WO.go 3 (ds := []) rfl ?_
      simp only [sx, ty, Bool.false_eq_true, Int.reduceEq, Int.reduceLT, Nat.reduceAdd, Nat.reduceSub, Nat.reduceMul, Nat.reduceLT, Nat.reduceLeDiff, Nat.reduceEqDiff, List.reduceReplicate, reduceIte, beq_self_eq_true, bne_self_eq_false, Int.reduceBEq, Int.reduceBNe, Bool.or_false, Bool.false_or, Bool.not_false, Bool.not_true]
      refine WO.call (.tuple #[.agg #[.int .i64 ((addP c (-a + t) (-b))).1, .int .i64 ((addP c (-a + t) (-b))).2.1, .int .i64 ((addP c (-a + t) (-b))).2.2], .int .i64 0]) (ds := []) rfl rfl rfl rfl co13 (fun ρ w1 hb => by have := iwrite_spec (hN.now (hb.first (by simp))) q a b lo hi k c; rw [wc] at this; exact this) ?_
      refine WO.go 6 (ds := []) rfl ?_
      simp only [sx, ty, Bool.false_eq_true, Int.reduceEq, Int.reduceLT, Nat.reduceAdd, Nat.reduceSub, Nat.reduceMul, Nat.reduceLT, Nat.reduceLeDiff, Nat.reduceEqDiff, List.reduceReplicate, reduceIte, beq_self_eq_true, bne_self_eq_false, Int.reduceBEq, Int.reduceBNe, Bool.or_false, Bool.false_or, Bool.not_false, Bool.not_true]
      with_reducible refine WO.nil ?_
      refine hK6 _ ?_; clear hK6
      refine W.seqK fun K7 hK7 => W.region ?_
      refine WO.go 3 (ds := []) rfl ?_
      simp only [sx, ty, Bool.false_eq_true, Int.reduceEq, Int.reduceLT, Nat.reduceAdd, Nat.reduceSub, Nat.reduceMul, Nat.reduceLT, Nat.reduceLeDiff, Nat.reduceEqDiff, List.reduceReplicate, reduceIte, beq_self_eq_true, bne_self_eq_false, Int.reduceBEq, Int.reduceBNe, Bool.or_false, Bool.false_or, Bool.not_false, Bool.not_true]
      refine WO.call (.tuple #[.agg #[.int .i64 ((addP d (-a + t) (-b))).1, .int .i64 ((addP d (-a + t) (-b))).2.1, .int .i64 ((addP d (-a + t) (-b))).2.2], .int .i64 0]) (ds := []) rfl rfl rfl rfl co13 (fun ρ w1 hb => by have := iwrite_spec (hN.now (hb.first (by simp))) q a b lo hi k d; rw [wd] at this; exact this) ?_
      refine WO.go 6 (ds := []) rfl ?_
      simp only [sx, ty, Bool.false_eq_true, Int.reduceEq, Int.reduceLT, Nat.reduceAdd, Nat.reduceSub, Nat.reduceMul, Nat.reduceLT, Nat.reduceLeDiff, Nat.reduceEqDiff, List.reduceReplicate, reduceIte, beq_self_eq_true, bne_self_eq_false, Int.reduceBEq, Int.reduceBNe, Bool.or_false, Bool.false_or, Bool.not_false, Bool.not_true]
      with_reducible refine WO.nil ?_
      refine hK7 _ ?_; clear hK7
      refine W.seqK fun K8 hK8 => W.region ?_
      refine WO.go 2 (ds := []) rfl ?_
      simp only [sx, ty, Bool.false_eq_true, Int.reduceEq, Int.reduceLT, Nat.reduceAdd, Nat.reduceSub, Nat.reduceMul, Nat.reduceLT, Nat.reduceLeDiff, Nat.reduceEqDiff, List.reduceReplicate, reduceIte, beq_self_eq_true, bne_self_eq_false, Int.reduceBEq, Int.reduceBNe, Bool.or_false, Bool.false_or, Bool.not_false, Bool.not_true]
      refine WO.call (.tuple #[.agg #[.int .i64 (-a + t), .int .i64 (-b)], .int .i64 0]) (ds := []) rfl rfl rfl rfl co30 (fun ρ w1 hb => by have := between_spec (hN.now (hb.first (by simp))) c (addP c (-a + t) (-b)); rw [show betF c (addP c (-a + t) (-b)) = (-a + t, -b, 0) from bc] at this; exact this) ?_
      refine WO.go 6 (ds := []) rfl ?_
      simp only [sx, ty, Bool.false_eq_true, Int.reduceEq, Int.reduceLT, Nat.reduceAdd, Nat.reduceSub, Nat.reduceMul, Nat.reduceLT, Nat.reduceLeDiff, Nat.reduceEqDiff, List.reduceReplicate, reduceIte, beq_self_eq_true, bne_self_eq_false, Int.reduceBEq, Int.reduceBNe, Bool.or_false, Bool.false_or, Bool.not_false, Bool.not_true]
      with_reducible refine WO.nil ?_
      refine hK8 _ ?_; clear hK8
      refine W.seqK fun K9 hK9 => W.region ?_
      refine WO.go 2 (ds := []) rfl ?_
      simp only [sx, ty, Bool.false_eq_true, Int.reduceEq, Int.reduceLT, Nat.reduceAdd, Nat.reduceSub, Nat.reduceMul, Nat.reduceLT, Nat.reduceLeDiff, Nat.reduceEqDiff, List.reduceReplicate, reduceIte, beq_self_eq_true, bne_self_eq_false, Int.reduceBEq, Int.reduceBNe, Bool.or_false, Bool.false_or, Bool.not_false, Bool.not_true]
      refine WO.call (.tuple #[.agg #[.int .i64 (-a + t), .int .i64 (-b)], .int .i64 0]) (ds := []) rfl rfl rfl rfl co30 (fun ρ w1 hb => by have := between_spec (hN.now (hb.first (by simp))) d (addP d (-a + t) (-b)); rw [show betF d (addP d (-a + t) (-b)) = (-a + t, -b, 0) from bd] at this; exact this) ?_
      refine WO.go 6 (ds := []) rfl ?_
      simp only [sx, ty, Bool.false_eq_true, Int.reduceEq, Int.reduceLT, Nat.reduceAdd, Nat.reduceSub, Nat.reduceMul, Nat.reduceLT, Nat.reduceLeDiff, Nat.reduceEqDiff, List.reduceReplicate, reduceIte, beq_self_eq_true, bne_self_eq_false, Int.reduceBEq, Int.reduceBNe, Bool.or_false, Bool.false_or, Bool.not_false, Bool.not_true]
      with_reducible refine WO.nil ?_
      refine hK9 _ ?_; clear hK9
      refine W.seqK fun K10 hK10 => ?_
      refine W.seqK fun K11 hK11 => W.region ?_
      refine WO.go 14 (ds := [some 61, some 62, some 63, some 64, some 65, some 66, some 67, some 68, some 69, some 70, some 71, some 72, some 73, some 74]) rfl ?_
      simp only [sx, ty, Bool.false_eq_true, Int.reduceEq, Int.reduceLT, Nat.reduceAdd, Nat.reduceSub, Nat.reduceMul, Nat.reduceLT, Nat.reduceLeDiff, Nat.reduceEqDiff, List.reduceReplicate, reduceIte, beq_self_eq_true, bne_self_eq_false, Int.reduceBEq, Int.reduceBNe, Bool.or_false, Bool.false_or, Bool.not_false, Bool.not_true]
      with_reducible refine WO.nil ?_
      refine hK11 _ ?_; clear hK11
      refine W.cond rfl rfl (fun hc => ?_) (fun hc => ?_)
      · skip
        simp at hc
      · skip
        refine W.skip (hK10 _ ?_)
        refine W.pure (ds := []) rfl fun K12 hK12 => ?_
        simp only [sx, ty, Bool.false_eq_true, Int.reduceEq, Int.reduceLT, Nat.reduceAdd, Nat.reduceSub, Nat.reduceMul, Nat.reduceLT, Nat.reduceLeDiff, Nat.reduceEqDiff, List.reduceReplicate, reduceIte, beq_self_eq_true, bne_self_eq_false, Int.reduceBEq, Int.reduceBNe, Bool.or_false, Bool.false_or, Bool.not_false, Bool.not_true]; with_reducible refine hK12 _ ?_; clear hK12
        refine W.join 8 (.val (.bool true)) [] (W.region ?_) ?_
        · skip
          refine WO.go 2 (ds := [some 81, some 82, some 83, some 84, some 85, some 86, some 87, some 88, some 89, some 90, some 91, some 92, some 93, some 94, some 95, some 96, some 97, some 98, some 99, some 100, some 101, some 102, some 103, some 8]) rfl ?_
          simp only [sx, ty, Bool.false_eq_true, Int.reduceEq, Int.reduceLT, Nat.reduceAdd, Nat.reduceSub, Nat.reduceMul, Nat.reduceLT, Nat.reduceLeDiff, Nat.reduceEqDiff, List.reduceReplicate, reduceIte, beq_self_eq_true, bne_self_eq_false, Int.reduceBEq, Int.reduceBNe, Bool.or_false, Bool.false_or, Bool.not_false, Bool.not_true]
          refine WO.cases 82 _ rfl (fun hg82 => ?_) (fun hg82 => ?_)
          · skip
            refine WO.go 2 (ds := [some 81, some 82, some 83, some 84, some 85, some 86, some 87, some 88, some 89, some 90, some 91, some 92, some 93, some 94, some 95, some 96, some 97, some 98, some 99, some 100, some 101, some 102, some 103, some 8]) rfl ?_
            simp only [sx, ty, Bool.false_eq_true, Int.reduceEq, Int.reduceLT, Nat.reduceAdd, Nat.reduceSub, Nat.reduceMul, Nat.reduceLT, Nat.reduceLeDiff, Nat.reduceEqDiff, List.reduceReplicate, reduceIte, beq_self_eq_true, bne_self_eq_false, Int.reduceBEq, Int.reduceBNe, Bool.or_false, Bool.false_or, Bool.not_false, Bool.not_true]
            refine WO.aggCmp [-a + t, -b] [-a + t, -b] (ds := [some 81, some 82, some 83, some 84, some 85, some 86, some 87, some 88, some 89, some 90, some 91, some 92, some 93, some 94, some 95, some 96, some 97, some 98, some 99, some 100, some 101, some 102, some 103, some 8]) rfl rfl rfl rfl ⟨_, rfl, fun _ => rfl⟩ ⟨_, rfl, fun _ => rfl⟩ it23 rfl rfl rfl ?_
            refine WO.go 2 (ds := [some 81, some 82, some 83, some 84, some 85, some 86, some 87, some 88, some 89, some 90, some 91, some 92, some 93, some 94, some 95, some 96, some 97, some 98, some 99, some 100, some 101, some 102, some 103, some 8]) rfl ?_
            simp only [sx, ty, Bool.false_eq_true, Int.reduceEq, Int.reduceLT, Nat.reduceAdd, Nat.reduceSub, Nat.reduceMul, Nat.reduceLT, Nat.reduceLeDiff, Nat.reduceEqDiff, List.reduceReplicate, reduceIte, beq_self_eq_true, bne_self_eq_false, Int.reduceBEq, Int.reduceBNe, Bool.or_false, Bool.false_or, Bool.not_false, Bool.not_true]
            refine WO.cases 87 _ rfl (fun hg87 => ?_) (fun hg87 => ?_)
            · skip
              refine WO.go 9 (ds := [some 81, some 82, some 83, some 84, some 85, some 86, some 87, some 88, some 89, some 90, some 91, some 92, some 93, some 94, some 95, some 96, some 97, some 98, some 99, some 100, some 101, some 102, some 103, some 8]) rfl ?_
              simp only [sx, ty, Bool.false_eq_true, Int.reduceEq, Int.reduceLT, Nat.reduceAdd, Nat.reduceSub, Nat.reduceMul, Nat.reduceLT, Nat.reduceLeDiff, Nat.reduceEqDiff, List.reduceReplicate, reduceIte, beq_self_eq_true, bne_self_eq_false, Int.reduceBEq, Int.reduceBNe, Bool.or_false, Bool.false_or, Bool.not_false, Bool.not_true]
              refine WO.cases 96 _ rfl (fun hg96 => ?_) (fun hg96 => ?_)
              · skip
                refine WO.go 4 (ds := [some 81, some 82, some 83, some 84, some 85, some 86, some 87, some 88, some 89, some 90, some 91, some 92, some 93, some 94, some 95, some 96, some 97, some 98, some 99, some 100, some 101, some 102, some 103, some 8]) rfl ?_
                simp only [sx, ty, Bool.false_eq_true, Int.reduceEq, Int.reduceLT, Nat.reduceAdd, Nat.reduceSub, Nat.reduceMul, Nat.reduceLT, Nat.reduceLeDiff, Nat.reduceEqDiff, List.reduceReplicate, reduceIte, beq_self_eq_true, bne_self_eq_false, Int.reduceBEq, Int.reduceBNe, Bool.or_false, Bool.false_or, Bool.not_false, Bool.not_true]
                refine WO.cases 100 _ rfl (fun hg100 => ?_) (fun hg100 => ?_)
                · skip
                  refine WO.go 4 (ds := [some 81, some 82, some 83, some 84, some 85, some 86, some 87, some 88, some 89, some 90, some 91, some 92, some 93, some 94, some 95, some 96, some 97, some 98, some 99, some 100, some 101, some 102, some 103, some 8]) rfl ?_
                  simp only [sx, ty, Bool.false_eq_true, Int.reduceEq, Int.reduceLT, Nat.reduceAdd, Nat.reduceSub, Nat.reduceMul, Nat.reduceLT, Nat.reduceLeDiff, Nat.reduceEqDiff, List.reduceReplicate, reduceIte, beq_self_eq_true, bne_self_eq_false, Int.reduceBEq, Int.reduceBNe, Bool.or_false, Bool.false_or, Bool.not_false, Bool.not_true]
                  with_reducible refine WO.nil ?_
                  refine ⟨rfl, ?_, ⟨_, rfl⟩, by simp [Own.bnd, bndL, bnd, boxO], by simp⟩
                  try rw [hg82]
                  try rw [hg87]
                  try rw [hg96]
                  try rw [hg100]
                  simp [getE, bnd, keepE]
                  try simp_all
                  try omega
                · skip
                  refine WO.go 4 (ds := [some 81, some 82, some 83, some 84, some 85, some 86, some 87, some 88, some 89, some 90, some 91, some 92, some 93, some 94, some 95, some 96, some 97, some 98, some 99, some 100, some 101, some 102, some 103, some 8]) rfl ?_
                  simp only [sx, ty, Bool.false_eq_true, Int.reduceEq, Int.reduceLT, Nat.reduceAdd, Nat.reduceSub, Nat.reduceMul, Nat.reduceLT, Nat.reduceLeDiff, Nat.reduceEqDiff, List.reduceReplicate, reduceIte, beq_self_eq_true, bne_self_eq_false, Int.reduceBEq, Int.reduceBNe, Bool.or_false, Bool.false_or, Bool.not_false, Bool.not_true]
                  with_reducible refine WO.nil ?_
                  refine ⟨rfl, ?_, ⟨_, rfl⟩, by simp [Own.bnd, bndL, bnd, boxO], by simp⟩
                  try rw [hg82]
                  try rw [hg87]
                  try rw [hg96]
                  try rw [hg100]
                  simp [getE, bnd, keepE]
                  try simp_all
                  try omega
              · skip
                refine WO.go 8 (ds := [some 81, some 82, some 83, some 84, some 85, some 86, some 87, some 88, some 89, some 90, some 91, some 92, some 93, some 94, some 95, some 96, some 97, some 98, some 99, some 100, some 101, some 102, some 103, some 8]) rfl ?_
                simp only [sx, ty, Bool.false_eq_true, Int.reduceEq, Int.reduceLT, Nat.reduceAdd, Nat.reduceSub, Nat.reduceMul, Nat.reduceLT, Nat.reduceLeDiff, Nat.reduceEqDiff, List.reduceReplicate, reduceIte, beq_self_eq_true, bne_self_eq_false, Int.reduceBEq, Int.reduceBNe, Bool.or_false, Bool.false_or, Bool.not_false, Bool.not_true]
                with_reducible refine WO.nil ?_
                refine ⟨rfl, ?_, ⟨_, rfl⟩, by simp [Own.bnd, bndL, bnd, boxO], by simp⟩
                try rw [hg82]
                try rw [hg87]
                try rw [hg96]
                try rw [hg100]
                simp [getE, bnd, keepE]
                try simp_all
                try omega
            · skip
              refine WO.go 17 (ds := [some 81, some 82, some 83, some 84, some 85, some 86, some 87, some 88, some 89, some 90, some 91, some 92, some 93, some 94, some 95, some 96, some 97, some 98, some 99, some 100, some 101, some 102, some 103, some 8]) rfl ?_
              simp only [sx, ty, Bool.false_eq_true, Int.reduceEq, Int.reduceLT, Nat.reduceAdd, Nat.reduceSub, Nat.reduceMul, Nat.reduceLT, Nat.reduceLeDiff, Nat.reduceEqDiff, List.reduceReplicate, reduceIte, beq_self_eq_true, bne_self_eq_false, Int.reduceBEq, Int.reduceBNe, Bool.or_false, Bool.false_or, Bool.not_false, Bool.not_true]
              with_reducible refine WO.nil ?_
              refine ⟨rfl, ?_, ⟨_, rfl⟩, by simp [Own.bnd, bndL, bnd, boxO], by simp⟩
              try rw [hg82]
              try rw [hg87]
              try rw [hg96]
              try rw [hg100]
              simp [getE, bnd, keepE]
              try simp_all
              try omega
          · skip
            refine WO.go 22 (ds := [some 81, some 82, some 83, some 84, some 85, some 86, some 87, some 88, some 89, some 90, some 91, some 92, some 93, some 94, some 95, some 96, some 97, some 98, some 99, some 100, some 101, some 102, some 103, some 8]) rfl ?_
            simp only [sx, ty, Bool.false_eq_true, Int.reduceEq, Int.reduceLT, Nat.reduceAdd, Nat.reduceSub, Nat.reduceMul, Nat.reduceLT, Nat.reduceLeDiff, Nat.reduceEqDiff, List.reduceReplicate, reduceIte, beq_self_eq_true, bne_self_eq_false, Int.reduceBEq, Int.reduceBNe, Bool.or_false, Bool.false_or, Bool.not_false, Bool.not_true]
            with_reducible refine WO.nil ?_
            refine ⟨rfl, ?_, ⟨_, rfl⟩, by simp [Own.bnd, bndL, bnd, boxO], by simp⟩
            try rw [hg82]
            try rw [hg87]
            try rw [hg96]
            try rw [hg100]
            simp [getE, bnd, keepE]
            try simp_all
            try omega
        · simp only [sx, ty, Bool.false_eq_true, Int.reduceEq, Int.reduceLT, Nat.reduceAdd, Nat.reduceSub, Nat.reduceMul, Nat.reduceLT, Nat.reduceLeDiff, Nat.reduceEqDiff, List.reduceReplicate, reduceIte, sxk, beq_self_eq_true, bne_self_eq_false, Int.reduceBEq, Int.reduceBNe, Bool.or_false, Bool.false_or, Bool.not_false, Bool.not_true]
          refine W.ret ⟨by simp, _, rfl, fun ρ w1 hb => ?_⟩
          rfl
/-- function 9 -/
theorem law7 {w : World} (hN : GN w) (hG : GS w) (q : Int × Int × Int × Int × Int) (a b : Int) (lo hi : Pit) (k step oct : Int) (hs0 : 0 ≤ step ∧ step ≤ 255) (ho0 : 0 ≤ oct ∧ oct ≤ 255) : Gives Tryd.prog 9 #[.agg #[.int .i64 q.1, .int .i64 q.2.1, .int .i64 q.2.2.1, .int .i64 q.2.2.2.1, .int .i64 q.2.2.2.2, .int .i64 a, .int .i64 b, .int .i64 lo.1, .int .i64 lo.2.1, .int .i64 lo.2.2, .int .i64 hi.1, .int .i64 hi.2.1, .int .i64 hi.2.2], .int .i64 k, .int .u8 step, .int .u8 oct] w fun r _ => r = .bool true := by
  have hs := rem8 (d := 7) hs0 (by omega)
  have ho := rem8 (d := 10) ho0 (by omega)
  refine gives_of [.agg [.val (.int .i64 q.1), .val (.int .i64 q.2.1), .val (.int .i64 q.2.2.1), .val (.int .i64 q.2.2.2.1), .val (.int .i64 q.2.2.2.2), .val (.int .i64 a), .val (.int .i64 b), .val (.int .i64 lo.1), .val (.int .i64 lo.2.1), .val (.int .i64 lo.2.2), .val (.int .i64 hi.1), .val (.int .i64 hi.2.1), .val (.int .i64 hi.2.2)], .val (.int .i64 k), .val (.int .u8 step), .val (.int .u8 oct)] 82 [.tmp 8] Tryd.func9 rfl rfl rfl (by simp) rfl rfl ?_
  refine W.pure (ds := []) rfl fun K1 hK1 => ?_
  simp only [sx, ty, Bool.false_eq_true, Int.reduceEq, Int.reduceLT, Nat.reduceAdd, Nat.reduceSub, Nat.reduceMul, Nat.reduceLT, Nat.reduceLeDiff, Nat.reduceEqDiff, List.reduceReplicate, reduceIte, beq_self_eq_true, bne_self_eq_false, Int.reduceBEq, Int.reduceBNe, Bool.or_false, Bool.false_or, Bool.not_false, Bool.not_true]; with_reducible refine hK1 _ ?_; clear hK1
  refine W.seqK fun K2 hK2 => W.region ?_
  refine WO.call (.bool true) (ds := []) rfl rfl rfl rfl co10 (fun ρ w1 hb => head_spec (hN.now (hb.first (by simp)))) ?_
  refine WO.go 1 (ds := []) rfl ?_
  simp only [sx, ty, Bool.false_eq_true, Int.reduceEq, Int.reduceLT, Nat.reduceAdd, Nat.reduceSub, Nat.reduceMul, Nat.reduceLT, Nat.reduceLeDiff, Nat.reduceEqDiff, List.reduceReplicate, reduceIte, beq_self_eq_true, bne_self_eq_false, Int.reduceBEq, Int.reduceBNe, Bool.or_false, Bool.false_or, Bool.not_false, Bool.not_true]
  with_reducible refine WO.nil ?_
  refine hK2 _ ?_; clear hK2
  refine W.seqK fun K3 hK3 => ?_
  refine W.seqK fun K4 hK4 => W.region ?_
  refine WO.go 2 (ds := []) rfl ?_
  simp only [sx, ty, Bool.false_eq_true, Int.reduceEq, Int.reduceLT, Nat.reduceAdd, Nat.reduceSub, Nat.reduceMul, Nat.reduceLT, Nat.reduceLeDiff, Nat.reduceEqDiff, List.reduceReplicate, reduceIte, beq_self_eq_true, bne_self_eq_false, Int.reduceBEq, Int.reduceBNe, Bool.or_false, Bool.false_or, Bool.not_false, Bool.not_true]
  refine WO.call (.bool (okI a b lo hi k)) (ds := []) rfl rfl rfl rfl co21 (fun ρ w1 hb => right_spec w1 q a b lo hi k) ?_
  refine WO.go 1 (ds := []) rfl ?_
  simp only [sx, ty, Bool.false_eq_true, Int.reduceEq, Int.reduceLT, Nat.reduceAdd, Nat.reduceSub, Nat.reduceMul, Nat.reduceLT, Nat.reduceLeDiff, Nat.reduceEqDiff, List.reduceReplicate, reduceIte, beq_self_eq_true, bne_self_eq_false, Int.reduceBEq, Int.reduceBNe, Bool.or_false, Bool.false_or, Bool.not_false, Bool.not_true]
  with_reducible refine WO.nil ?_
  refine hK4 _ ?_; clear hK4
  refine W.cond rfl rfl (fun hc => ?_) (fun hc => ?_)
  · skip
    refine W.pure (ds := []) rfl fun K5 hK5 => ?_
    simp only [sx, ty, Bool.false_eq_true, Int.reduceEq, Int.reduceLT, Nat.reduceAdd, Nat.reduceSub, Nat.reduceMul, Nat.reduceLT, Nat.reduceLeDiff, Nat.reduceEqDiff, List.reduceReplicate, reduceIte, beq_self_eq_true, bne_self_eq_false, Int.reduceBEq, Int.reduceBNe, Bool.or_false, Bool.false_or, Bool.not_false, Bool.not_true]; with_reducible refine hK5 _ ?_; clear hK5
    refine W.ret ⟨by simp, _, rfl, fun ρ w1 hb => ?_⟩
    rfl
  · skip
    have hok : (okI a b lo hi k) = true := by simpa using hc
    obtain ⟨t, h1, h2, h3, h4, h5, h6, h7⟩ := ok_fact hok
    have hkb := within_iff.1 h6
    have hal := alter_bound k ((IntKind.i64.wrap step).tmod 7)
    have hvc : validP (((IntKind.i64.wrap step).tmod 7), alterF k ((IntKind.i64.wrap step).tmod 7), ((IntKind.i64.wrap oct).tmod 10)) = true := validP_iff.2 ⟨by omega, by simp only; omega, by simp only; omega⟩
    have hwr := (note_write (c := (((IntKind.i64.wrap step).tmod 7), alterF k ((IntKind.i64.wrap step).tmod 7), ((IntKind.i64.wrap oct).tmod 10))) hok h2 h5 hvc (by simp only; omega) (by simp only; omega)).1
    have hsc := scale_alter (k := k) (k1 := (7 * -b - 12 * (-a + t) + k)) (a1 := -a + t) (b := -b) (s := ((IntKind.i64.wrap step).tmod 7)) (o := ((IntKind.i64.wrap oct).tmod 10)) hkb h3 (by omega) (by omega)
    have hst := add_step (((IntKind.i64.wrap step).tmod 7), alterF k ((IntKind.i64.wrap step).tmod 7), ((IntKind.i64.wrap oct).tmod 10)) (-a + t) (-b)
    have e1 : keyF a b lo hi k = ((7 * -b - 12 * (-a + t) + k), 0) := by rw [keyF_yes hok, h2]
    refine W.skip (hK3 _ ?_)
    refine W.pure (ds := []) rfl fun K6 hK6 => ?_
    simp only [sx, ty, Bool.false_eq_true, Int.reduceEq, Int.reduceLT, Nat.reduceAdd, Nat.reduceSub, Nat.reduceMul, Nat.reduceLT, Nat.reduceLeDiff, Nat.reduceEqDiff, List.reduceReplicate, reduceIte, beq_self_eq_true, bne_self_eq_false, Int.reduceBEq, Int.reduceBNe, Bool.or_false, Bool.false_or, Bool.not_false, Bool.not_true]; with_reducible refine hK6 _ ?_; clear hK6
    refine W.seqK fun K7 hK7 => W.region ?_
    refine WO.go 2 (ds := []) rfl ?_
    simp only [sx, ty, Bool.false_eq_true, Int.reduceEq, Int.reduceLT, Nat.reduceAdd, Nat.reduceSub, Nat.reduceMul, Nat.reduceLT, Nat.reduceLeDiff, Nat.reduceEqDiff, List.reduceReplicate, reduceIte, beq_self_eq_true, bne_self_eq_false, Int.reduceBEq, Int.reduceBNe, Bool.or_false, Bool.false_or, Bool.not_false, Bool.not_true]
    refine WO.call (.tuple #[.int .i64 (alterF k ((IntKind.i64.wrap step).tmod 7)), .int .i64 0]) (ds := []) rfl rfl rfl rfl co31 (fun ρ w1 hb => by have := Alter_spec (hG.now (hb.first (by simp))) k ((IntKind.i64.wrap step).tmod 7); rw [AlterF_yes (by rw [h6, within_iff.2 (show 0 ≤ ((IntKind.i64.wrap step).tmod 7) ∧ ((IntKind.i64.wrap step).tmod 7) ≤ 6 by omega)]; rfl)] at this; exact this) ?_
    refine WO.go 5 (ds := []) rfl ?_
    simp only [sx, ty, Bool.false_eq_true, Int.reduceEq, Int.reduceLT, Nat.reduceAdd, Nat.reduceSub, Nat.reduceMul, Nat.reduceLT, Nat.reduceLeDiff, Nat.reduceEqDiff, List.reduceReplicate, reduceIte, beq_self_eq_true, bne_self_eq_false, Int.reduceBEq, Int.reduceBNe, Bool.or_false, Bool.false_or, Bool.not_false, Bool.not_true]
    with_reducible refine WO.nil ?_
    refine hK7 _ ?_; clear hK7
    refine W.seqK fun K8 hK8 => W.region ?_
    refine WO.go 5 (ds := []) rfl ?_
    simp only [sx, ty, Bool.false_eq_true, Int.reduceEq, Int.reduceLT, Nat.reduceAdd, Nat.reduceSub, Nat.reduceMul, Nat.reduceLT, Nat.reduceLeDiff, Nat.reduceEqDiff, List.reduceReplicate, reduceIte, beq_self_eq_true, bne_self_eq_false, Int.reduceBEq, Int.reduceBNe, Bool.or_false, Bool.false_or, Bool.not_false, Bool.not_true]
    refine WO.call (.agg #[.int .i64 ((IntKind.i64.wrap step).tmod 7), .int .i64 (alterF k ((IntKind.i64.wrap step).tmod 7)), .int .i64 ((IntKind.i64.wrap oct).tmod 10)]) (ds := []) rfl rfl rfl rfl co32 (fun ρ w1 hb => at_spec w1 ((IntKind.i64.wrap step).tmod 7) (alterF k ((IntKind.i64.wrap step).tmod 7)) ((IntKind.i64.wrap oct).tmod 10)) ?_
    refine WO.go 2 (ds := []) rfl ?_
    simp only [sx, ty, Bool.false_eq_true, Int.reduceEq, Int.reduceLT, Nat.reduceAdd, Nat.reduceSub, Nat.reduceMul, Nat.reduceLT, Nat.reduceLeDiff, Nat.reduceEqDiff, List.reduceReplicate, reduceIte, beq_self_eq_true, bne_self_eq_false, Int.reduceBEq, Int.reduceBNe, Bool.or_false, Bool.false_or, Bool.not_false, Bool.not_true]
    with_reducible refine WO.nil ?_
    refine hK8 _ ?_; clear hK8
    refine W.seqK fun K9 hK9 => W.region ?_
    refine WO.go 2 (ds := []) rfl ?_
    simp only [sx, ty, Bool.false_eq_true, Int.reduceEq, Int.reduceLT, Nat.reduceAdd, Nat.reduceSub, Nat.reduceMul, Nat.reduceLT, Nat.reduceLeDiff, Nat.reduceEqDiff, List.reduceReplicate, reduceIte, beq_self_eq_true, bne_self_eq_false, Int.reduceBEq, Int.reduceBNe, Bool.or_false, Bool.false_or, Bool.not_false, Bool.not_true]
    refine WO.call (.tuple #[.int .i64 (7 * -b - 12 * (-a + t) + k), .int .i64 0]) (ds := []) rfl rfl rfl rfl co11 (fun ρ w1 hb => by have := ikey_spec (hN.now (hb.first (by simp))) q a b lo hi k; rw [e1] at this; exact this) ?_
    refine WO.go 5 (ds := []) rfl ?_
    simp only [sx, ty, Bool.false_eq_true, Int.reduceEq, Int.reduceLT, Nat.reduceAdd, Nat.reduceSub, Nat.reduceMul, Nat.reduceLT, Nat.reduceLeDiff, Nat.reduceEqDiff, List.reduceReplicate, reduceIte, beq_self_eq_true, bne_self_eq_false, Int.reduceBEq, Int.reduceBNe, Bool.or_false, Bool.false_or, Bool.not_false, Bool.not_true]
    with_reducible refine WO.nil ?_
    refine hK9 _ ?_; clear hK9
    refine W.seqK fun K10 hK10 => W.region ?_
    refine WO.go 3 (ds := []) rfl ?_
    simp only [sx, ty, Bool.false_eq_true, Int.reduceEq, Int.reduceLT, Nat.reduceAdd, Nat.reduceSub, Nat.reduceMul, Nat.reduceLT, Nat.reduceLeDiff, Nat.reduceEqDiff, List.reduceReplicate, reduceIte, beq_self_eq_true, bne_self_eq_false, Int.reduceBEq, Int.reduceBNe, Bool.or_false, Bool.false_or, Bool.not_false, Bool.not_true]
    refine WO.call (.tuple #[.agg #[.int .i64 ((addP (((IntKind.i64.wrap step).tmod 7), alterF k ((IntKind.i64.wrap step).tmod 7), ((IntKind.i64.wrap oct).tmod 10)) (-a + t) (-b))).1, .int .i64 ((addP (((IntKind.i64.wrap step).tmod 7), alterF k ((IntKind.i64.wrap step).tmod 7), ((IntKind.i64.wrap oct).tmod 10)) (-a + t) (-b))).2.1, .int .i64 ((addP (((IntKind.i64.wrap step).tmod 7), alterF k ((IntKind.i64.wrap step).tmod 7), ((IntKind.i64.wrap oct).tmod 10)) (-a + t) (-b))).2.2], .int .i64 0]) (ds := []) rfl rfl rfl rfl co13 (fun ρ w1 hb => by have := iwrite_spec (hN.now (hb.first (by simp))) q a b lo hi k (((IntKind.i64.wrap step).tmod 7), alterF k ((IntKind.i64.wrap step).tmod 7), ((IntKind.i64.wrap oct).tmod 10)); rw [hwr] at this; exact this) ?_
    refine WO.go 6 (ds := []) rfl ?_
    simp only [sx, ty, Bool.false_eq_true, Int.reduceEq, Int.reduceLT, Nat.reduceAdd, Nat.reduceSub, Nat.reduceMul, Nat.reduceLT, Nat.reduceLeDiff, Nat.reduceEqDiff, List.reduceReplicate, reduceIte, beq_self_eq_true, bne_self_eq_false, Int.reduceBEq, Int.reduceBNe, Bool.or_false, Bool.false_or, Bool.not_false, Bool.not_true]
    with_reducible refine WO.nil ?_
    refine hK10 _ ?_; clear hK10
    refine W.seqK fun K11 hK11 => ?_
    refine W.seqK fun K12 hK12 => W.region ?_
    refine WO.go 10 (ds := [some 54, some 55, some 56, some 57, some 58, some 59, some 60, some 61, some 62, some 63]) rfl ?_
    simp only [sx, ty, Bool.false_eq_true, Int.reduceEq, Int.reduceLT, Nat.reduceAdd, Nat.reduceSub, Nat.reduceMul, Nat.reduceLT, Nat.reduceLeDiff, Nat.reduceEqDiff, List.reduceReplicate, reduceIte, beq_self_eq_true, bne_self_eq_false, Int.reduceBEq, Int.reduceBNe, Bool.or_false, Bool.false_or, Bool.not_false, Bool.not_true]
    with_reducible refine WO.nil ?_
    refine hK12 _ ?_; clear hK12
    refine W.cond rfl rfl (fun hc => ?_) (fun hc => ?_)
    · skip
      simp at hc
    · skip
      refine W.skip (hK11 _ ?_)
      refine W.seqK fun K13 hK13 => W.region ?_
      refine WO.go 3 (ds := []) rfl ?_
      simp only [sx, ty, Bool.false_eq_true, Int.reduceEq, Int.reduceLT, Nat.reduceAdd, Nat.reduceSub, Nat.reduceMul, Nat.reduceLT, Nat.reduceLeDiff, Nat.reduceEqDiff, List.reduceReplicate, reduceIte, beq_self_eq_true, bne_self_eq_false, Int.reduceBEq, Int.reduceBNe, Bool.or_false, Bool.false_or, Bool.not_false, Bool.not_true]
      refine WO.call (.tuple #[.int .i64 (alterF (7 * -b - 12 * (-a + t) + k) (addP (((IntKind.i64.wrap step).tmod 7), alterF k ((IntKind.i64.wrap step).tmod 7), ((IntKind.i64.wrap oct).tmod 10)) (-a + t) (-b)).1), .int .i64 0]) (ds := []) rfl rfl rfl rfl co31 (fun ρ w1 hb => by have := Alter_spec (hG.now (hb.first (by simp))) (7 * -b - 12 * (-a + t) + k) (addP (((IntKind.i64.wrap step).tmod 7), alterF k ((IntKind.i64.wrap step).tmod 7), ((IntKind.i64.wrap oct).tmod 10)) (-a + t) (-b)).1; rw [AlterF_yes (by rw [show isKey (7 * -b - 12 * (-a + t) + k) = true from within_iff.2 h3, within_iff.2 hst]; rfl)] at this; exact this) ?_
      refine WO.go 5 (ds := []) rfl ?_
      simp only [sx, ty, Bool.false_eq_true, Int.reduceEq, Int.reduceLT, Nat.reduceAdd, Nat.reduceSub, Nat.reduceMul, Nat.reduceLT, Nat.reduceLeDiff, Nat.reduceEqDiff, List.reduceReplicate, reduceIte, beq_self_eq_true, bne_self_eq_false, Int.reduceBEq, Int.reduceBNe, Bool.or_false, Bool.false_or, Bool.not_false, Bool.not_true]
      with_reducible refine WO.nil ?_
      refine hK13 _ ?_; clear hK13
      refine W.join 8 (.val (.bool true)) [] (W.region ?_) ?_
      · skip
        refine WO.go 2 (ds := [some 71, some 72, some 73, some 74, some 75, some 76, some 77, some 78, some 79, some 80, some 81, some 8]) rfl ?_
        simp only [sx, ty, Bool.false_eq_true, Int.reduceEq, Int.reduceLT, Nat.reduceAdd, Nat.reduceSub, Nat.reduceMul, Nat.reduceLT, Nat.reduceLeDiff, Nat.reduceEqDiff, List.reduceReplicate, reduceIte, beq_self_eq_true, bne_self_eq_false, Int.reduceBEq, Int.reduceBNe, Bool.or_false, Bool.false_or, Bool.not_false, Bool.not_true]
        refine WO.cases 72 _ rfl (fun hg72 => ?_) (fun hg72 => ?_)
        · skip
          refine WO.go 4 (ds := [some 71, some 72, some 73, some 74, some 75, some 76, some 77, some 78, some 79, some 80, some 81, some 8]) rfl ?_
          simp only [sx, ty, Bool.false_eq_true, Int.reduceEq, Int.reduceLT, Nat.reduceAdd, Nat.reduceSub, Nat.reduceMul, Nat.reduceLT, Nat.reduceLeDiff, Nat.reduceEqDiff, List.reduceReplicate, reduceIte, beq_self_eq_true, bne_self_eq_false, Int.reduceBEq, Int.reduceBNe, Bool.or_false, Bool.false_or, Bool.not_false, Bool.not_true]
          refine WO.cases 76 _ rfl (fun hg76 => ?_) (fun hg76 => ?_)
          · skip
            refine WO.go 6 (ds := [some 71, some 72, some 73, some 74, some 75, some 76, some 77, some 78, some 79, some 80, some 81, some 8]) rfl ?_
            simp only [sx, ty, Bool.false_eq_true, Int.reduceEq, Int.reduceLT, Nat.reduceAdd, Nat.reduceSub, Nat.reduceMul, Nat.reduceLT, Nat.reduceLeDiff, Nat.reduceEqDiff, List.reduceReplicate, reduceIte, beq_self_eq_true, bne_self_eq_false, Int.reduceBEq, Int.reduceBNe, Bool.or_false, Bool.false_or, Bool.not_false, Bool.not_true]
            with_reducible refine WO.nil ?_
            refine ⟨rfl, ?_, ⟨_, rfl⟩, by simp [Own.bnd, bndL, bnd, boxO], by simp⟩
            try rw [hg72]
            try rw [hg76]
            simp [getE, bnd, keepE]
            try simp_all
            try omega
          · skip
            refine WO.go 6 (ds := [some 71, some 72, some 73, some 74, some 75, some 76, some 77, some 78, some 79, some 80, some 81, some 8]) rfl ?_
            simp only [sx, ty, Bool.false_eq_true, Int.reduceEq, Int.reduceLT, Nat.reduceAdd, Nat.reduceSub, Nat.reduceMul, Nat.reduceLT, Nat.reduceLeDiff, Nat.reduceEqDiff, List.reduceReplicate, reduceIte, beq_self_eq_true, bne_self_eq_false, Int.reduceBEq, Int.reduceBNe, Bool.or_false, Bool.false_or, Bool.not_false, Bool.not_true]
            with_reducible refine WO.nil ?_
            refine ⟨rfl, ?_, ⟨_, rfl⟩, by simp [Own.bnd, bndL, bnd, boxO], by simp⟩
            try rw [hg72]
            try rw [hg76]
            simp [getE, bnd, keepE]
            try simp_all
            try omega
        · skip
          refine WO.go 10 (ds := [some 71, some 72, some 73, some 74, some 75, some 76, some 77, some 78, some 79, some 80, some 81, some 8]) rfl ?_
          simp only [sx, ty, Bool.false_eq_true, Int.reduceEq, Int.reduceLT, Nat.reduceAdd, Nat.reduceSub, Nat.reduceMul, Nat.reduceLT, Nat.reduceLeDiff, Nat.reduceEqDiff, List.reduceReplicate, reduceIte, beq_self_eq_true, bne_self_eq_false, Int.reduceBEq, Int.reduceBNe, Bool.or_false, Bool.false_or, Bool.not_false, Bool.not_true]
          with_reducible refine WO.nil ?_
          refine ⟨rfl, ?_, ⟨_, rfl⟩, by simp [Own.bnd, bndL, bnd, boxO], by simp⟩
          try rw [hg72]
          try rw [hg76]
          simp [getE, bnd, keepE]
          try simp_all
          try omega
      · simp only [sx, ty, Bool.false_eq_true, Int.reduceEq, Int.reduceLT, Nat.reduceAdd, Nat.reduceSub, Nat.reduceMul, Nat.reduceLT, Nat.reduceLeDiff, Nat.reduceEqDiff, List.reduceReplicate, reduceIte, sxk, beq_self_eq_true, bne_self_eq_false, Int.reduceBEq, Int.reduceBNe, Bool.or_false, Bool.false_or, Bool.not_false, Bool.not_true]
        refine W.ret ⟨by simp, _, rfl, fun ρ w1 hb => ?_⟩
        rfl
end Go.Proofs.YtpbohhfpbjofaaaDoor
