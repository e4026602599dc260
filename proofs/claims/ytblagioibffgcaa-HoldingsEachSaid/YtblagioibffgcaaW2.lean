/-
  Holdings: what package holdings computes: walks.
-/
import Derived.Test.YtblagioibffgcaaW1
set_option linter.unusedVariables false
set_option linter.unusedSimpArgs false
set_option maxHeartbeats 400000
namespace Go.Proofs.Ytblagioibffgcaa
open Go Go.SX Go.RowKit
/-- function 35 -/
theorem key35 (w : World) (x : Int) : Gives Try.prog 35 #[.int .i64 x] w fun r _ => r = .int .i64 x := by
  refine gives_of [.val (.int .i64 x)] 4 [.tmp 2] Try.func35 rfl rfl rfl (by simp) rfl rfl ?_
  refine W.pure (ds := []) rfl fun K1 hK1 => ?_
  simp only [sx, ty, Bool.false_eq_true, Int.reduceEq, Int.reduceLT, Nat.reduceAdd, Nat.reduceSub, Nat.reduceMul, Nat.reduceLT, Nat.reduceLeDiff, Nat.reduceEqDiff, List.reduceReplicate, reduceIte]; with_reducible refine hK1 _ ?_; clear hK1
  refine W.pure (ds := []) rfl fun K2 hK2 => ?_
  simp only [sx, ty, Bool.false_eq_true, Int.reduceEq, Int.reduceLT, Nat.reduceAdd, Nat.reduceSub, Nat.reduceMul, Nat.reduceLT, Nat.reduceLeDiff, Nat.reduceEqDiff, List.reduceReplicate, reduceIte]; with_reducible refine hK2 _ ?_; clear hK2
  refine W.ret ⟨by simp, _, rfl, fun ρ w1 hb => ?_⟩
  rfl
/-- function 26 -/
theorem key26 {S : Nat → Prop} {w : World} {ces : List Value} {d : Dem} (hd : rDem.rd S w ces d) : Gives Try.prog 26 #[.agg ces.toArray] w fun r _ => r = .int .i64 d.1 := by
  obtain ⟨p, c, rfl, hel, hlen⟩ := rDem_open hd
  refine gives_of [.agg [.val (.int .i64 d.1), .val (.int .i64 d.2.1), .val (.int .i64 d.2.2.1), .val (.slice p d.2.2.2.length c)]] 5 [.tmp 2] Try.func26 rfl rfl rfl (by simp) rfl rfl ?_
  refine W.pure (ds := []) rfl fun K1 hK1 => ?_
  simp only [sx, ty, Bool.false_eq_true, Int.reduceEq, Int.reduceLT, Nat.reduceAdd, Nat.reduceSub, Nat.reduceMul, Nat.reduceLT, Nat.reduceLeDiff, Nat.reduceEqDiff, List.reduceReplicate, reduceIte]; with_reducible refine hK1 _ ?_; clear hK1
  refine W.pure (ds := []) rfl fun K2 hK2 => ?_
  simp only [sx, ty, Bool.false_eq_true, Int.reduceEq, Int.reduceLT, Nat.reduceAdd, Nat.reduceSub, Nat.reduceMul, Nat.reduceLT, Nat.reduceLeDiff, Nat.reduceEqDiff, List.reduceReplicate, reduceIte]; with_reducible refine hK2 _ ?_; clear hK2
  refine W.ret ⟨by simp, _, rfl, fun ρ w1 hb => ?_⟩
  rfl
/-- function 28 -/
theorem key28 {S : Nat → Prop} {w : World} {ces : List Value} {c : Cop} (hd : rCop.rd S w ces c) : Gives Try.prog 28 #[.agg ces.toArray] w fun r _ => r = .int .i64 c.1 := by
  obtain rfl := rCop_open hd
  refine gives_of [.agg [.val (.int .i64 c.1), .val (.int .i64 c.2.1), .val (.int .i64 c.2.2.1), .val (.int .i64 c.2.2.2)]] 5 [.tmp 2] Try.func28 rfl rfl rfl (by simp) rfl rfl ?_
  refine W.pure (ds := []) rfl fun K1 hK1 => ?_
  simp only [sx, ty, Bool.false_eq_true, Int.reduceEq, Int.reduceLT, Nat.reduceAdd, Nat.reduceSub, Nat.reduceMul, Nat.reduceLT, Nat.reduceLeDiff, Nat.reduceEqDiff, List.reduceReplicate, reduceIte]; with_reducible refine hK1 _ ?_; clear hK1
  refine W.pure (ds := []) rfl fun K2 hK2 => ?_
  simp only [sx, ty, Bool.false_eq_true, Int.reduceEq, Int.reduceLT, Nat.reduceAdd, Nat.reduceSub, Nat.reduceMul, Nat.reduceLT, Nat.reduceLeDiff, Nat.reduceEqDiff, List.reduceReplicate, reduceIte]; with_reducible refine hK2 _ ?_; clear hK2
  refine W.ret ⟨by simp, _, rfl, fun ρ w1 hb => ?_⟩
  rfl
/-- function 23 -/
theorem isDemand_spec {S : Nat → Prop} {w : World} {ces : List Value} {d : Dem} (hd : rDem.rd S w ces d) : Gives Try.prog 23 #[.agg ces.toArray] w fun r _ => r = .bool (validD d) := by
  obtain ⟨p, c, rfl, hel, hlen⟩ := rDem_open hd
  refine gives_of [.agg [.val (.int .i64 d.1), .val (.int .i64 d.2.1), .val (.int .i64 d.2.2.1), .val (.slice p d.2.2.2.length c)]] 30 [.tmp 2] Try.func23 rfl rfl rfl (by simp) rfl rfl ?_
  refine W.pure (ds := []) rfl fun K1 hK1 => ?_
  simp only [sx, ty, Bool.false_eq_true, Int.reduceEq, Int.reduceLT, Nat.reduceAdd, Nat.reduceSub, Nat.reduceMul, Nat.reduceLT, Nat.reduceLeDiff, Nat.reduceEqDiff, List.reduceReplicate, reduceIte]; with_reducible refine hK1 _ ?_; clear hK1
  refine W.pure (ds := []) rfl fun K2 hK2 => ?_
  simp only [sx, ty, Bool.false_eq_true, Int.reduceEq, Int.reduceLT, Nat.reduceAdd, Nat.reduceSub, Nat.reduceMul, Nat.reduceLT, Nat.reduceLeDiff, Nat.reduceEqDiff, List.reduceReplicate, reduceIte]; with_reducible refine hK2 _ ?_; clear hK2
  refine W.join 2 (.val (.bool ([d.1, d.2.1, d.2.2.1].all (within 1 1000000) && ([(d.2.2.2.length : Int)].all (within 1 12) && (d.2.2.2.all (within 1 1000000) && decide (d.2.2.2.map fun x => x).Nodup))))) [] (W.region ?_) ?_
  · skip
    refine WO.go 7 (ds := [some 7, some 8, some 9, some 10, some 11, some 12, some 13, some 14, some 15, some 16, some 17, some 18, some 19, some 20, some 21, some 22, some 23, some 24, some 25, some 26, some 27, some 28, some 29, some 2]) rfl ?_
    simp only [sx, ty, Bool.false_eq_true, Int.reduceEq, Int.reduceLT, Nat.reduceAdd, Nat.reduceSub, Nat.reduceMul, Nat.reduceLT, Nat.reduceLeDiff, Nat.reduceEqDiff, List.reduceReplicate, reduceIte]
    refine WO.call (.bool ([d.1, d.2.1, d.2.2.1].all (within 1 1000000))) (ds := [some 7, some 8, some 9, some 10, some 11, some 12, some 13, some 14, some 15, some 16, some 17, some 18, some 19, some 20, some 21, some 22, some 23, some 24, some 25, some 26, some 27, some 28, some 29, some 2]) rfl rfl rfl rfl co19 (fun ρ w1 hb => within_spec (own_ints (xs := [d.1, d.2.1, d.2.2.1]) hb rfl rfl rfl (by simp)) _ _) ?_
    refine WO.go 1 (ds := [some 7, some 8, some 9, some 10, some 11, some 12, some 13, some 14, some 15, some 16, some 17, some 18, some 19, some 20, some 21, some 22, some 23, some 24, some 25, some 26, some 27, some 28, some 29, some 2]) rfl ?_
    simp only [sx, ty, Bool.false_eq_true, Int.reduceEq, Int.reduceLT, Nat.reduceAdd, Nat.reduceSub, Nat.reduceMul, Nat.reduceLT, Nat.reduceLeDiff, Nat.reduceEqDiff, List.reduceReplicate, reduceIte]
    refine WO.cases 15 _ rfl (fun hg15 => ?_) (fun hg15 => ?_)
    · skip
      refine WO.go 2 (ds := [some 7, some 8, some 9, some 10, some 11, some 12, some 13, some 14, some 15, some 16, some 17, some 18, some 19, some 20, some 21, some 22, some 23, some 24, some 25, some 26, some 27, some 28, some 29, some 2]) rfl ?_
      simp only [sx, ty, Bool.false_eq_true, Int.reduceEq, Int.reduceLT, Nat.reduceAdd, Nat.reduceSub, Nat.reduceMul, Nat.reduceLT, Nat.reduceLeDiff, Nat.reduceEqDiff, List.reduceReplicate, reduceIte]
      refine WO.call (.bool ([(d.2.2.2.length : Int)].all (within 1 12))) (ds := [some 7, some 8, some 9, some 10, some 11, some 12, some 13, some 14, some 15, some 16, some 17, some 18, some 19, some 20, some 21, some 22, some 23, some 24, some 25, some 26, some 27, some 28, some 29, some 2]) rfl rfl rfl rfl co19 (fun ρ w1 hb => within_spec (own_ints (xs := [(d.2.2.2.length : Int)]) hb rfl rfl rfl (by simp)) _ _) ?_
      refine WO.go 2 (ds := [some 7, some 8, some 9, some 10, some 11, some 12, some 13, some 14, some 15, some 16, some 17, some 18, some 19, some 20, some 21, some 22, some 23, some 24, some 25, some 26, some 27, some 28, some 29, some 2]) rfl ?_
      simp only [sx, ty, Bool.false_eq_true, Int.reduceEq, Int.reduceLT, Nat.reduceAdd, Nat.reduceSub, Nat.reduceMul, Nat.reduceLT, Nat.reduceLeDiff, Nat.reduceEqDiff, List.reduceReplicate, reduceIte]
      refine WO.cases 20 _ rfl (fun hg20 => ?_) (fun hg20 => ?_)
      · skip
        refine WO.go 2 (ds := [some 7, some 8, some 9, some 10, some 11, some 12, some 13, some 14, some 15, some 16, some 17, some 18, some 19, some 20, some 21, some 22, some 23, some 24, some 25, some 26, some 27, some 28, some 29, some 2]) rfl ?_
        simp only [sx, ty, Bool.false_eq_true, Int.reduceEq, Int.reduceLT, Nat.reduceAdd, Nat.reduceSub, Nat.reduceMul, Nat.reduceLT, Nat.reduceLeDiff, Nat.reduceEqDiff, List.reduceReplicate, reduceIte]
        refine WO.call (.bool (d.2.2.2.all (within 1 1000000))) (ds := [some 7, some 8, some 9, some 10, some 11, some 12, some 13, some 14, some 15, some 16, some 17, some 18, some 19, some 20, some 21, some 22, some 23, some 24, some 25, some 26, some 27, some 28, some 29, some 2]) rfl rfl rfl rfl co19 (fun ρ w1 hb => within_spec (Rp.now hel (hb.first (by simp))) _ _) ?_
        refine WO.go 2 (ds := [some 7, some 8, some 9, some 10, some 11, some 12, some 13, some 14, some 15, some 16, some 17, some 18, some 19, some 20, some 21, some 22, some 23, some 24, some 25, some 26, some 27, some 28, some 29, some 2]) rfl ?_
        simp only [sx, ty, Bool.false_eq_true, Int.reduceEq, Int.reduceLT, Nat.reduceAdd, Nat.reduceSub, Nat.reduceMul, Nat.reduceLT, Nat.reduceLeDiff, Nat.reduceEqDiff, List.reduceReplicate, reduceIte]
        refine WO.cases 25 _ rfl (fun hg25 => ?_) (fun hg25 => ?_)
        · skip
          refine WO.go 2 (ds := [some 7, some 8, some 9, some 10, some 11, some 12, some 13, some 14, some 15, some 16, some 17, some 18, some 19, some 20, some 21, some 22, some 23, some 24, some 25, some 26, some 27, some 28, some 29, some 2]) rfl ?_
          simp only [sx, ty, Bool.false_eq_true, Int.reduceEq, Int.reduceLT, Nat.reduceAdd, Nat.reduceSub, Nat.reduceMul, Nat.reduceLT, Nat.reduceLeDiff, Nat.reduceEqDiff, List.reduceReplicate, reduceIte]
          refine WO.call (.bool (decide (d.2.2.2.map fun x => x).Nodup)) (ds := [some 7, some 8, some 9, some 10, some 11, some 12, some 13, some 14, some 15, some 16, some 17, some 18, some 19, some 20, some 21, some 22, some 23, some 24, some 25, some 26, some 27, some 28, some 29, some 2]) rfl rfl rfl rfl co34 (fun ρ w1 hb => diffInt_spec (Rp.now hel (hb.first (by simp))) (fun x => x) 35 co35 fun w2 _ x _ ces hces => by obtain rfl := rInt_open hces; exact key35 w2 x) ?_
          refine WO.go 2 (ds := [some 7, some 8, some 9, some 10, some 11, some 12, some 13, some 14, some 15, some 16, some 17, some 18, some 19, some 20, some 21, some 22, some 23, some 24, some 25, some 26, some 27, some 28, some 29, some 2]) rfl ?_
          simp only [sx, ty, Bool.false_eq_true, Int.reduceEq, Int.reduceLT, Nat.reduceAdd, Nat.reduceSub, Nat.reduceMul, Nat.reduceLT, Nat.reduceLeDiff, Nat.reduceEqDiff, List.reduceReplicate, reduceIte]
          with_reducible refine WO.nil ?_
          refine ⟨rfl, ?_, ⟨_, rfl⟩, by simp [Own.bnd, bndL, bnd, boxO], by simp⟩
          try rw [hg15]
          try rw [hg20]
          try rw [hg25]
          try rw [hg11]
          try rw [hg12]
          try rw [hg39]
          simp [getE, bnd, keepE]
        · skip
          refine WO.go 5 (ds := [some 7, some 8, some 9, some 10, some 11, some 12, some 13, some 14, some 15, some 16, some 17, some 18, some 19, some 20, some 21, some 22, some 23, some 24, some 25, some 26, some 27, some 28, some 29, some 2]) rfl ?_
          simp only [sx, ty, Bool.false_eq_true, Int.reduceEq, Int.reduceLT, Nat.reduceAdd, Nat.reduceSub, Nat.reduceMul, Nat.reduceLT, Nat.reduceLeDiff, Nat.reduceEqDiff, List.reduceReplicate, reduceIte]
          with_reducible refine WO.nil ?_
          refine ⟨rfl, ?_, ⟨_, rfl⟩, by simp [Own.bnd, bndL, bnd, boxO], by simp⟩
          try rw [hg15]
          try rw [hg20]
          try rw [hg25]
          try rw [hg11]
          try rw [hg12]
          try rw [hg39]
          simp [getE, bnd, keepE]
      · skip
        refine WO.go 10 (ds := [some 7, some 8, some 9, some 10, some 11, some 12, some 13, some 14, some 15, some 16, some 17, some 18, some 19, some 20, some 21, some 22, some 23, some 24, some 25, some 26, some 27, some 28, some 29, some 2]) rfl ?_
        simp only [sx, ty, Bool.false_eq_true, Int.reduceEq, Int.reduceLT, Nat.reduceAdd, Nat.reduceSub, Nat.reduceMul, Nat.reduceLT, Nat.reduceLeDiff, Nat.reduceEqDiff, List.reduceReplicate, reduceIte]
        with_reducible refine WO.nil ?_
        refine ⟨rfl, ?_, ⟨_, rfl⟩, by simp [Own.bnd, bndL, bnd, boxO], by simp⟩
        try rw [hg15]
        try rw [hg20]
        try rw [hg25]
        try rw [hg11]
        try rw [hg12]
        try rw [hg39]
        simp [getE, bnd, keepE]
    · skip
      refine WO.go 15 (ds := [some 7, some 8, some 9, some 10, some 11, some 12, some 13, some 14, some 15, some 16, some 17, some 18, some 19, some 20, some 21, some 22, some 23, some 24, some 25, some 26, some 27, some 28, some 29, some 2]) rfl ?_
      simp only [sx, ty, Bool.false_eq_true, Int.reduceEq, Int.reduceLT, Nat.reduceAdd, Nat.reduceSub, Nat.reduceMul, Nat.reduceLT, Nat.reduceLeDiff, Nat.reduceEqDiff, List.reduceReplicate, reduceIte]
      with_reducible refine WO.nil ?_
      refine ⟨rfl, ?_, ⟨_, rfl⟩, by simp [Own.bnd, bndL, bnd, boxO], by simp⟩
      try rw [hg15]
      try rw [hg20]
      try rw [hg25]
      try rw [hg11]
      try rw [hg12]
      try rw [hg39]
      simp [getE, bnd, keepE]
  · simp only [sx, ty, Bool.false_eq_true, Int.reduceEq, Int.reduceLT, Nat.reduceAdd, Nat.reduceSub, Nat.reduceMul, Nat.reduceLT, Nat.reduceLeDiff, Nat.reduceEqDiff, List.reduceReplicate, reduceIte, sxk]
    refine W.ret ⟨by simp, _, rfl, fun ρ w1 hb => ?_⟩
    simp [den, validD, Bool.and_assoc]
/-- function 24 -/
theorem isCopy_spec {S : Nat → Prop} {w : World} {ces : List Value} {c : Cop} (hd : rCop.rd S w ces c) : Gives Try.prog 24 #[.agg ces.toArray] w fun r _ => r = .bool (validC c) := by
  obtain rfl := rCop_open hd
  refine gives_of [.agg [.val (.int .i64 c.1), .val (.int .i64 c.2.1), .val (.int .i64 c.2.2.1), .val (.int .i64 c.2.2.2)]] 17 [.tmp 2] Try.func24 rfl rfl rfl (by simp) rfl rfl ?_
  refine W.pure (ds := []) rfl fun K1 hK1 => ?_
  simp only [sx, ty, Bool.false_eq_true, Int.reduceEq, Int.reduceLT, Nat.reduceAdd, Nat.reduceSub, Nat.reduceMul, Nat.reduceLT, Nat.reduceLeDiff, Nat.reduceEqDiff, List.reduceReplicate, reduceIte]; with_reducible refine hK1 _ ?_; clear hK1
  refine W.join 2 (.val (.bool ([c.1, c.2.1, c.2.2.1].all (within 1 1000000) && [c.2.2.2].all (within 0 99)))) [] (W.region ?_) ?_
  · skip
    refine WO.go 7 (ds := [some 3, some 4, some 5, some 6, some 7, some 8, some 9, some 10, some 11, some 12, some 13, some 14, some 15, some 16, some 2]) rfl ?_
    simp only [sx, ty, Bool.false_eq_true, Int.reduceEq, Int.reduceLT, Nat.reduceAdd, Nat.reduceSub, Nat.reduceMul, Nat.reduceLT, Nat.reduceLeDiff, Nat.reduceEqDiff, List.reduceReplicate, reduceIte]
    refine WO.call (.bool ([c.1, c.2.1, c.2.2.1].all (within 1 1000000))) (ds := [some 3, some 4, some 5, some 6, some 7, some 8, some 9, some 10, some 11, some 12, some 13, some 14, some 15, some 16, some 2]) rfl rfl rfl rfl co19 (fun ρ w1 hb => within_spec (own_ints (xs := [c.1, c.2.1, c.2.2.1]) hb rfl rfl rfl (by simp)) _ _) ?_
    refine WO.go 1 (ds := [some 3, some 4, some 5, some 6, some 7, some 8, some 9, some 10, some 11, some 12, some 13, some 14, some 15, some 16, some 2]) rfl ?_
    simp only [sx, ty, Bool.false_eq_true, Int.reduceEq, Int.reduceLT, Nat.reduceAdd, Nat.reduceSub, Nat.reduceMul, Nat.reduceLT, Nat.reduceLeDiff, Nat.reduceEqDiff, List.reduceReplicate, reduceIte]
    refine WO.cases 11 _ rfl (fun hg11 => ?_) (fun hg11 => ?_)
    · skip
      refine WO.go 3 (ds := [some 3, some 4, some 5, some 6, some 7, some 8, some 9, some 10, some 11, some 12, some 13, some 14, some 15, some 16, some 2]) rfl ?_
      simp only [sx, ty, Bool.false_eq_true, Int.reduceEq, Int.reduceLT, Nat.reduceAdd, Nat.reduceSub, Nat.reduceMul, Nat.reduceLT, Nat.reduceLeDiff, Nat.reduceEqDiff, List.reduceReplicate, reduceIte]
      refine WO.call (.bool ([c.2.2.2].all (within 0 99))) (ds := [some 3, some 4, some 5, some 6, some 7, some 8, some 9, some 10, some 11, some 12, some 13, some 14, some 15, some 16, some 2]) rfl rfl rfl rfl co19 (fun ρ w1 hb => within_spec (own_ints (xs := [c.2.2.2]) hb rfl rfl rfl (by simp)) _ _) ?_
      refine WO.go 2 (ds := [some 3, some 4, some 5, some 6, some 7, some 8, some 9, some 10, some 11, some 12, some 13, some 14, some 15, some 16, some 2]) rfl ?_
      simp only [sx, ty, Bool.false_eq_true, Int.reduceEq, Int.reduceLT, Nat.reduceAdd, Nat.reduceSub, Nat.reduceMul, Nat.reduceLT, Nat.reduceLeDiff, Nat.reduceEqDiff, List.reduceReplicate, reduceIte]
      with_reducible refine WO.nil ?_
      refine ⟨rfl, ?_, ⟨_, rfl⟩, by simp [Own.bnd, bndL, bnd, boxO], by simp⟩
      try rw [hg15]
      try rw [hg20]
      try rw [hg25]
      try rw [hg11]
      try rw [hg12]
      try rw [hg39]
      simp [getE, bnd, keepE]
    · skip
      refine WO.go 6 (ds := [some 3, some 4, some 5, some 6, some 7, some 8, some 9, some 10, some 11, some 12, some 13, some 14, some 15, some 16, some 2]) rfl ?_
      simp only [sx, ty, Bool.false_eq_true, Int.reduceEq, Int.reduceLT, Nat.reduceAdd, Nat.reduceSub, Nat.reduceMul, Nat.reduceLT, Nat.reduceLeDiff, Nat.reduceEqDiff, List.reduceReplicate, reduceIte]
      with_reducible refine WO.nil ?_
      refine ⟨rfl, ?_, ⟨_, rfl⟩, by simp [Own.bnd, bndL, bnd, boxO], by simp⟩
      try rw [hg15]
      try rw [hg20]
      try rw [hg25]
      try rw [hg11]
      try rw [hg12]
      try rw [hg39]
      simp [getE, bnd, keepE]
  · simp only [sx, ty, Bool.false_eq_true, Int.reduceEq, Int.reduceLT, Nat.reduceAdd, Nat.reduceSub, Nat.reduceMul, Nat.reduceLT, Nat.reduceLeDiff, Nat.reduceEqDiff, List.reduceReplicate, reduceIte, sxk]
    refine W.ret ⟨by simp, _, rfl, fun ρ w1 hb => ?_⟩
    simp [den, validC, Bool.and_assoc]
/-- function 12 -/
theorem valid_spec {S S2 : Nat → Prop} {w : World} {v u : Value} {ds : List Dem} {cs : List Cop} (hl : rDems.rd S w [v] ds) (hl2 : rCops.rd S2 w [u] cs) : Gives Try.prog 12 #[v, u] w fun r _ => r = .bool (valid ds cs) := by
  obtain ⟨p, c, rfl, hc1, hc2⟩ := Rp.slice_val hl
  obtain ⟨p2, c2, rfl, hc3, hc4⟩ := Rp.slice_val hl2
  have hl : (Rp.slice rDem).rd (fun _ => True) w _ ds := Rp.any hl
  have hl2 : (Rp.slice rCop).rd (fun _ => True) w _ cs := Rp.any hl2
  refine gives_of [.val (.slice p ds.length c), .val (.slice p2 cs.length c2)] 43 [.tmp 4] Try.func12 rfl rfl rfl (by simp) rfl rfl ?_
  refine W.pure (ds := []) rfl fun K1 hK1 => ?_
  simp only [sx, ty, Bool.false_eq_true, Int.reduceEq, Int.reduceLT, Nat.reduceAdd, Nat.reduceSub, Nat.reduceMul, Nat.reduceLT, Nat.reduceLeDiff, Nat.reduceEqDiff, List.reduceReplicate, reduceIte]; with_reducible refine hK1 _ ?_; clear hK1
  refine W.seqK fun K2 hK2 => ?_
  refine W.join 16 (.val (.bool (decide (200 < (ds.length : Int)) || decide (200 < (cs.length : Int))))) [0, 1] (W.region ?_) ?_
  · skip
    refine WO.go 4 (ds := [some 9, some 10, some 11, some 12, some 13, some 14, some 15, some 16]) rfl ?_
    simp only [sx, ty, Bool.false_eq_true, Int.reduceEq, Int.reduceLT, Nat.reduceAdd, Nat.reduceSub, Nat.reduceMul, Nat.reduceLT, Nat.reduceLeDiff, Nat.reduceEqDiff, List.reduceReplicate, reduceIte]
    refine WO.cases 12 _ rfl (fun hg12 => ?_) (fun hg12 => ?_)
    · skip
      refine WO.go 4 (ds := [some 9, some 10, some 11, some 12, some 13, some 14, some 15, some 16]) rfl ?_
      simp only [sx, ty, Bool.false_eq_true, Int.reduceEq, Int.reduceLT, Nat.reduceAdd, Nat.reduceSub, Nat.reduceMul, Nat.reduceLT, Nat.reduceLeDiff, Nat.reduceEqDiff, List.reduceReplicate, reduceIte]
      with_reducible refine WO.nil ?_
      refine ⟨rfl, ?_, ⟨_, rfl⟩, by simp [Own.bnd, bndL, bnd, boxO], by simp⟩
      try rw [hg15]
      try rw [hg20]
      try rw [hg25]
      try rw [hg11]
      try rw [hg12]
      try rw [hg39]
      simp [getE, bnd, keepE]
    · skip
      refine WO.go 4 (ds := [some 9, some 10, some 11, some 12, some 13, some 14, some 15, some 16]) rfl ?_
      simp only [sx, ty, Bool.false_eq_true, Int.reduceEq, Int.reduceLT, Nat.reduceAdd, Nat.reduceSub, Nat.reduceMul, Nat.reduceLT, Nat.reduceLeDiff, Nat.reduceEqDiff, List.reduceReplicate, reduceIte]
      with_reducible refine WO.nil ?_
      refine ⟨rfl, ?_, ⟨_, rfl⟩, by simp [Own.bnd, bndL, bnd, boxO], by simp⟩
      try rw [hg15]
      try rw [hg20]
      try rw [hg25]
      try rw [hg11]
      try rw [hg12]
      try rw [hg39]
      simp [getE, bnd, keepE]
  · simp only [sx, ty, Bool.false_eq_true, Int.reduceEq, Int.reduceLT, Nat.reduceAdd, Nat.reduceSub, Nat.reduceMul, Nat.reduceLT, Nat.reduceLeDiff, Nat.reduceEqDiff, List.reduceReplicate, reduceIte, sxk]
    refine W.cond rfl rfl (fun hc => ?_) (fun hc => ?_)
    · skip
      refine W.pure (ds := []) rfl fun K4 hK4 => ?_
      simp only [sx, ty, Bool.false_eq_true, Int.reduceEq, Int.reduceLT, Nat.reduceAdd, Nat.reduceSub, Nat.reduceMul, Nat.reduceLT, Nat.reduceLeDiff, Nat.reduceEqDiff, List.reduceReplicate, reduceIte]; with_reducible refine hK4 _ ?_; clear hK4
      refine W.ret ⟨by simp, _, rfl, fun ρ w1 hb => ?_⟩
      simp only [den, Value.bool.injEq]
      simp only [Bool.or_eq_true, decide_eq_true_eq] at hc
      rw [eq_comm]
      unfold valid validDs validCs
      rcases hc with h | h
      · have : decide (ds.length ≤ 200) = false := by simp; omega
        simp [this]
      · have : decide (cs.length ≤ 200) = false := by simp; omega
        simp [this]
    · skip
      have hcc := hc
      refine W.skip (hK2 _ ?_)
      refine W.seqK fun K5 hK5 => ?_
      refine W.pure (ds := []) rfl fun K6 hK6 => ?_
      simp only [sx, ty, Bool.false_eq_true, Int.reduceEq, Int.reduceLT, Nat.reduceAdd, Nat.reduceSub, Nat.reduceMul, Nat.reduceLT, Nat.reduceLeDiff, Nat.reduceEqDiff, List.reduceReplicate, reduceIte]; with_reducible refine hK6 _ ?_; clear hK6
      refine W.block ?_
      refine W.loopK (X := Nat) [0, 1, 17, 18] (fun x => [(19, .val (.int .i64 x))]) (fun x => x ≤ ds.length ∧ (ds.take x).all validD = true) (fun x => ds.length - x) 0 ?_ ?_ ?_
      · exact ⟨rfl, by simp [getE, bnd, keepE], ⟨[], by simp⟩, by simp [Own.bnd, bndL, bnd, boxO], by simp⟩
      · skip
        simp
      · rintro i ⟨hi, hno⟩
        simp only [sx, ty, Bool.false_eq_true, Int.reduceEq, Int.reduceLT, Nat.reduceAdd, Nat.reduceSub, Nat.reduceMul, Nat.reduceLT, Nat.reduceLeDiff, Nat.reduceEqDiff, List.reduceReplicate, reduceIte, sxk]
        refine W.pure (ds := []) rfl fun K7 hK7 => ?_
        simp only [sx, ty, Bool.false_eq_true, Int.reduceEq, Int.reduceLT, Nat.reduceAdd, Nat.reduceSub, Nat.reduceMul, Nat.reduceLT, Nat.reduceLeDiff, Nat.reduceEqDiff, List.reduceReplicate, reduceIte]; with_reducible refine hK7 _ ?_; clear hK7
        refine W.seqK fun K8 hK8 => ?_
        refine W.cond rfl rfl (fun hc => ?_) (fun hc => ?_)
        · skip
          have hlt : i < ds.length := by simpa using hc
          refine W.skip (hK8 _ ?_)
          refine W.seqK fun K9 hK9 => ?_
          refine W.block ?_
          refine W.seqK fun K10 hK10 => W.region ?_
          refine WO.elem (y := ds[i]) hl (by simp [St.put]) (ds := []) rfl rfl rfl (by simp [St.put]) (fun _ => rfl) rfl rfl rfl rfl rfl el22 agg35 sz35 (.inl rfl) (by omega) (getIdx ds hlt) fun p ces hces => ?_
          obtain ⟨p3, c3, rfl, hed, hel⟩ := rDem_open hces
          refine WO.go 2 (ds := []) rfl ?_
          simp only [sx, ty, Bool.false_eq_true, Int.reduceEq, Int.reduceLT, Nat.reduceAdd, Nat.reduceSub, Nat.reduceMul, Nat.reduceLT, Nat.reduceLeDiff, Nat.reduceEqDiff, List.reduceReplicate, reduceIte]
          with_reducible refine WO.nil ?_
          refine hK10 _ ?_; clear hK10
          refine W.seqK fun K11 hK11 => W.region ?_
          refine WO.go 1 (ds := []) rfl ?_
          simp only [sx, ty, Bool.false_eq_true, Int.reduceEq, Int.reduceLT, Nat.reduceAdd, Nat.reduceSub, Nat.reduceMul, Nat.reduceLT, Nat.reduceLeDiff, Nat.reduceEqDiff, List.reduceReplicate, reduceIte]
          refine WO.call (.bool (validD ds[i])) (ds := []) rfl rfl rfl rfl co23 (fun ρ w1 hb => by have := isDemand_spec (Rp.now hces (hb.first (by simp [St.put]))); simpa [denL_eq, den, Function.comp_def] using this) ?_
          refine WO.go 1 (ds := []) rfl ?_
          simp only [sx, ty, Bool.false_eq_true, Int.reduceEq, Int.reduceLT, Nat.reduceAdd, Nat.reduceSub, Nat.reduceMul, Nat.reduceLT, Nat.reduceLeDiff, Nat.reduceEqDiff, List.reduceReplicate, reduceIte]
          with_reducible refine WO.nil ?_
          refine hK11 _ ?_; clear hK11
          refine W.cond rfl rfl (fun hc => ?_) (fun hc => ?_)
          · skip
            refine W.pure (ds := []) rfl fun K12 hK12 => ?_
            simp only [sx, ty, Bool.false_eq_true, Int.reduceEq, Int.reduceLT, Nat.reduceAdd, Nat.reduceSub, Nat.reduceMul, Nat.reduceLT, Nat.reduceLeDiff, Nat.reduceEqDiff, List.reduceReplicate, reduceIte]; with_reducible refine hK12 _ ?_; clear hK12
            refine W.ret ⟨by simp, _, rfl, fun ρ w1 hb => ?_⟩
            have hx : ds.all validD = false := by
              rw [List.all_eq_false]
              exact ⟨ds[i], List.getElem_mem hlt, by simpa using hc⟩
            simp [den, valid, validDs, hx]
          · skip
            refine W.skip (hK9 _ ?_)
            refine W.region ?_
            refine WO.go 2 (ds := []) rfl ?_
            simp only [sx, ty, Bool.false_eq_true, Int.reduceEq, Int.reduceLT, Nat.reduceAdd, Nat.reduceSub, Nat.reduceMul, Nat.reduceLT, Nat.reduceLeDiff, Nat.reduceEqDiff, List.reduceReplicate, reduceIte]
            with_reducible refine WO.nil ?_
            refine ⟨i + 1, ?_, by first | omega | (simp; omega), rfl, by simp [getE, bnd, keepE, wrap_succ (show i + 1 ≤ 9223372036854775807 by omega)], ⟨_, rfl⟩, by simp [Own.bnd, bndL, bnd, boxO], by simp⟩
            refine ⟨hlt, ?_⟩
            rw [List.take_succ_eq_append_getElem hlt, List.all_append, hno]
            simpa using hc
        · skip
          have hA : ds.all validD = true := by rw [← hno, List.take_of_length_le (by simpa using hc)]
          refine W.exit (hK5 _ ?_)
          refine W.seqK fun K13 hK13 => ?_
          refine W.pure (ds := []) rfl fun K14 hK14 => ?_
          simp only [sx, ty, Bool.false_eq_true, Int.reduceEq, Int.reduceLT, Nat.reduceAdd, Nat.reduceSub, Nat.reduceMul, Nat.reduceLT, Nat.reduceLeDiff, Nat.reduceEqDiff, List.reduceReplicate, reduceIte]; with_reducible refine hK14 _ ?_; clear hK14
          refine W.block ?_
          refine W.loopK (X := Nat) [0, 1, 27, 28] (fun x => [(29, .val (.int .i64 x))]) (fun x => x ≤ cs.length ∧ (cs.take x).all validC = true) (fun x => cs.length - x) 0 ?_ ?_ ?_
          · exact ⟨rfl, by simp [getE, bnd, keepE], ⟨[], by simp⟩, by simp [Own.bnd, bndL, bnd, boxO], by simp⟩
          · skip
            simp
          · rintro i ⟨hi, hno⟩
            simp only [sx, ty, Bool.false_eq_true, Int.reduceEq, Int.reduceLT, Nat.reduceAdd, Nat.reduceSub, Nat.reduceMul, Nat.reduceLT, Nat.reduceLeDiff, Nat.reduceEqDiff, List.reduceReplicate, reduceIte, sxk]
            refine W.pure (ds := []) rfl fun K15 hK15 => ?_
            simp only [sx, ty, Bool.false_eq_true, Int.reduceEq, Int.reduceLT, Nat.reduceAdd, Nat.reduceSub, Nat.reduceMul, Nat.reduceLT, Nat.reduceLeDiff, Nat.reduceEqDiff, List.reduceReplicate, reduceIte]; with_reducible refine hK15 _ ?_; clear hK15
            refine W.seqK fun K16 hK16 => ?_
            refine W.cond rfl rfl (fun hc => ?_) (fun hc => ?_)
            · skip
              have hlt : i < cs.length := by simpa using hc
              refine W.skip (hK16 _ ?_)
              refine W.seqK fun K17 hK17 => ?_
              refine W.block ?_
              refine W.seqK fun K18 hK18 => W.region ?_
              refine WO.elem (y := cs[i]) hl2 (by simp [St.put]) (ds := []) rfl rfl rfl (by simp [St.put]) (fun _ => rfl) rfl rfl rfl rfl rfl el23 agg37 sz37 (.inl rfl) (by omega) (getIdx cs hlt) fun p ces hces => ?_
              obtain rfl := rCop_open hces
              refine WO.go 2 (ds := []) rfl ?_
              simp only [sx, ty, Bool.false_eq_true, Int.reduceEq, Int.reduceLT, Nat.reduceAdd, Nat.reduceSub, Nat.reduceMul, Nat.reduceLT, Nat.reduceLeDiff, Nat.reduceEqDiff, List.reduceReplicate, reduceIte]
              with_reducible refine WO.nil ?_
              refine hK18 _ ?_; clear hK18
              refine W.seqK fun K19 hK19 => W.region ?_
              refine WO.go 1 (ds := []) rfl ?_
              simp only [sx, ty, Bool.false_eq_true, Int.reduceEq, Int.reduceLT, Nat.reduceAdd, Nat.reduceSub, Nat.reduceMul, Nat.reduceLT, Nat.reduceLeDiff, Nat.reduceEqDiff, List.reduceReplicate, reduceIte]
              refine WO.call (.bool (validC cs[i])) (ds := []) rfl rfl rfl rfl co24 (fun ρ w1 hb => by have := isCopy_spec (Rp.now hces (hb.first (by simp [St.put]))); simpa [denL_eq, den, Function.comp_def] using this) ?_
              refine WO.go 1 (ds := []) rfl ?_
              simp only [sx, ty, Bool.false_eq_true, Int.reduceEq, Int.reduceLT, Nat.reduceAdd, Nat.reduceSub, Nat.reduceMul, Nat.reduceLT, Nat.reduceLeDiff, Nat.reduceEqDiff, List.reduceReplicate, reduceIte]
              with_reducible refine WO.nil ?_
              refine hK19 _ ?_; clear hK19
              refine W.cond rfl rfl (fun hc => ?_) (fun hc => ?_)
              · skip
                refine W.pure (ds := []) rfl fun K20 hK20 => ?_
                simp only [sx, ty, Bool.false_eq_true, Int.reduceEq, Int.reduceLT, Nat.reduceAdd, Nat.reduceSub, Nat.reduceMul, Nat.reduceLT, Nat.reduceLeDiff, Nat.reduceEqDiff, List.reduceReplicate, reduceIte]; with_reducible refine hK20 _ ?_; clear hK20
                refine W.ret ⟨by simp, _, rfl, fun ρ w1 hb => ?_⟩
                have hx : cs.all validC = false := by
                  rw [List.all_eq_false]
                  exact ⟨cs[i], List.getElem_mem hlt, by simpa using hc⟩
                simp [den, valid, validCs, hx]
              · skip
                refine W.skip (hK17 _ ?_)
                refine W.region ?_
                refine WO.go 2 (ds := []) rfl ?_
                simp only [sx, ty, Bool.false_eq_true, Int.reduceEq, Int.reduceLT, Nat.reduceAdd, Nat.reduceSub, Nat.reduceMul, Nat.reduceLT, Nat.reduceLeDiff, Nat.reduceEqDiff, List.reduceReplicate, reduceIte]
                with_reducible refine WO.nil ?_
                refine ⟨i + 1, ?_, by first | omega | (simp; omega), rfl, by simp [getE, bnd, keepE, wrap_succ (show i + 1 ≤ 9223372036854775807 by omega)], ⟨_, rfl⟩, by simp [Own.bnd, bndL, bnd, boxO], by simp⟩
                refine ⟨hlt, ?_⟩
                rw [List.take_succ_eq_append_getElem hlt, List.all_append, hno]
                simpa using hc
            · skip
              have hB : cs.all validC = true := by rw [← hno, List.take_of_length_le (by simpa using hc)]
              refine W.exit (hK13 _ ?_)
              refine W.join 4 (.val (.bool (decide (ds.map fun d : Dem => d.1).Nodup && decide (cs.map fun d : Cop => d.1).Nodup))) [] (W.region ?_) ?_
              · skip
                refine WO.go 1 (ds := [some 37, some 38, some 39, some 40, some 41, some 42, some 4]) rfl ?_
                simp only [sx, ty, Bool.false_eq_true, Int.reduceEq, Int.reduceLT, Nat.reduceAdd, Nat.reduceSub, Nat.reduceMul, Nat.reduceLT, Nat.reduceLeDiff, Nat.reduceEqDiff, List.reduceReplicate, reduceIte]
                refine WO.call (.bool (decide (ds.map fun d : Dem => d.1).Nodup)) (ds := [some 37, some 38, some 39, some 40, some 41, some 42, some 4]) rfl rfl rfl rfl co25 (fun ρ w1 hb => diffDem_spec (Rp.now hl (hb.first (by simp))) (fun d : Dem => d.1) 26 co26 fun w2 hk x _ ces hces => key26 (Rp.now hces hk)) ?_
                refine WO.go 1 (ds := [some 37, some 38, some 39, some 40, some 41, some 42, some 4]) rfl ?_
                simp only [sx, ty, Bool.false_eq_true, Int.reduceEq, Int.reduceLT, Nat.reduceAdd, Nat.reduceSub, Nat.reduceMul, Nat.reduceLT, Nat.reduceLeDiff, Nat.reduceEqDiff, List.reduceReplicate, reduceIte]
                refine WO.cases 39 _ rfl (fun hg39 => ?_) (fun hg39 => ?_)
                · skip
                  refine WO.go 1 (ds := [some 37, some 38, some 39, some 40, some 41, some 42, some 4]) rfl ?_
                  simp only [sx, ty, Bool.false_eq_true, Int.reduceEq, Int.reduceLT, Nat.reduceAdd, Nat.reduceSub, Nat.reduceMul, Nat.reduceLT, Nat.reduceLeDiff, Nat.reduceEqDiff, List.reduceReplicate, reduceIte]
                  refine WO.call (.bool (decide (cs.map fun d : Cop => d.1).Nodup)) (ds := [some 37, some 38, some 39, some 40, some 41, some 42, some 4]) rfl rfl rfl rfl co27 (fun ρ w1 hb => diffCop_spec (Rp.now hl2 (hb.first (by simp))) (fun d : Cop => d.1) 28 co28 fun w2 hk x _ ces hces => key28 (Rp.now hces hk)) ?_
                  refine WO.go 2 (ds := [some 37, some 38, some 39, some 40, some 41, some 42, some 4]) rfl ?_
                  simp only [sx, ty, Bool.false_eq_true, Int.reduceEq, Int.reduceLT, Nat.reduceAdd, Nat.reduceSub, Nat.reduceMul, Nat.reduceLT, Nat.reduceLeDiff, Nat.reduceEqDiff, List.reduceReplicate, reduceIte]
                  with_reducible refine WO.nil ?_
                  refine ⟨rfl, ?_, ⟨_, rfl⟩, by simp [Own.bnd, bndL, bnd, boxO], by simp⟩
                  try rw [hg15]
                  try rw [hg20]
                  try rw [hg25]
                  try rw [hg11]
                  try rw [hg12]
                  try rw [hg39]
                  simp [getE, bnd, keepE]
                · skip
                  refine WO.go 4 (ds := [some 37, some 38, some 39, some 40, some 41, some 42, some 4]) rfl ?_
                  simp only [sx, ty, Bool.false_eq_true, Int.reduceEq, Int.reduceLT, Nat.reduceAdd, Nat.reduceSub, Nat.reduceMul, Nat.reduceLT, Nat.reduceLeDiff, Nat.reduceEqDiff, List.reduceReplicate, reduceIte]
                  with_reducible refine WO.nil ?_
                  refine ⟨rfl, ?_, ⟨_, rfl⟩, by simp [Own.bnd, bndL, bnd, boxO], by simp⟩
                  try rw [hg15]
                  try rw [hg20]
                  try rw [hg25]
                  try rw [hg11]
                  try rw [hg12]
                  try rw [hg39]
                  simp [getE, bnd, keepE]
              · simp only [sx, ty, Bool.false_eq_true, Int.reduceEq, Int.reduceLT, Nat.reduceAdd, Nat.reduceSub, Nat.reduceMul, Nat.reduceLT, Nat.reduceLeDiff, Nat.reduceEqDiff, List.reduceReplicate, reduceIte, sxk]
                refine W.ret ⟨by simp, _, rfl, fun ρ w1 hb => ?_⟩
                simp only [Bool.or_eq_false_iff, decide_eq_false_iff_not] at hcc
                obtain ⟨h1, h2⟩ := hcc
                have h1 : decide (ds.length ≤ 200) = true := by simp; omega
                have h2 : decide (cs.length ≤ 200) = true := by simp; omega
                simp only [den, valid, validDs, validCs, hA, hB, h1, h2, Bool.true_and]
theorem idxOf_le (l : List Int) (x : Int) (h : l.length ≤ 9223372036854775807) : -1 ≤ idxOf l x ∧ idxOf l x ≤ 9223372036854775806 := by
  unfold idxOf
  rcases findI_bound (fun y => x == y) l with h1 | ⟨_, h1⟩ <;> omega
theorem idxOf_small (l : List Int) (x : Int) (n : Nat) (h : l.length ≤ n) : idxOf l x < n ∨ idxOf l x = -1 := by
  unfold idxOf
  rcases findI_bound (fun y => x == y) l with h1 | ⟨_, h1⟩ <;> omega
/-- function 20 -/
theorem cost_spec {S S2 : Nat → Prop} {w : World} {ces cec : List Value} {d : Dem} {c : Cop} (hd : rDem.rd S w ces d) (hc : rCop.rd S2 w cec c) (hall : Int) (hle : d.2.2.2.length ≤ 1000) : Gives Try.prog 20 #[.agg ces.toArray, .agg cec.toArray, .int .i64 hall] w fun r _ => r = .int .i64 (costF d c hall) := by
  obtain ⟨p, cp, rfl, hel, hlen⟩ := rDem_open hd
  obtain rfl := rCop_open hc
  have hib := idxOf_small d.2.2.2 c.2.2.1 1000 (by omega)
  have hib0 := (idxOf_le d.2.2.2 c.2.2.1 hlen).1
  refine gives_of [.agg [.val (.int .i64 d.1), .val (.int .i64 d.2.1), .val (.int .i64 d.2.2.1), .val (.slice p d.2.2.2.length cp)], .agg [.val (.int .i64 c.1), .val (.int .i64 c.2.1), .val (.int .i64 c.2.2.1), .val (.int .i64 c.2.2.2)], .val (.int .i64 hall)] 31 [.tmp 6] Try.func20 rfl rfl rfl (by simp) rfl rfl ?_
  refine W.pure (ds := []) rfl fun K1 hK1 => ?_
  simp only [sx, ty, Bool.false_eq_true, Int.reduceEq, Int.reduceLT, Nat.reduceAdd, Nat.reduceSub, Nat.reduceMul, Nat.reduceLT, Nat.reduceLeDiff, Nat.reduceEqDiff, List.reduceReplicate, reduceIte]; with_reducible refine hK1 _ ?_; clear hK1
  refine W.seqK fun K2 hK2 => W.region ?_
  refine WO.go 4 (ds := []) rfl ?_
  simp only [sx, ty, Bool.false_eq_true, Int.reduceEq, Int.reduceLT, Nat.reduceAdd, Nat.reduceSub, Nat.reduceMul, Nat.reduceLT, Nat.reduceLeDiff, Nat.reduceEqDiff, List.reduceReplicate, reduceIte]
  refine WO.call (.int .i64 (idxOf d.2.2.2 c.2.2.1)) (ds := []) rfl rfl rfl rfl co33 (fun ρ w1 hb => index_spec (Rp.now hel (hb.first (by simp))) _) ?_
  refine WO.go 1 (ds := []) rfl ?_
  simp only [sx, ty, Bool.false_eq_true, Int.reduceEq, Int.reduceLT, Nat.reduceAdd, Nat.reduceSub, Nat.reduceMul, Nat.reduceLT, Nat.reduceLeDiff, Nat.reduceEqDiff, List.reduceReplicate, reduceIte]
  with_reducible refine WO.nil ?_
  refine hK2 _ ?_; clear hK2
  refine W.seqK fun K3 hK3 => ?_
  refine W.join 21 (.val (.bool ((d.2.1 != c.2.1) || decide (idxOf d.2.2.2 c.2.2.1 < 0)))) [2, 4, 7] (W.region ?_) ?_
  · skip
    refine WO.go 6 (ds := [some 13, some 14, some 15, some 16, some 17, some 18, some 19, some 20, some 21]) rfl ?_
    simp only [sx, ty, Bool.false_eq_true, Int.reduceEq, Int.reduceLT, Nat.reduceAdd, Nat.reduceSub, Nat.reduceMul, Nat.reduceLT, Nat.reduceLeDiff, Nat.reduceEqDiff, List.reduceReplicate, reduceIte]
    refine WO.cases 18 _ rfl (fun hg18 => ?_) (fun hg18 => ?_)
    · skip
      refine WO.go 3 (ds := [some 13, some 14, some 15, some 16, some 17, some 18, some 19, some 20, some 21]) rfl ?_
      simp only [sx, ty, Bool.false_eq_true, Int.reduceEq, Int.reduceLT, Nat.reduceAdd, Nat.reduceSub, Nat.reduceMul, Nat.reduceLT, Nat.reduceLeDiff, Nat.reduceEqDiff, List.reduceReplicate, reduceIte]
      with_reducible refine WO.nil ?_
      refine ⟨rfl, ?_, ⟨_, rfl⟩, by simp [Own.bnd, bndL, bnd, boxO], by simp⟩
      try rw [hg18]
      simp [getE, bnd, keepE]
    · skip
      refine WO.go 3 (ds := [some 13, some 14, some 15, some 16, some 17, some 18, some 19, some 20, some 21]) rfl ?_
      simp only [sx, ty, Bool.false_eq_true, Int.reduceEq, Int.reduceLT, Nat.reduceAdd, Nat.reduceSub, Nat.reduceMul, Nat.reduceLT, Nat.reduceLeDiff, Nat.reduceEqDiff, List.reduceReplicate, reduceIte]
      with_reducible refine WO.nil ?_
      refine ⟨rfl, ?_, ⟨_, rfl⟩, by simp [Own.bnd, bndL, bnd, boxO], by simp⟩
      try rw [hg18]
      simp [getE, bnd, keepE]
  · simp only [sx, ty, Bool.false_eq_true, Int.reduceEq, Int.reduceLT, Nat.reduceAdd, Nat.reduceSub, Nat.reduceMul, Nat.reduceLT, Nat.reduceLeDiff, Nat.reduceEqDiff, List.reduceReplicate, reduceIte, sxk]
    refine W.cond rfl rfl (fun hc => ?_) (fun hc => ?_)
    · skip
      have h1 : d.2.1 ≠ c.2.1 ∨ idxOf d.2.2.2 c.2.2.1 < 0 := by simpa using hc
      refine W.pure (ds := []) rfl fun K5 hK5 => ?_
      simp only [sx, ty, Bool.false_eq_true, Int.reduceEq, Int.reduceLT, Nat.reduceAdd, Nat.reduceSub, Nat.reduceMul, Nat.reduceLT, Nat.reduceLeDiff, Nat.reduceEqDiff, List.reduceReplicate, reduceIte]; with_reducible refine hK5 _ ?_; clear hK5
      refine W.ret ⟨by simp, _, rfl, fun ρ w1 hb => ?_⟩
      simp only [den, costF, if_pos h1]
    · skip
      have h1 : ¬ (d.2.1 ≠ c.2.1 ∨ idxOf d.2.2.2 c.2.2.1 < 0) := by simpa using hc
      refine W.skip (hK3 _ ?_)
      refine W.seqK fun K6 hK6 => ?_
      refine W.pure (ds := []) rfl fun K7 hK7 => ?_
      simp only [sx, ty, Bool.false_eq_true, Int.reduceEq, Int.reduceLT, Nat.reduceAdd, Nat.reduceSub, Nat.reduceMul, Nat.reduceLT, Nat.reduceLeDiff, Nat.reduceEqDiff, List.reduceReplicate, reduceIte]; with_reducible refine hK7 _ ?_; clear hK7
      refine W.cond rfl rfl (fun hc => ?_) (fun hc => ?_)
      · skip
        have h2 : c.2.2.2 = hall := by simpa using hc
        refine W.pure (ds := []) rfl fun K8 hK8 => ?_
        simp only [sx, ty, Bool.false_eq_true, Int.reduceEq, Int.reduceLT, Nat.reduceAdd, Nat.reduceSub, Nat.reduceMul, Nat.reduceLT, Nat.reduceLeDiff, Nat.reduceEqDiff, List.reduceReplicate, reduceIte]; with_reducible refine hK8 _ ?_; clear hK8
        refine W.ret ⟨by simp, _, rfl, fun ρ w1 hb => ?_⟩
        simp only [den, costF, if_neg h1, if_pos h2]
        rw [wrap_id (show -9223372036854775808 ≤ 10 * idxOf d.2.2.2 c.2.2.1 by omega) (by omega)]
      · skip
        have h2 : ¬ (c.2.2.2 = hall) := by simpa using hc
        refine W.skip (hK6 _ ?_)
        refine W.pure (ds := []) rfl fun K9 hK9 => ?_
        simp only [sx, ty, Bool.false_eq_true, Int.reduceEq, Int.reduceLT, Nat.reduceAdd, Nat.reduceSub, Nat.reduceMul, Nat.reduceLT, Nat.reduceLeDiff, Nat.reduceEqDiff, List.reduceReplicate, reduceIte]; with_reducible refine hK9 _ ?_; clear hK9
        refine W.ret ⟨by simp, _, rfl, fun ρ w1 hb => ?_⟩
        simp only [den, costF, if_neg h1, if_neg h2]
        rw [wrap_id (show -9223372036854775808 ≤ 10 * idxOf d.2.2.2 c.2.2.1 by omega) (by omega), wrap_id (by omega) (by omega)]
end Go.Proofs.Ytblagioibffgcaa
