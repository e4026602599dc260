/-
  Layout: the best pages of the package: the walk.
-/
import Derived.Test.YtpggkomalbbofaaP9
set_option linter.unusedVariables false
set_option linter.unusedSimpArgs false
set_option maxHeartbeats 4000000
namespace Go.Proofs.Ytpggkomalbbofaa
open Go Go.SX Go.RowKit
/-- function 22 -/
theorem ends_spec (w : World) (v : Value) (a b : Int) (hv1 : ∃ p0 n0 c0, v = .slice p0 n0 c0) : Gives Try.prog 22 #[v, .int .i64 a, .int .i64 b] w fun r w' => ∃ x : Nat × Nat × Nat, r = .func (.func 34) #[] #[.pointer (some ⟨x.1, 0, none⟩), .pointer (some ⟨x.2.1, 0, none⟩), .pointer (some ⟨x.2.2, 0, none⟩)] ∧
    (w'.heap[x.1]? = some (.cells #[v] 22 (0, 0)) ∧ w'.heap[x.2.1]? = some (.cells #[.int .i64 a] 3 (0, 0)) ∧ w'.heap[x.2.2]? = some (.cells #[.int .i64 b] 3 (0, 0))) ∧ (w.heap.size ≤ x.1 ∧ w.heap.size ≤ x.2.1 ∧ w.heap.size ≤ x.2.2) ∧ x.1 ≠ x.2.1 ∧ x.1 ≠ x.2.2 ∧ x.2.1 ≠ x.2.2 := by
  obtain ⟨p0, n0, c0, rfl⟩ : ∃ p0 n0 c0, v = .slice p0 n0 c0 := hv1
  refine gives_of [.val (.slice p0 n0 c0), .val (.int .i64 a), .val (.int .i64 b)] 8 [.tmp 6] Try.func22 rfl rfl rfl (by simp) rfl rfl ?_
  refine W.pure (ds := []) rfl fun K1 hK1 => ?_
  simp only [sx, ty, Bool.false_eq_true, Int.reduceEq, Int.reduceLT, Nat.reduceAdd, Nat.reduceSub, Nat.reduceMul, Nat.reduceLT, Nat.reduceLeDiff, Nat.reduceEqDiff, List.reduceReplicate, reduceIte, beq_self_eq_true, bne_self_eq_false, Int.reduceBEq, Int.reduceBNe, Bool.or_false, Bool.false_or, Bool.not_false, Bool.not_true]; with_reducible refine hK1 _ ?_; clear hK1
  refine W.pure (ds := []) rfl fun K2 hK2 => ?_
  simp only [sx, ty, Bool.false_eq_true, Int.reduceEq, Int.reduceLT, Nat.reduceAdd, Nat.reduceSub, Nat.reduceMul, Nat.reduceLT, Nat.reduceLeDiff, Nat.reduceEqDiff, List.reduceReplicate, reduceIte, beq_self_eq_true, bne_self_eq_false, Int.reduceBEq, Int.reduceBNe, Bool.or_false, Bool.false_or, Bool.not_false, Bool.not_true]; with_reducible refine hK2 _ ?_; clear hK2
  refine W.ret ⟨by simp, _, rfl, fun ρ w1 hb => ?_⟩
  refine ⟨(ρ 0, ρ 1, ρ 2), rfl, ⟨hb.own 0 _ rfl ρ (Agree.refl _ _), hb.own 1 _ rfl ρ (Agree.refl _ _), hb.own 2 _ rfl ρ (Agree.refl _ _)⟩, ⟨own_new hb (by simp) (k := 0) rfl rfl, own_new hb (by simp) (k := 1) rfl rfl, own_new hb (by simp) (k := 2) rfl rfl⟩, fun h => ?_, fun h => ?_, fun h => ?_⟩
  · exact absurd (hb.apart 0 1 _ _ (ρ 0) rfl rfl rfl (congrArg some h.symm)) (by decide)
  · exact absurd (hb.apart 0 2 _ _ (ρ 0) rfl rfl rfl (congrArg some h.symm)) (by decide)
  · exact absurd (hb.apart 1 2 _ _ (ρ 1) rfl rfl rfl (congrArg some h.symm)) (by decide)

theorem wide_any {ws : List Int} {wd : Int} : (ws.any fun n => decide (wd < n)) = ws.any fun x => decide (wd < x) := rfl
theorem lst_eq {a b : Cell} : (lstV a == lstV b) = decide (a = b) := by
  rw [Bool.eq_iff_iff]; simp [lstV, Prod.ext_iff]
/-- function 11 -/
theorem best_spec {S S2 : Nat → Prop} {w : World} {v u : Value} {ws : List Int} {good : List Bool} (hl : rInts.rd S w [v] ws) (hl2 : rBools.rd S2 w [u] good) (wd : Int) : Gives Try.prog 11 #[v, u, .int .i64 wd] w fun r w' =>
    ∃ x : Option Addr × Nat, r = .tuple #[.slice x.1 (bestF ws good wd).1.length x.2, .int .i64 (bestF ws good wd).2] ∧ rPgs.rd (fun b => w.heap.size ≤ b) w' [.slice x.1 (bestF ws good wd).1.length x.2] (bestF ws good wd).1 := by
  have hlo := hl
  obtain ⟨p, c, rfl, hc1, hc2⟩ := Rp.slice_val hl
  obtain ⟨p2, c2, rfl, hc3, hc4⟩ := Rp.slice_val hl2
  have hl : (Rp.slice rInt).rd (fun _ => True) w _ ws := Rp.any hl
  have hl2 : (Rp.slice Rp.bool).rd (fun _ => True) w _ good := Rp.any hl2
  have hlS : (Rp.slice rInt).rd (fun b => b < w.heap.size) w _ ws := Rp.mono _ hl fun b _ h => h
  have hM : Marks [] w w := ⟨List.nodup_nil, fun d hd => by cases hd⟩
  refine gives_of_marks [.val (.slice p ws.length c), .val (.slice p2 good.length c2), .val (.int .i64 wd)] 140 [.tmp 6, .tmp 7] Try.func11 rfl rfl rfl (by simp) rfl rfl ?_
  refine W.pure (ds := []) rfl fun K1 hK1 => ?_
  simp only [sx, ty, Bool.false_eq_true, Int.reduceEq, Int.reduceLT, Nat.reduceAdd, Nat.reduceSub, Nat.reduceMul, Nat.reduceLT, Nat.reduceLeDiff, Nat.reduceEqDiff, List.reduceReplicate, reduceIte, beq_self_eq_true, bne_self_eq_false, Int.reduceBEq, Int.reduceBNe, Bool.or_false, Bool.false_or, Bool.not_false, Bool.not_true, Int.reduceToNat, Nat.zero_mul, Nat.zero_add, Nat.one_mul, Nat.mul_one, Int.toNat_natCast]; with_reducible refine hK1 _ ?_; clear hK1
  refine W.pure (ds := []) rfl fun K2 hK2 => ?_
  simp only [sx, ty, Bool.false_eq_true, Int.reduceEq, Int.reduceLT, Nat.reduceAdd, Nat.reduceSub, Nat.reduceMul, Nat.reduceLT, Nat.reduceLeDiff, Nat.reduceEqDiff, List.reduceReplicate, reduceIte, beq_self_eq_true, bne_self_eq_false, Int.reduceBEq, Int.reduceBNe, Bool.or_false, Bool.false_or, Bool.not_false, Bool.not_true, Int.reduceToNat, Nat.zero_mul, Nat.zero_add, Nat.one_mul, Nat.mul_one, Int.toNat_natCast]; with_reducible refine hK2 _ ?_; clear hK2
  refine W.seqK fun K3 hK3 => ?_
  refine W.block ?_
  refine W.pure (ds := []) rfl fun K4 hK4 => ?_
  simp only [sx, ty, Bool.false_eq_true, Int.reduceEq, Int.reduceLT, Nat.reduceAdd, Nat.reduceSub, Nat.reduceMul, Nat.reduceLT, Nat.reduceLeDiff, Nat.reduceEqDiff, List.reduceReplicate, reduceIte, beq_self_eq_true, bne_self_eq_false, Int.reduceBEq, Int.reduceBNe, Bool.or_false, Bool.false_or, Bool.not_false, Bool.not_true, Int.reduceToNat, Nat.zero_mul, Nat.zero_add, Nat.one_mul, Nat.mul_one, Int.toNat_natCast]; with_reducible refine hK4 _ ?_; clear hK4
  refine W.cond rfl rfl (fun hc => ?_) (fun hc => ?_)
  · skip
    have h0 : 4000 < ws.length := by simp at hc; omega
    refine W.pure (ds := []) rfl fun K5 hK5 => ?_
    simp only [sx, ty, Bool.false_eq_true, Int.reduceEq, Int.reduceLT, Nat.reduceAdd, Nat.reduceSub, Nat.reduceMul, Nat.reduceLT, Nat.reduceLeDiff, Nat.reduceEqDiff, List.reduceReplicate, reduceIte, beq_self_eq_true, bne_self_eq_false, Int.reduceBEq, Int.reduceBNe, Bool.or_false, Bool.false_or, Bool.not_false, Bool.not_true, Int.reduceToNat, Nat.zero_mul, Nat.zero_add, Nat.one_mul, Nat.mul_one, Int.toNat_natCast]; with_reducible refine hK5 _ ?_; clear hK5
    refine W.ret ?_
    refine ⟨by simp, ⟨_, by simp, hM⟩, RunR.ex ?_⟩
    simp only [sx, ty, Bool.false_eq_true, Int.reduceEq, Int.reduceLT, Nat.reduceAdd, Nat.reduceSub, Nat.reduceMul, Nat.reduceLT, Nat.reduceLeDiff, Nat.reduceEqDiff, List.reduceReplicate, reduceIte, sxr, beq_self_eq_true, bne_self_eq_false, Int.reduceBEq, Int.reduceBNe, Bool.or_false, Bool.false_or, Bool.not_false, Bool.not_true, Int.reduceToNat, Nat.zero_mul, Nat.zero_add, Nat.one_mul, Nat.mul_one, Int.toNat_natCast]
    intro ρ w1 hb
    rw [bestF_long h0]
    exact ⟨(none, 0), rfl, Rp.slice_nil (by omega)⟩
  · skip
    have h0 : ¬ 4000 < ws.length := by simp at hc; omega
    refine W.join 24 (.val (.bool (!(decide (good.length = ws.length) && (within 1 100000 wd && ws.all (within 1 100000)))))) [0, 4, 5, 8] (W.region ?_) ?_
    · skip
      refine WO.go 5 (ds := [some 25, some 26, some 27, some 28, some 29, some 30, some 31, some 32, some 33, some 34, some 35, some 36, some 24]) rfl ?_
      simp only [sx, ty, Bool.false_eq_true, Int.reduceEq, Int.reduceLT, Nat.reduceAdd, Nat.reduceSub, Nat.reduceMul, Nat.reduceLT, Nat.reduceLeDiff, Nat.reduceEqDiff, List.reduceReplicate, reduceIte, beq_self_eq_true, bne_self_eq_false, Int.reduceBEq, Int.reduceBNe, Bool.or_false, Bool.false_or, Bool.not_false, Bool.not_true, Int.reduceToNat, Nat.zero_mul, Nat.zero_add, Nat.one_mul, Nat.mul_one, Int.toNat_natCast]
      refine WO.cases 29 _ rfl (fun hg29 => ?_) (fun hg29 => ?_)
      · skip
        refine WO.go 8 (ds := [some 25, some 26, some 27, some 28, some 29, some 30, some 31, some 32, some 33, some 34, some 35, some 36, some 24]) rfl ?_
        simp only [sx, ty, Bool.false_eq_true, Int.reduceEq, Int.reduceLT, Nat.reduceAdd, Nat.reduceSub, Nat.reduceMul, Nat.reduceLT, Nat.reduceLeDiff, Nat.reduceEqDiff, List.reduceReplicate, reduceIte, beq_self_eq_true, bne_self_eq_false, Int.reduceBEq, Int.reduceBNe, Bool.or_false, Bool.false_or, Bool.not_false, Bool.not_true, Int.reduceToNat, Nat.zero_mul, Nat.zero_add, Nat.one_mul, Nat.mul_one, Int.toNat_natCast]
        with_reducible refine WO.nil ?_
        refine ⟨rfl, ?_, ⟨_, rfl⟩, by simp [Own.bnd, bndL, bnd, boxO], by simp⟩
        try rw [hg29]
        try rw [hg33]
        simp [getE, bnd, keepE]
        try simp only [any_wrong] at *
        try simp_all
        try (rw [Bool.eq_iff_iff]; simp; done)
        try (rw [Bool.eq_iff_iff]; simp; omega)
        try (intro h9; exact absurd (by omega) h9)
      · skip
        refine WO.go 1 (ds := [some 25, some 26, some 27, some 28, some 29, some 30, some 31, some 32, some 33, some 34, some 35, some 36, some 24]) rfl ?_
        simp only [sx, ty, Bool.false_eq_true, Int.reduceEq, Int.reduceLT, Nat.reduceAdd, Nat.reduceSub, Nat.reduceMul, Nat.reduceLT, Nat.reduceLeDiff, Nat.reduceEqDiff, List.reduceReplicate, reduceIte, beq_self_eq_true, bne_self_eq_false, Int.reduceBEq, Int.reduceBNe, Bool.or_false, Bool.false_or, Bool.not_false, Bool.not_true, Int.reduceToNat, Nat.zero_mul, Nat.zero_add, Nat.one_mul, Nat.mul_one, Int.toNat_natCast]
        refine WO.call (.bool (!within 1 100000 wd)) (ds := [some 25, some 26, some 27, some 28, some 29, some 30, some 31, some 32, some 33, some 34, some 35, some 36, some 24]) rfl rfl rfl rfl co19 (fun ρ w1 hb => wrong_spec w1 _) ?_
        refine WO.go 2 (ds := [some 25, some 26, some 27, some 28, some 29, some 30, some 31, some 32, some 33, some 34, some 35, some 36, some 24]) rfl ?_
        simp only [sx, ty, Bool.false_eq_true, Int.reduceEq, Int.reduceLT, Nat.reduceAdd, Nat.reduceSub, Nat.reduceMul, Nat.reduceLT, Nat.reduceLeDiff, Nat.reduceEqDiff, List.reduceReplicate, reduceIte, beq_self_eq_true, bne_self_eq_false, Int.reduceBEq, Int.reduceBNe, Bool.or_false, Bool.false_or, Bool.not_false, Bool.not_true, Int.reduceToNat, Nat.zero_mul, Nat.zero_add, Nat.one_mul, Nat.mul_one, Int.toNat_natCast]
        refine WO.cases 33 _ rfl (fun hg33 => ?_) (fun hg33 => ?_)
        · skip
          refine WO.go 4 (ds := [some 25, some 26, some 27, some 28, some 29, some 30, some 31, some 32, some 33, some 34, some 35, some 36, some 24]) rfl ?_
          simp only [sx, ty, Bool.false_eq_true, Int.reduceEq, Int.reduceLT, Nat.reduceAdd, Nat.reduceSub, Nat.reduceMul, Nat.reduceLT, Nat.reduceLeDiff, Nat.reduceEqDiff, List.reduceReplicate, reduceIte, beq_self_eq_true, bne_self_eq_false, Int.reduceBEq, Int.reduceBNe, Bool.or_false, Bool.false_or, Bool.not_false, Bool.not_true, Int.reduceToNat, Nat.zero_mul, Nat.zero_add, Nat.one_mul, Nat.mul_one, Int.toNat_natCast]
          with_reducible refine WO.nil ?_
          refine ⟨rfl, ?_, ⟨_, rfl⟩, by simp [Own.bnd, bndL, bnd, boxO], by simp⟩
          try rw [hg29]
          try rw [hg33]
          simp [getE, bnd, keepE]
          try simp only [any_wrong] at *
          try simp_all
          try (rw [Bool.eq_iff_iff]; simp; done)
          try (rw [Bool.eq_iff_iff]; simp; omega)
          try (intro h9; exact absurd (by omega) h9)
        · skip
          refine WO.go 1 (ds := [some 25, some 26, some 27, some 28, some 29, some 30, some 31, some 32, some 33, some 34, some 35, some 36, some 24]) rfl ?_
          simp only [sx, ty, Bool.false_eq_true, Int.reduceEq, Int.reduceLT, Nat.reduceAdd, Nat.reduceSub, Nat.reduceMul, Nat.reduceLT, Nat.reduceLeDiff, Nat.reduceEqDiff, List.reduceReplicate, reduceIte, beq_self_eq_true, bne_self_eq_false, Int.reduceBEq, Int.reduceBNe, Bool.or_false, Bool.false_or, Bool.not_false, Bool.not_true, Int.reduceToNat, Nat.zero_mul, Nat.zero_add, Nat.one_mul, Nat.mul_one, Int.toNat_natCast]
          refine WO.call (.bool (ws.any fun n => !within 1 100000 n)) (ds := [some 25, some 26, some 27, some 28, some 29, some 30, some 31, some 32, some 33, some 34, some 35, some 36, some 24]) rfl rfl rfl rfl co20 (fun ρ w1 hb => containsInt_spec (Rp.now hl (hb.first (by simp))) (fun n => !within 1 100000 n) 19 #[] (by kernel_rfl) fun w2 hk x hx => wrong_spec w2 x) ?_
          refine WO.go 2 (ds := [some 25, some 26, some 27, some 28, some 29, some 30, some 31, some 32, some 33, some 34, some 35, some 36, some 24]) rfl ?_
          simp only [sx, ty, Bool.false_eq_true, Int.reduceEq, Int.reduceLT, Nat.reduceAdd, Nat.reduceSub, Nat.reduceMul, Nat.reduceLT, Nat.reduceLeDiff, Nat.reduceEqDiff, List.reduceReplicate, reduceIte, beq_self_eq_true, bne_self_eq_false, Int.reduceBEq, Int.reduceBNe, Bool.or_false, Bool.false_or, Bool.not_false, Bool.not_true, Int.reduceToNat, Nat.zero_mul, Nat.zero_add, Nat.one_mul, Nat.mul_one, Int.toNat_natCast]
          with_reducible refine WO.nil ?_
          refine ⟨rfl, ?_, ⟨_, rfl⟩, by simp [Own.bnd, bndL, bnd, boxO], by simp⟩
          try rw [hg29]
          try rw [hg33]
          simp [getE, bnd, keepE]
          try simp only [any_wrong] at *
          try simp_all
          try (rw [Bool.eq_iff_iff]; simp; done)
          try (rw [Bool.eq_iff_iff]; simp; omega)
          try (intro h9; exact absurd (by omega) h9)
    · simp only [sx, ty, Bool.false_eq_true, Int.reduceEq, Int.reduceLT, Nat.reduceAdd, Nat.reduceSub, Nat.reduceMul, Nat.reduceLT, Nat.reduceLeDiff, Nat.reduceEqDiff, List.reduceReplicate, reduceIte, sxk, beq_self_eq_true, bne_self_eq_false, Int.reduceBEq, Int.reduceBNe, Bool.or_false, Bool.false_or, Bool.not_false, Bool.not_true, Int.reduceToNat, Nat.zero_mul, Nat.zero_add, Nat.one_mul, Nat.mul_one, Int.toNat_natCast]
      refine W.cond rfl rfl (fun hc => ?_) (fun hc => ?_)
      · skip
        have h2 : (good.length ≠ ws.length ∨ within 1 100000 wd = false ∨ widthsF ws = false) := by
          simp only [Bool.not_eq_true', Bool.and_eq_false_iff, decide_eq_false_iff_not] at hc
          rcases hc with h | h | h
          · exact .inl h
          · exact .inr (.inl h)
          · exact .inr (.inr (by simp [widthsF, h]))
        refine W.pure (ds := []) rfl fun K7 hK7 => ?_
        simp only [sx, ty, Bool.false_eq_true, Int.reduceEq, Int.reduceLT, Nat.reduceAdd, Nat.reduceSub, Nat.reduceMul, Nat.reduceLT, Nat.reduceLeDiff, Nat.reduceEqDiff, List.reduceReplicate, reduceIte, beq_self_eq_true, bne_self_eq_false, Int.reduceBEq, Int.reduceBNe, Bool.or_false, Bool.false_or, Bool.not_false, Bool.not_true, Int.reduceToNat, Nat.zero_mul, Nat.zero_add, Nat.one_mul, Nat.mul_one, Int.toNat_natCast]; with_reducible refine hK7 _ ?_; clear hK7
        refine W.ret ?_
        refine ⟨by simp, ⟨_, by simp, hM⟩, RunR.ex ?_⟩
        simp only [sx, ty, Bool.false_eq_true, Int.reduceEq, Int.reduceLT, Nat.reduceAdd, Nat.reduceSub, Nat.reduceMul, Nat.reduceLT, Nat.reduceLeDiff, Nat.reduceEqDiff, List.reduceReplicate, reduceIte, sxr, beq_self_eq_true, bne_self_eq_false, Int.reduceBEq, Int.reduceBNe, Bool.or_false, Bool.false_or, Bool.not_false, Bool.not_true, Int.reduceToNat, Nat.zero_mul, Nat.zero_add, Nat.one_mul, Nat.mul_one, Int.toNat_natCast]
        intro ρ w1 hb
        rw [bestF_bad h0 h2]
        exact ⟨(none, 0), rfl, Rp.slice_nil (by omega)⟩
      · skip
        have h2 : ¬ (good.length ≠ ws.length ∨ within 1 100000 wd = false ∨ widthsF ws = false) := by
          simp only [Bool.not_eq_false', Bool.and_eq_true, decide_eq_true_eq] at hc
          rintro (h | h | h)
          · exact h hc.1
          · rw [h] at hc; exact absurd hc.2.1 (by decide)
          · simp only [widthsF, hc.2.2, Bool.true_and, decide_eq_false_iff_not] at h; omega
        obtain ⟨hg, hWr, hv, hn⟩ := best_args h2
        refine W.seqK fun K8 hK8 => W.region ?_
        refine WO.go 2 (ds := []) rfl ?_
        simp only [sx, ty, Bool.false_eq_true, Int.reduceEq, Int.reduceLT, Nat.reduceAdd, Nat.reduceSub, Nat.reduceMul, Nat.reduceLT, Nat.reduceLeDiff, Nat.reduceEqDiff, List.reduceReplicate, reduceIte, beq_self_eq_true, bne_self_eq_false, Int.reduceBEq, Int.reduceBNe, Bool.or_false, Bool.false_or, Bool.not_false, Bool.not_true, Int.reduceToNat, Nat.zero_mul, Nat.zero_add, Nat.one_mul, Nat.mul_one, Int.toNat_natCast]
        refine WO.call (.bool (ws.any fun x => decide (wd < x))) (ds := []) rfl rfl rfl rfl co20 (fun ρ w1 hb => by
    obtain ⟨h1, h1l⟩ := own_cells hb (k := 1) rfl 0
    exact containsInt_spec (Rp.now hl (hb.first (by simp))) (fun x => decide (wd < x)) 21 #[.pointer (some ⟨ρ 1, 0, none⟩)] (by kernel_rfl) fun w2 hk x hx => wide_spec (h1.frame (hk.block _ trivial h1l)) (Nat.lt_of_lt_of_le h1l hk.size) x) ?_
        refine WO.go 1 (ds := []) rfl ?_
        simp only [sx, ty, Bool.false_eq_true, Int.reduceEq, Int.reduceLT, Nat.reduceAdd, Nat.reduceSub, Nat.reduceMul, Nat.reduceLT, Nat.reduceLeDiff, Nat.reduceEqDiff, List.reduceReplicate, reduceIte, beq_self_eq_true, bne_self_eq_false, Int.reduceBEq, Int.reduceBNe, Bool.or_false, Bool.false_or, Bool.not_false, Bool.not_true, Int.reduceToNat, Nat.zero_mul, Nat.zero_add, Nat.one_mul, Nat.mul_one, Int.toNat_natCast]
        with_reducible refine WO.nil ?_
        refine hK8 _ ?_; clear hK8
        refine W.cond rfl rfl (fun hc => ?_) (fun hc => ?_)
        · skip
          have h3 : (ws.any fun x => decide (wd < x)) = true := hc
          refine W.pure (ds := []) rfl fun K9 hK9 => ?_
          simp only [sx, ty, Bool.false_eq_true, Int.reduceEq, Int.reduceLT, Nat.reduceAdd, Nat.reduceSub, Nat.reduceMul, Nat.reduceLT, Nat.reduceLeDiff, Nat.reduceEqDiff, List.reduceReplicate, reduceIte, beq_self_eq_true, bne_self_eq_false, Int.reduceBEq, Int.reduceBNe, Bool.or_false, Bool.false_or, Bool.not_false, Bool.not_true, Int.reduceToNat, Nat.zero_mul, Nat.zero_add, Nat.one_mul, Nat.mul_one, Int.toNat_natCast]; with_reducible refine hK9 _ ?_; clear hK9
          refine W.ret ?_
          refine ⟨by simp, ⟨_, by simp, hM⟩, RunR.ex ?_⟩
          simp only [sx, ty, Bool.false_eq_true, Int.reduceEq, Int.reduceLT, Nat.reduceAdd, Nat.reduceSub, Nat.reduceMul, Nat.reduceLT, Nat.reduceLeDiff, Nat.reduceEqDiff, List.reduceReplicate, reduceIte, sxr, beq_self_eq_true, bne_self_eq_false, Int.reduceBEq, Int.reduceBNe, Bool.or_false, Bool.false_or, Bool.not_false, Bool.not_true, Int.reduceToNat, Nat.zero_mul, Nat.zero_add, Nat.one_mul, Nat.mul_one, Int.toNat_natCast]
          intro ρ w1 hb
          rw [bestF_range h0 h2 h3]
          exact ⟨(none, 0), rfl, Rp.slice_nil (by omega)⟩
        · skip
          have h3 : ¬ (ws.any fun x => decide (wd < x)) = true := by rw [hc]; decide
          have hW := no_any h3
          have hw1 := wrap_succ (i := ws.length) (by omega)
          have hw2 : IntKind.i64.wrap ((ws.length : Int) - 1) = (ws.length : Int) - 1 := wrap_id (by omega) (by omega)
          obtain ⟨hpa, hpb, hpc⟩ := path_ok (good := good) hv hW ws.length 0 0 (by omega) (by omega)
          refine W.skip (hK3 _ ?_)
          refine W.seqK fun K10 hK10 => W.region ?_
          refine WO.go 2 (ds := []) rfl ?_
          simp only [sx, ty, Bool.false_eq_true, Int.reduceEq, Int.reduceLT, Nat.reduceAdd, Nat.reduceSub, Nat.reduceMul, Nat.reduceLT, Nat.reduceLeDiff, Nat.reduceEqDiff, List.reduceReplicate, reduceIte, beq_self_eq_true, bne_self_eq_false, Int.reduceBEq, Int.reduceBNe, Bool.or_false, Bool.false_or, Bool.not_false, Bool.not_true, Int.reduceToNat, Nat.zero_mul, Nat.zero_add, Nat.one_mul, Nat.mul_one, Int.toNat_natCast, hw1, hw2]
          refine WO.make (ds := []) rfl rfl rfl rfl rfl rfl ek43 (Nat.le_refl _) (by rw [maxLen_eq]; omega) (by omega) fun b0 => ?_
          rw [rowK_zero ws good wd]
          refine WO.go 2 (ds := []) rfl ?_
          simp only [sx, ty, Bool.false_eq_true, Int.reduceEq, Int.reduceLT, Nat.reduceAdd, Nat.reduceSub, Nat.reduceMul, Nat.reduceLT, Nat.reduceLeDiff, Nat.reduceEqDiff, List.reduceReplicate, reduceIte, beq_self_eq_true, bne_self_eq_false, Int.reduceBEq, Int.reduceBNe, Bool.or_false, Bool.false_or, Bool.not_false, Bool.not_true, Int.reduceToNat, Nat.zero_mul, Nat.zero_add, Nat.one_mul, Nat.mul_one, Int.toNat_natCast, hw1, hw2]
          with_reducible refine WO.nil ?_
          refine hK10 _ ?_; clear hK10
          refine W.seqK fun K11 hK11 => ?_
          refine W.pure (ds := []) rfl fun K12 hK12 => ?_
          simp only [sx, ty, Bool.false_eq_true, Int.reduceEq, Int.reduceLT, Nat.reduceAdd, Nat.reduceSub, Nat.reduceMul, Nat.reduceLT, Nat.reduceLeDiff, Nat.reduceEqDiff, List.reduceReplicate, reduceIte, beq_self_eq_true, bne_self_eq_false, Int.reduceBEq, Int.reduceBNe, Bool.or_false, Bool.false_or, Bool.not_false, Bool.not_true, Int.reduceToNat, Nat.zero_mul, Nat.zero_add, Nat.one_mul, Nat.mul_one, Int.toNat_natCast, hw1, hw2]; with_reducible refine hK12 _ ?_; clear hK12
          refine W.block ?_
          refine W.loopM (X := Nat × List Nat × World) [0, 4, 5, 8, 9] (fun x => [(10, .val (.int .i64 ((x.1 : Int) - 1)))]) (fun x => [.cells 23 [.val (.slice p2 good.length c2)], .cells 3 [.val (.int .i64 wd)], .cells 3 [.val (.int .i64 ws.length)], .slice 49 6 (.slice (some ⟨b0, 0, none⟩) (ws.length + 1) (ws.length + 1)) (ws.length + 1) (rowK ws good wd x.1 0), .cells 43 [.val (.slice (some ⟨b0, 0, none⟩) (ws.length + 1) (ws.length + 1))]]) (fun x => [((fun b => b ∈ x.2.1), x.2.2), ((fun _ => True), w)]) (fun x => x.2.1) (fun x => x.1 ≤ ws.length ∧ Marks x.2.1 x.2.2 w) (fun x => x.1) (ws.length, [], w) ?_ ?_ ?_
          · exact ⟨rfl, by simp [getE, bnd, keepE], ⟨[], by simp⟩, by simp [Own.bnd, bndL, bnd, boxO], by simp⟩
          · skip
            exact ⟨Nat.le_refl _, hM⟩
          · rintro ⟨i0, ds, sd⟩ ⟨hi0, hM⟩
            simp only at hi0 hM
            simp only [sx, ty, Bool.false_eq_true, Int.reduceEq, Int.reduceLT, Nat.reduceAdd, Nat.reduceSub, Nat.reduceMul, Nat.reduceLT, Nat.reduceLeDiff, Nat.reduceEqDiff, List.reduceReplicate, reduceIte, sxk, beq_self_eq_true, bne_self_eq_false, Int.reduceBEq, Int.reduceBNe, Bool.or_false, Bool.false_or, Bool.not_false, Bool.not_true, Int.reduceToNat, Nat.zero_mul, Nat.zero_add, Nat.one_mul, Nat.mul_one, Int.toNat_natCast, hw1, hw2]
            refine W.seqK fun K13 hK13 => ?_
            refine W.pure (ds := []) rfl fun K14 hK14 => ?_
            simp only [sx, ty, Bool.false_eq_true, Int.reduceEq, Int.reduceLT, Nat.reduceAdd, Nat.reduceSub, Nat.reduceMul, Nat.reduceLT, Nat.reduceLeDiff, Nat.reduceEqDiff, List.reduceReplicate, reduceIte, beq_self_eq_true, bne_self_eq_false, Int.reduceBEq, Int.reduceBNe, Bool.or_false, Bool.false_or, Bool.not_false, Bool.not_true, Int.reduceToNat, Nat.zero_mul, Nat.zero_add, Nat.one_mul, Nat.mul_one, Int.toNat_natCast, hw1, hw2]; with_reducible refine hK14 _ ?_; clear hK14
            refine W.cond rfl rfl (fun hc => ?_) (fun hc => ?_)
            · skip
              obtain ⟨i, rfl⟩ : ∃ i, i0 = i + 1 := ⟨i0 - 1, by simp at hc; omega⟩
              have hil : i < ws.length := by omega
              simp only [show ((i + 1 : Nat) : Int) - 1 = (i : Int) by omega]
              refine W.skip (hK13 _ ?_)
              refine W.seqK fun K15 hK15 => ?_
              refine W.block ?_
              refine W.pure (ds := []) rfl fun K16 hK16 => ?_
              simp only [sx, ty, Bool.false_eq_true, Int.reduceEq, Int.reduceLT, Nat.reduceAdd, Nat.reduceSub, Nat.reduceMul, Nat.reduceLT, Nat.reduceLeDiff, Nat.reduceEqDiff, List.reduceReplicate, reduceIte, beq_self_eq_true, bne_self_eq_false, Int.reduceBEq, Int.reduceBNe, Bool.or_false, Bool.false_or, Bool.not_false, Bool.not_true, Int.reduceToNat, Nat.zero_mul, Nat.zero_add, Nat.one_mul, Nat.mul_one, Int.toNat_natCast, hw1, hw2]; with_reducible refine hK16 _ ?_; clear hK16
              refine W.block ?_
              refine W.loopM (X := Nat × List Nat × World) [0, 4, 5, 8, 9, 10] (fun x => [(50, .val (.int .i64 x.1))]) (fun x => [.cells 23 [.val (.slice p2 good.length c2)], .cells 3 [.val (.int .i64 wd)], .cells 3 [.val (.int .i64 ws.length)], .slice 49 6 (.slice (some ⟨b0, 0, none⟩) (ws.length + 1) (ws.length + 1)) (ws.length + 1) (rowK ws good wd (i + 1) x.1), .cells 43 [.val (.slice (some ⟨b0, 0, none⟩) (ws.length + 1) (ws.length + 1))]]) (fun x => [((fun b => b ∈ x.2.1), x.2.2), ((fun _ => True), w)]) (fun x => x.2.1) (fun x => x.1 ≤ 2 ∧ Marks x.2.1 x.2.2 w) (fun x => 2 - x.1) (0, ds, sd) ?_ ?_ ?_
              · exact ⟨rfl, by simp [getE, bnd, keepE], ⟨[], by simp⟩, by simp [Own.bnd, bndL, bnd, boxO], by simp⟩
              · skip
                exact ⟨Nat.zero_le _, hM⟩
              · rintro ⟨s, ds, sd⟩ ⟨hs, hM⟩
                simp only at hs hM
                simp only [sx, ty, Bool.false_eq_true, Int.reduceEq, Int.reduceLT, Nat.reduceAdd, Nat.reduceSub, Nat.reduceMul, Nat.reduceLT, Nat.reduceLeDiff, Nat.reduceEqDiff, List.reduceReplicate, reduceIte, sxk, beq_self_eq_true, bne_self_eq_false, Int.reduceBEq, Int.reduceBNe, Bool.or_false, Bool.false_or, Bool.not_false, Bool.not_true, Int.reduceToNat, Nat.zero_mul, Nat.zero_add, Nat.one_mul, Nat.mul_one, Int.toNat_natCast, hw1, hw2]
                refine W.pure (ds := []) rfl fun K17 hK17 => ?_
                simp only [sx, ty, Bool.false_eq_true, Int.reduceEq, Int.reduceLT, Nat.reduceAdd, Nat.reduceSub, Nat.reduceMul, Nat.reduceLT, Nat.reduceLeDiff, Nat.reduceEqDiff, List.reduceReplicate, reduceIte, beq_self_eq_true, bne_self_eq_false, Int.reduceBEq, Int.reduceBNe, Bool.or_false, Bool.false_or, Bool.not_false, Bool.not_true, Int.reduceToNat, Nat.zero_mul, Nat.zero_add, Nat.one_mul, Nat.mul_one, Int.toNat_natCast, hw1, hw2]; with_reducible refine hK17 _ ?_; clear hK17
                refine W.seqK fun K18 hK18 => ?_
                refine W.cond rfl rfl (fun hc => ?_) (fun hc => ?_)
                · skip
                  have hs2 : s < 2 := by simp at hc; omega
                  have hw3 : IntKind.i64.wrap (1 - (s : Int)) = ((1 - s : Nat) : Int) := by rw [wrap_id (by omega) (by omega)]; omega
                  obtain ⟨sub, hsub⟩ : ∃ sub, sub = ws.drop i := ⟨_, rfl⟩
                  have hsl : sub.length = ws.length - i := by rw [hsub]; simp
                  obtain ⟨cf, hcf⟩ : ∃ cf : Nat → Cell, cf = fun m => cand good ws.length s (i + m + 1) (cell ws good wd (i + m + 1) (1 - s)) := ⟨_, rfl⟩
                  have hce : cell ws good wd i s = bestTo ws.length cf (fitL wd sub) := by rw [hcf, hsub]; exact cell_eq ws good wd hil s
                  have hfp : 0 < fitL wd sub := by rw [hsub]; exact fit_pos hv hW hil
                  have hbest : bestK ws.length cf (fitL wd sub) = rk ws.length (cell ws good wd i s) := by rw [bestK_pos hfp, ← hce]
                  refine W.skip (hK18 _ ?_)
                  refine W.seqK fun K19 hK19 => ?_
                  refine W.block ?_
                  refine W.pure (ds := []) rfl fun K20 hK20 => ?_
                  simp only [sx, ty, Bool.false_eq_true, Int.reduceEq, Int.reduceLT, Nat.reduceAdd, Nat.reduceSub, Nat.reduceMul, Nat.reduceLT, Nat.reduceLeDiff, Nat.reduceEqDiff, List.reduceReplicate, reduceIte, beq_self_eq_true, bne_self_eq_false, Int.reduceBEq, Int.reduceBNe, Bool.or_false, Bool.false_or, Bool.not_false, Bool.not_true, Int.reduceToNat, Nat.zero_mul, Nat.zero_add, Nat.one_mul, Nat.mul_one, Int.toNat_natCast, hw1, hw2]; with_reducible refine hK20 _ ?_; clear hK20
                  refine W.pure (ds := []) rfl fun K21 hK21 => ?_
                  simp only [sx, ty, Bool.false_eq_true, Int.reduceEq, Int.reduceLT, Nat.reduceAdd, Nat.reduceSub, Nat.reduceMul, Nat.reduceLT, Nat.reduceLeDiff, Nat.reduceEqDiff, List.reduceReplicate, reduceIte, beq_self_eq_true, bne_self_eq_false, Int.reduceBEq, Int.reduceBNe, Bool.or_false, Bool.false_or, Bool.not_false, Bool.not_true, Int.reduceToNat, Nat.zero_mul, Nat.zero_add, Nat.one_mul, Nat.mul_one, Int.toNat_natCast, hw1, hw2]; with_reducible refine hK21 _ ?_; clear hK21
                  refine W.seqK fun K22 hK22 => ?_
                  refine W.seqK fun K23 hK23 => W.region ?_
                  refine WO.go 3 (ds := []) rfl ?_
                  simp only [sx, ty, Bool.false_eq_true, Int.reduceEq, Int.reduceLT, Nat.reduceAdd, Nat.reduceSub, Nat.reduceMul, Nat.reduceLT, Nat.reduceLeDiff, Nat.reduceEqDiff, List.reduceReplicate, reduceIte, beq_self_eq_true, bne_self_eq_false, Int.reduceBEq, Int.reduceBNe, Bool.or_false, Bool.false_or, Bool.not_false, Bool.not_true, Int.reduceToNat, Nat.zero_mul, Nat.zero_add, Nat.one_mul, Nat.mul_one, Int.toNat_natCast, hw1, hw2]
                  refine WO.callN (fun x : Nat × Nat × Nat => .func (.func 34) #[] #[.pointer (some ⟨x.1, 0, none⟩), .pointer (some ⟨x.2.1, 0, none⟩), .pointer (some ⟨x.2.2, 0, none⟩)]) (fun x => [boxO 22 x.1 [.slice p ws.length c], boxO 3 x.2.1 [.int .i64 i], boxO 3 x.2.2 [.int .i64 wd]]) (fun _ => True) (ds := []) rfl rfl rfl rfl co22 (by intro x o ho; simp at ho; rcases ho with rfl | rfl | rfl <;> rfl) (fun ρ w1 hb => (ends_spec w1 (.slice p ws.length c) i wd ⟨_, _, _, rfl⟩).mono fun v w2 hbl ⟨x, hv, ⟨q1, q2, q3⟩, ⟨z1, z2, z3⟩, n1, n2, n3⟩ => ⟨x, hv, trivial, fun j o hj => ?_, fun a b oa ob y ha hb' h1 h2 => ?_⟩) fun x _ => ?_
                  · match j, hj with
                    | 0, hj => simp only [List.getElem?_cons_zero, Option.some.injEq] at hj; subst hj; exact ⟨boxO_holds (by simp [maxLen]) q1, fun b h => by simp only [boxO_num, Option.some.injEq] at h; omega⟩
                    | 1, hj => simp only [List.getElem?_cons_zero, List.getElem?_cons_succ, Option.some.injEq] at hj; subst hj; exact ⟨boxO_holds (by simp [maxLen]) q2, fun b h => by simp only [boxO_num, Option.some.injEq] at h; omega⟩
                    | 2, hj => simp only [List.getElem?_cons_zero, List.getElem?_cons_succ, Option.some.injEq] at hj; subst hj; exact ⟨boxO_holds (by simp [maxLen]) q3, fun b h => by simp only [boxO_num, Option.some.injEq] at h; omega⟩
                    | j + 3, hj => simp at hj
                  · have hcase : ∀ (j : Nat) (o : SX.Own), ([boxO 22 x.1 [.slice p ws.length c], boxO 3 x.2.1 [.int .i64 i], boxO 3 x.2.2 [.int .i64 wd]] : List SX.Own)[j]? = some o → o.num (fun _ => 0) 0 = some y → (j = 0 ∧ x.1 = y) ∨ (j = 1 ∧ x.2.1 = y) ∨ (j = 2 ∧ x.2.2 = y) := fun j o hj hn => by
                      match j, hj with
                      | 0, hj => simp only [List.getElem?_cons_zero, Option.some.injEq] at hj; subst hj; exact .inl ⟨rfl, Option.some.inj hn⟩
                      | 1, hj => simp only [List.getElem?_cons_zero, List.getElem?_cons_succ, Option.some.injEq] at hj; subst hj; exact .inr (.inl ⟨rfl, Option.some.inj hn⟩)
                      | 2, hj => simp only [List.getElem?_cons_zero, List.getElem?_cons_succ, Option.some.injEq] at hj; subst hj; exact .inr (.inr ⟨rfl, Option.some.inj hn⟩)
                      | j + 3, hj => simp at hj
                    have c1 := hcase a oa ha h1
                    have c2 := hcase b ob hb' h2
                    omega
                  simp only [sx, ty, Bool.false_eq_true, Int.reduceEq, Int.reduceLT, Nat.reduceAdd, Nat.reduceSub, Nat.reduceMul, Nat.reduceLT, Nat.reduceLeDiff, Nat.reduceEqDiff, List.reduceReplicate, reduceIte, beq_self_eq_true, bne_self_eq_false, Int.reduceBEq, Int.reduceBNe, Bool.or_false, Bool.false_or, Bool.not_false, Bool.not_true, Int.reduceToNat, Nat.zero_mul, Nat.zero_add, Nat.one_mul, Nat.mul_one, Int.toNat_natCast, hw1, hw2]
                  with_reducible refine WO.nil ?_
                  refine hK23 _ ?_; clear hK23
                  refine W.block ?_
                  refine W.pinA (by simp [smallO, boxO]) fun β => ?_
                  simp only [pinEn, pinOw, pinOw_box, den, denL, Nat.zero_add, Nat.reduceAdd]
                  refine W.rangeFunc (w0 := w) (s0 := sd) (fitL wd sub) (fun k => .int .i64 ((i + k + 1 : Nat) : Int)) [0, 4, 5, 8, 9, 10, 11, 12, 50] (fun k => [boxO 23 (β 0) [.slice p2 good.length c2], boxO 3 (β 1) [.int .i64 wd], boxO 3 (β 2) [.int .i64 ws.length], .slice 49 6 (.slice (some ⟨b0, 0, none⟩) (ws.length + 1) (ws.length + 1)) (ws.length + 1) (rowK ws good wd (i + 1) s), boxO 43 (β 4) [.slice (some ⟨b0, 0, none⟩) (ws.length + 1) (ws.length + 1)], boxO 3 (β 5) [.int .i64 s], boxO 45 (β 6) (cellV (bestK ws.length cf k))]) [boxO 22 x.1 [.slice p ws.length c], boxO 3 x.2.1 [.int .i64 i], boxO 3 x.2.2 [.int .i64 wd]] (fun k => [(13, .val (.int .i64 ((i + k + 1 : Nat) : Int))), (0, .val (.slice p ws.length c)), (4, .val (.pointer (some ⟨β 0, 0, none⟩))), (5, .val (.pointer (some ⟨β 1, 0, none⟩))), (8, .val (.pointer (some ⟨β 2, 0, none⟩))), (9, .val (.pointer (some ⟨β 4, 0, none⟩))), (10, .val (.int .i64 i)), (11, .val (.pointer (some ⟨β 5, 0, none⟩))), (12, .val (.pointer (some ⟨β 6, 0, none⟩))), (50, .val (.int .i64 s))]) (fun b => b ∈ [x.2.2]) rfl (by kernel_rfl) (by simp [keepE, getE, kp2, bnd]) (by simp [bestK, cellV]) ?_ (fun _ => rfl) ?_ (by show 60 < 140; decide) ?_ (by intro k; simp [bnd]) ?_ ?_ ?_ (by simp) (by simp) hM ?_
                  · intro k o ho; simp only [List.cons_append, List.nil_append, List.mem_cons, List.not_mem_nil, or_false] at ho
                    rcases ho with rfl | rfl | rfl | rfl | rfl | rfl | rfl | rfl | rfl | rfl <;> rfl
                  · intro k j o o' h1 h2
                    match j, h1, h2 with
                    | 0, h1, h2 => simp only [List.getElem?_cons_zero, List.getElem?_cons_succ, Option.some.injEq] at h1 h2; subst h1; subst h2; rfl
                    | 1, h1, h2 => simp only [List.getElem?_cons_zero, List.getElem?_cons_succ, Option.some.injEq] at h1 h2; subst h1; subst h2; rfl
                    | 2, h1, h2 => simp only [List.getElem?_cons_zero, List.getElem?_cons_succ, Option.some.injEq] at h1 h2; subst h1; subst h2; rfl
                    | 3, h1, h2 => simp only [List.getElem?_cons_zero, List.getElem?_cons_succ, Option.some.injEq] at h1 h2; subst h1; subst h2; rfl
                    | 4, h1, h2 => simp only [List.getElem?_cons_zero, List.getElem?_cons_succ, Option.some.injEq] at h1 h2; subst h1; subst h2; rfl
                    | 5, h1, h2 => simp only [List.getElem?_cons_zero, List.getElem?_cons_succ, Option.some.injEq] at h1 h2; subst h1; subst h2; rfl
                    | 6, h1, h2 => simp only [List.getElem?_cons_zero, List.getElem?_cons_succ, Option.some.injEq] at h1 h2; subst h1; subst h2; rfl
                    | j + 7, h1, h2 => simp at h1
                  · intro b hb; rw [List.mem_singleton] at hb; subst hb; exact ⟨2, _, rfl, rfl⟩
                  · intro ρ w1 hb w2 hk hlt hap
                    have hnew : ∀ (k : Nat) (o : SX.Own) b, _ → _ → w.heap.size ≤ b := fun k o b h1 h2 => own_new (k := k) (o := o) (b := b) hb (by simp) h1 h2
                    have q7 := box_at (k := 7) (b := x.1) hb rfl
                    have q8 := box_at (k := 8) (b := x.2.1) hb rfl
                    have q9 := box_heap (k := 9) (b := x.2.2) hb rfl
                    have l7 := hlt x.1 ⟨7, _, rfl, rfl⟩
                    have l8 := hlt x.2.1 ⟨8, _, rfl, rfl⟩
                    have l9 := hlt x.2.2 ⟨9, _, rfl, rfl⟩
                    have hnb : ∀ b : Nat, (∃ (j : Nat) (o : SX.Own), ([boxO 23 (β 0) [.slice p2 good.length c2], boxO 3 (β 1) [.int .i64 wd], boxO 3 (β 2) [.int .i64 ws.length], .slice 49 6 (.slice (some ⟨b0, 0, none⟩) (ws.length + 1) (ws.length + 1)) (ws.length + 1) (rowK ws good wd (i + 1) s), boxO 43 (β 4) [.slice (some ⟨b0, 0, none⟩) (ws.length + 1) (ws.length + 1)], boxO 3 (β 5) [.int .i64 s], boxO 45 (β 6) (cellV (bestK ws.length cf 0))] : List SX.Own)[j]? = some o ∧ o.num (fun _ => 0) 0 = some b) ∨ w1.heap.size ≤ b → ∀ (j2 : Nat) (o2 : SX.Own), 7 ≤ j2 → ([boxO 23 (β 0) [.slice p2 good.length c2], boxO 3 (β 1) [.int .i64 wd], boxO 3 (β 2) [.int .i64 ws.length], .slice 49 6 (.slice (some ⟨b0, 0, none⟩) (ws.length + 1) (ws.length + 1)) (ws.length + 1) (rowK ws good wd (i + 1) s), boxO 43 (β 4) [.slice (some ⟨b0, 0, none⟩) (ws.length + 1) (ws.length + 1)], boxO 3 (β 5) [.int .i64 s], boxO 45 (β 6) (cellV (bestK ws.length cf 0))] ++ [boxO 22 x.1 [.slice p ws.length c], boxO 3 x.2.1 [.int .i64 i], boxO 3 x.2.2 [.int .i64 wd]] : List SX.Own)[j2]? = some o2 → o2.num (fun _ => 0) 0 = some b → False := fun b hB j2 o2 h7 h1 h2 => by
                      rcases hB with ⟨j, o, g1, g2⟩ | hB
                      · have hj : j < 7 := by have := (List.getElem?_eq_some_iff.1 g1).1; simpa using this
                        have := hap j j2 o o2 b (by rw [← g1]; exact List.getElem?_append_left (List.getElem?_eq_some_iff.1 g1).1) h1 g2 h2
                        omega
                      · have := hlt b ⟨j2, o2, h1, h2⟩; omega
                    rw [hsub]
                    refine ends1_iter (S := fun b => b < w.heap.size) (from0 := i) (q7.frame (hk.block _ trivial l7)) (Nat.lt_of_lt_of_le l7 hk.size) (q8.frame (hk.block _ trivial l8)) (Nat.lt_of_lt_of_le l8 hk.size) (by rw [hk.block _ trivial l9]; exact q9) (Rp.now hlS ((hb.first (by simp)).trans hk)) (fun b hb' _ => ⟨fun hB => ?_, fun he => ?_⟩) ⟨fun hB => hnb _ hB 7 _ (by omega) rfl rfl, fun he => ?_⟩ ⟨fun hB => hnb _ hB 8 _ (by omega) rfl rfl, fun he => ?_⟩ (fun hB => hnb _ hB 9 _ (by omega) rfl rfl) hv hn hWr (by omega)
                    · rcases hB with ⟨j, o, g1, g2⟩ | hB
                      · have hj : j < 7 := by have := (List.getElem?_eq_some_iff.1 g1).1; simpa using this
                        have hjo : ([boxO 23 (β 0) [.slice p2 good.length c2], boxO 3 (β 1) [.int .i64 wd], boxO 3 (β 2) [.int .i64 ws.length], .slice 49 6 (.slice (some ⟨b0, 0, none⟩) (ws.length + 1) (ws.length + 1)) (ws.length + 1) (rowK ws good wd (i + 1) s), boxO 43 (β 4) [.slice (some ⟨b0, 0, none⟩) (ws.length + 1) (ws.length + 1)], boxO 3 (β 5) [.int .i64 s], boxO 45 (β 6) (cellV (bestK ws.length cf 0))] ++ [boxO 22 x.1 [.slice p ws.length c], boxO 3 x.2.1 [.int .i64 i], boxO 3 x.2.2 [.int .i64 wd]] : List SX.Own)[j]? = some o := by rw [← g1]; exact List.getElem?_append_left (List.getElem?_eq_some_iff.1 g1).1
                        have hfo : freeO o = true := by
                          match j, g1 with
                          | 0, g1 => simp only [List.getElem?_cons_zero, List.getElem?_cons_succ, Option.some.injEq] at g1; subst g1; rfl
                          | 1, g1 => simp only [List.getElem?_cons_zero, List.getElem?_cons_succ, Option.some.injEq] at g1; subst g1; rfl
                          | 2, g1 => simp only [List.getElem?_cons_zero, List.getElem?_cons_succ, Option.some.injEq] at g1; subst g1; rfl
                          | 3, g1 => simp only [List.getElem?_cons_zero, List.getElem?_cons_succ, Option.some.injEq] at g1; subst g1; rfl
                          | 4, g1 => simp only [List.getElem?_cons_zero, List.getElem?_cons_succ, Option.some.injEq] at g1; subst g1; rfl
                          | 5, g1 => simp only [List.getElem?_cons_zero, List.getElem?_cons_succ, Option.some.injEq] at g1; subst g1; rfl
                          | 6, g1 => simp only [List.getElem?_cons_zero, List.getElem?_cons_succ, Option.some.injEq] at g1; subst g1; rfl
                          | j + 7, g1 => exact absurd hj (by omega)
                        have := hnew j o b (by rw [nth_eq]; exact hjo) (by rw [freeO_num hfo ρ (fun _ => 0) j 0]; exact g2)
                        omega
                      · have := (hb.first (w0 := w) (by simp)).size; omega
                    · have := hnew 9 _ x.2.2 rfl rfl; omega
                    · exact absurd (hap 7 9 _ _ x.1 rfl rfl rfl (congrArg some he.symm)) (by decide)
                    · exact absurd (hap 8 9 _ _ x.2.1 rfl rfl rfl (congrArg some he.symm)) (by decide)
                  · intro ll k S sw hk
                    refine W.region ?_
                    refine WO.go 1 (ds := []) rfl ?_
                    simp only [sx, ty, Bool.false_eq_true, Int.reduceEq, Int.reduceLT, Nat.reduceAdd, Nat.reduceSub, Nat.reduceMul, Nat.reduceLT, Nat.reduceLeDiff, Nat.reduceEqDiff, List.reduceReplicate, reduceIte, sxk, beq_self_eq_true, bne_self_eq_false, Int.reduceBEq, Int.reduceBNe, Bool.or_false, Bool.false_or, Bool.not_false, Bool.not_true, Int.reduceToNat, Nat.zero_mul, Nat.zero_add, Nat.one_mul, Nat.mul_one, Int.toNat_natCast, hw1, hw2]
                    with_reducible refine WO.nil ?_
                    exact ⟨rfl, by simp [getE, bnd, keepE, kp2], ⟨[], by simp⟩, by simp [Own.bnd, bndL, bnd, boxO], by simp⟩
                  · intro ll k S sw hk
                    have hfl := fitL_le wd sub
                    have hil2 : i + k < ws.length := by omega
                    have hok := (cell_ok (good := good) hv hW (ws.length - (i + k + 1)) (i + k + 1) (1 - s) (by omega)).1
                    have hr1 := rankT_1 ws good wd (i + k + 1) (1 - s)
                    have hwk3 : IntKind.i64.wrap ((rankT ws good wd (i + k + 1) (1 - s)).2.1 + 1) = (cell ws good wd (i + k + 1) (1 - s)).2.1 + 1 := by rw [hr1.2]; exact wrap_id (by omega) (by omega)
                    have hwk4 : IntKind.i64.wrap ((cell ws good wd (i + k + 1) (1 - s)).1 + 1) = (cell ws good wd (i + k + 1) (1 - s)).1 + 1 := wrap_id (by omega) (by omega)
                    have hwk5 : IntKind.i64.wrap ((ws.length : Int) - ((i + k + 1 : Nat) : Int)) = (ws.length : Int) - ((i + k + 1 : Nat) : Int) := wrap_id (by omega) (by omega)
                    have hcb : (cf k).1 ≤ ws.length := by
                      have := badTurn_01 good ws.length s (i + k + 1)
                      rw [hcf]; simp only [cand]; omega
                    have hless := less_rk (n := ws.length) (c := cf) (m := k) hcb (fun _ => trivial)
                    have hKr24 : ∀ t, Le t ⟨140, [], [boxO 23 (β 0) [.slice p2 good.length c2], boxO 3 (β 1) [.int .i64 wd], boxO 3 (β 2) [.int .i64 ws.length], .slice 49 6 (.slice (some ⟨b0, 0, none⟩) (ws.length + 1) (ws.length + 1)) (ws.length + 1) (rowK ws good wd (i + 1) s), boxO 43 (β 4) [.slice (some ⟨b0, 0, none⟩) (ws.length + 1) (ws.length + 1)], boxO 3 (β 5) [.int .i64 s], boxO 45 (β 6) (cellV (bestK ws.length cf (k + 1)))], (S, sw) :: [((fun b => b ∈ ds), sd), ((fun _ => True), w)], []⟩ → (onN fun τ => Le τ ⟨140, [], [boxO 23 (β 0) [.slice p2 good.length c2], boxO 3 (β 1) [.int .i64 wd], boxO 3 (β 2) [.int .i64 ws.length], .slice 49 6 (.slice (some ⟨b0, 0, none⟩) (ws.length + 1) (ws.length + 1)) (ws.length + 1) (rowK ws good wd (i + 1) s), boxO 43 (β 4) [.slice (some ⟨b0, 0, none⟩) (ws.length + 1) (ws.length + 1)], boxO 3 (β 5) [.int .i64 s], boxO 45 (β 6) (cellV (bestK ws.length cf (k + 1)))], (S, sw) :: [((fun b => b ∈ ds), sd), ((fun _ => True), w)], []⟩) .normal t := fun t h => h
                    refine W.block ?_
                    refine W.seqK fun K25 hK25 => ?_
                    refine W.regionS (ds := [some 61, some 62, some 63, some 64, some 65, some 66, some 67, some 14, none]) (tg := [none, none, none, none, none, none, none, some 7, some 7]) [⟨[], [], [9], [7], none, false⟩, ⟨[], [], [13], [7], none, false⟩, ⟨[], [], [11], [7], none, false⟩, ⟨[2], [2], [], [7], none, false⟩, ⟨[0, 1], [0, 1], [], [7], none, false⟩, ⟨[0, 1, 2, 3, 4], [3, 4], [], [7], none, false⟩, ⟨[0, 1, 2, 3, 4, 5], [5], [], [7], none, false⟩, ⟨[], [], [], [], some 7, true⟩, ⟨[0, 1, 2, 3, 4, 5, 6, 7], [7, 6], [], [], some 7, false⟩] 1 7 140 mixed rfl rfl (by kernel_rfl) (by kernel_rfl) ?_
                    simp only [sx, ty, Bool.false_eq_true, Int.reduceEq, Int.reduceLT, Nat.reduceAdd, Nat.reduceSub, Nat.reduceMul, Nat.reduceLT, Nat.reduceLeDiff, Nat.reduceEqDiff, List.reduceReplicate, reduceIte, sxs, List.toList_toArray, List.cons_append, List.nil_append, List.append_nil, beq_self_eq_true, bne_self_eq_false, Int.reduceBEq, Int.reduceBNe, Bool.or_false, Bool.false_or, Bool.not_false, Bool.not_true, Int.reduceToNat, Nat.zero_mul, Nat.zero_add, Nat.one_mul, Nat.mul_one, Int.toNat_natCast, hw1, hw2, hw3]
                    refine WS.load [.slice (some ⟨b0, 0, none⟩) (ws.length + 1) (ws.length + 1)] false rfl rfl rfl rfl agg43 sz43 (.inr rfl) (fun ρ w1 hb => box_at (k := 4) hb rfl) ?_
                    simp only [sx, ty, Bool.false_eq_true, Int.reduceEq, Int.reduceLT, Nat.reduceAdd, Nat.reduceSub, Nat.reduceMul, Nat.reduceLT, Nat.reduceLeDiff, Nat.reduceEqDiff, List.reduceReplicate, reduceIte, sxs, List.toList_toArray, List.cons_append, List.nil_append, List.append_nil, beq_self_eq_true, bne_self_eq_false, Int.reduceBEq, Int.reduceBNe, Bool.or_false, Bool.false_or, Bool.not_false, Bool.not_true, Int.reduceToNat, Nat.zero_mul, Nat.zero_add, Nat.one_mul, Nat.mul_one, Int.toNat_natCast, hw1, hw2, hw3]
                    refine WS.go rfl rfl rfl ?_
                    simp only [sx, ty, Bool.false_eq_true, Int.reduceEq, Int.reduceLT, Nat.reduceAdd, Nat.reduceSub, Nat.reduceMul, Nat.reduceLT, Nat.reduceLeDiff, Nat.reduceEqDiff, List.reduceReplicate, reduceIte, sxs, List.toList_toArray, List.cons_append, List.nil_append, List.append_nil, beq_self_eq_true, bne_self_eq_false, Int.reduceBEq, Int.reduceBNe, Bool.or_false, Bool.false_or, Bool.not_false, Bool.not_true, Int.reduceToNat, Nat.zero_mul, Nat.zero_add, Nat.one_mul, Nat.mul_one, Int.toNat_natCast, hw1, hw2, hw3]
                    refine WS.load [.int .i64 s] false rfl rfl rfl rfl agg3 sz3 (.inr rfl) (fun ρ w1 hb => box_at (k := 5) hb rfl) ?_
                    simp only [sx, ty, Bool.false_eq_true, Int.reduceEq, Int.reduceLT, Nat.reduceAdd, Nat.reduceSub, Nat.reduceMul, Nat.reduceLT, Nat.reduceLeDiff, Nat.reduceEqDiff, List.reduceReplicate, reduceIte, sxs, List.toList_toArray, List.cons_append, List.nil_append, List.append_nil, beq_self_eq_true, bne_self_eq_false, Int.reduceBEq, Int.reduceBNe, Bool.or_false, Bool.false_or, Bool.not_false, Bool.not_true, Int.reduceToNat, Nat.zero_mul, Nat.zero_add, Nat.one_mul, Nat.mul_one, Int.toNat_natCast, hw1, hw2, hw3]
                    refine WS.go rfl rfl rfl ?_
                    simp only [sx, ty, Bool.false_eq_true, Int.reduceEq, Int.reduceLT, Nat.reduceAdd, Nat.reduceSub, Nat.reduceMul, Nat.reduceLT, Nat.reduceLeDiff, Nat.reduceEqDiff, List.reduceReplicate, reduceIte, sxs, List.toList_toArray, List.cons_append, List.nil_append, List.append_nil, beq_self_eq_true, bne_self_eq_false, Int.reduceBEq, Int.reduceBNe, Bool.or_false, Bool.false_or, Bool.not_false, Bool.not_true, Int.reduceToNat, Nat.zero_mul, Nat.zero_add, Nat.one_mul, Nat.mul_one, Int.toNat_natCast, hw1, hw2, hw3]
                    refine WS.index rfl rfl rfl rfl rfl el43 (by omega) (by omega) ?_
                    simp only [sx, ty, Bool.false_eq_true, Int.reduceEq, Int.reduceLT, Nat.reduceAdd, Nat.reduceSub, Nat.reduceMul, Nat.reduceLT, Nat.reduceLeDiff, Nat.reduceEqDiff, List.reduceReplicate, reduceIte, sxs, List.toList_toArray, List.cons_append, List.nil_append, List.append_nil, beq_self_eq_true, bne_self_eq_false, Int.reduceBEq, Int.reduceBNe, Bool.or_false, Bool.false_or, Bool.not_false, Bool.not_true, Int.reduceToNat, Nat.zero_mul, Nat.zero_add, Nat.one_mul, Nat.mul_one, Int.toNat_natCast, hw1, hw2, hw3]
                    refine WS.q rfl rfl (QR.arrV rfl rfl rfl ar49 (by omega) (by omega)) ?_
                    simp only [sx, ty, Bool.false_eq_true, Int.reduceEq, Int.reduceLT, Nat.reduceAdd, Nat.reduceSub, Nat.reduceMul, Nat.reduceLT, Nat.reduceLeDiff, Nat.reduceEqDiff, List.reduceReplicate, reduceIte, sxs, List.toList_toArray, List.cons_append, List.nil_append, List.append_nil, beq_self_eq_true, bne_self_eq_false, Int.reduceBEq, Int.reduceBNe, Bool.or_false, Bool.false_or, Bool.not_false, Bool.not_true, Int.reduceToNat, Nat.zero_mul, Nat.zero_add, Nat.one_mul, Nat.mul_one, Int.toNat_natCast, hw3]
                    refine WS.load (cellV (rankT ws good wd (i + k + 1) (1 - s))) true rfl rfl rfl rfl agg45 sz45 (.inl rfl) (fun ρ w1 hb => ?_) ?_
                    · have h9 := row_at (k := 3) (b := b0) (T := 49) (sz := 6) (n := (ws.length + 1)) (c := (ws.length + 1)) (xs := rowK ws good wd (i + 1) s) hb rfl (rowK_get ws good wd (s := s) (r := 1 - s) (show i + 1 ≤ i + k + 1 by omega) (by omega) (by omega))
                      simpa [Addr.add_mid] using h9
                    simp only [ofCells, cellV, if_true]
                    simp only [sx, ty, Bool.false_eq_true, Int.reduceEq, Int.reduceLT, Nat.reduceAdd, Nat.reduceSub, Nat.reduceMul, Nat.reduceLT, Nat.reduceLeDiff, Nat.reduceEqDiff, List.reduceReplicate, reduceIte, sxs, List.toList_toArray, List.cons_append, List.nil_append, List.append_nil, beq_self_eq_true, bne_self_eq_false, Int.reduceBEq, Int.reduceBNe, Bool.or_false, Bool.false_or, Bool.not_false, Bool.not_true, Int.reduceToNat, Nat.zero_mul, Nat.zero_add, Nat.one_mul, Nat.mul_one, Int.toNat_natCast, hw1, hw2, hw3]
                    refine WS.alloc rfl rfl ze45 rfl rfl ?_
                    simp only [sx, ty, Bool.false_eq_true, Int.reduceEq, Int.reduceLT, Nat.reduceAdd, Nat.reduceSub, Nat.reduceMul, Nat.reduceLT, Nat.reduceLeDiff, Nat.reduceEqDiff, List.reduceReplicate, reduceIte, sxs, List.toList_toArray, List.cons_append, List.nil_append, List.append_nil, beq_self_eq_true, bne_self_eq_false, Int.reduceBEq, Int.reduceBNe, Bool.or_false, Bool.false_or, Bool.not_false, Bool.not_true, Int.reduceToNat, Nat.zero_mul, Nat.zero_add, Nat.one_mul, Nat.mul_one, Int.toNat_natCast, hw1, hw2, hw3]
                    refine WS.store rfl rfl rfl rfl rfl rfl rfl sz45 (Nat.le_of_ble_eq_true rfl) rfl ?_
                    simp only [sx, ty, Bool.false_eq_true, Int.reduceEq, Int.reduceLT, Nat.reduceAdd, Nat.reduceSub, Nat.reduceMul, Nat.reduceLT, Nat.reduceLeDiff, Nat.reduceEqDiff, List.reduceReplicate, reduceIte, sxs, List.toList_toArray, List.cons_append, List.nil_append, List.append_nil, beq_self_eq_true, bne_self_eq_false, Int.reduceBEq, Int.reduceBNe, Bool.or_false, Bool.false_or, Bool.not_false, Bool.not_true, Int.reduceToNat, Nat.zero_mul, Nat.zero_add, Nat.one_mul, Nat.mul_one, Int.toNat_natCast, hw1, hw2, hw3]
                    refine WS.nil [0, 1, 2, 3, 4, 5, 6, 7, 8] rfl rfl ?_
                    simp only [sx, ty, Bool.false_eq_true, Int.reduceEq, Int.reduceLT, Nat.reduceAdd, Nat.reduceSub, Nat.reduceMul, Nat.reduceLT, Nat.reduceLeDiff, Nat.reduceEqDiff, List.reduceReplicate, reduceIte, sxs, List.toList_toArray, List.cons_append, List.nil_append, List.append_nil, beq_self_eq_true, bne_self_eq_false, Int.reduceBEq, Int.reduceBNe, Bool.or_false, Bool.false_or, Bool.not_false, Bool.not_true, Int.reduceToNat, Nat.zero_mul, Nat.zero_add, Nat.one_mul, Nat.mul_one, Int.toNat_natCast, hw1, hw2, hw3]
                    refine hK25 _ ?_; clear hK25
                    refine W.seqK fun K26 hK26 => W.region ?_
                    refine WO.q (ds := []) rfl rfl rfl (QR.arr rfl rfl rfl ar45 (by omega) (by omega)) ?_
                    refine WO.go 1 (ds := []) rfl ?_
                    simp only [sx, ty, Bool.false_eq_true, Int.reduceEq, Int.reduceLT, Nat.reduceAdd, Nat.reduceSub, Nat.reduceMul, Nat.reduceLT, Nat.reduceLeDiff, Nat.reduceEqDiff, List.reduceReplicate, reduceIte, beq_self_eq_true, bne_self_eq_false, Int.reduceBEq, Int.reduceBNe, Bool.or_false, Bool.false_or, Bool.not_false, Bool.not_true, Int.reduceToNat, Nat.zero_mul, Nat.zero_add, Nat.one_mul, Nat.mul_one, Int.toNat_natCast, hw1, hw2, hw3, hr1.1, hwk3, hwk5]
                    refine WO.q (ds := []) rfl rfl rfl (QR.arr rfl rfl rfl ar45 (by omega) (by omega)) ?_
                    refine WO.go 2 (ds := []) rfl ?_
                    simp only [sx, ty, Bool.false_eq_true, Int.reduceEq, Int.reduceLT, Nat.reduceAdd, Nat.reduceSub, Nat.reduceMul, Nat.reduceLT, Nat.reduceLeDiff, Nat.reduceEqDiff, List.reduceReplicate, reduceIte, beq_self_eq_true, bne_self_eq_false, Int.reduceBEq, Int.reduceBNe, Bool.or_false, Bool.false_or, Bool.not_false, Bool.not_true, Int.reduceToNat, Nat.zero_mul, Nat.zero_add, Nat.one_mul, Nat.mul_one, Int.toNat_natCast, hw1, hw2, hw3, hr1.1, hwk3, hwk5]
                    refine WO.loadBox (k := 2) (i := 0) (sz := 1) rfl (ds := []) rfl rfl rfl rfl rfl (by simp [Addr.add_mid]) (by simp [cellV]) agg3 sz3 (.inr rfl) ?_
                    simp only [List.set_cons_zero, List.drop_zero, List.take_succ_cons, List.take_zero, ofCells, Bool.false_eq_true, reduceIte, List.headD_cons]
                    refine WO.go 5 (ds := []) rfl ?_
                    simp only [sx, ty, Bool.false_eq_true, Int.reduceEq, Int.reduceLT, Nat.reduceAdd, Nat.reduceSub, Nat.reduceMul, Nat.reduceLT, Nat.reduceLeDiff, Nat.reduceEqDiff, List.reduceReplicate, reduceIte, beq_self_eq_true, bne_self_eq_false, Int.reduceBEq, Int.reduceBNe, Bool.or_false, Bool.false_or, Bool.not_false, Bool.not_true, Int.reduceToNat, Nat.zero_mul, Nat.zero_add, Nat.one_mul, Nat.mul_one, Int.toNat_natCast, hw1, hw2, hw3, hr1.1, hwk3, hwk5]
                    with_reducible refine WO.nil ?_
                    refine hK26 _ ?_; clear hK26
                    refine W.seqK fun K27 hK27 => ?_
                    refine W.join 90 (.val (.bool (decide (s = 0) && (decide (i + k + 1 < ws.length) && !(good.getD (i + k + 1) true))))) [12, 15] (W.region ?_) ?_
                    · skip
                      refine WO.loadBox (k := 5) (i := 0) (sz := 1) rfl (ds := [some 77, some 78, some 79, some 80, some 81, some 82, some 83, some 84, some 85, some 86, some 87, some 88, some 89, some 90]) rfl rfl rfl rfl rfl (by simp [Addr.add_mid]) (by simp [cellV]) agg3 sz3 (.inr rfl) ?_
                      simp only [List.set_cons_zero, List.drop_zero, List.take_succ_cons, List.take_zero, ofCells, Bool.false_eq_true, reduceIte, List.headD_cons]
                      refine WO.go 2 (ds := [some 77, some 78, some 79, some 80, some 81, some 82, some 83, some 84, some 85, some 86, some 87, some 88, some 89, some 90]) rfl ?_
                      simp only [sx, ty, Bool.false_eq_true, Int.reduceEq, Int.reduceLT, Nat.reduceAdd, Nat.reduceSub, Nat.reduceMul, Nat.reduceLT, Nat.reduceLeDiff, Nat.reduceEqDiff, List.reduceReplicate, reduceIte, beq_self_eq_true, bne_self_eq_false, Int.reduceBEq, Int.reduceBNe, Bool.or_false, Bool.false_or, Bool.not_false, Bool.not_true, Int.reduceToNat, Nat.zero_mul, Nat.zero_add, Nat.one_mul, Nat.mul_one, Int.toNat_natCast, hw1, hw2, hw3, hr1.1, hwk3, hwk5, hwk4]
                      refine WO.cases 79 _ rfl (fun hg79 => ?_) (fun hg79 => ?_)
                      · skip
                        refine WO.go 1 (ds := [some 77, some 78, some 79, some 80, some 81, some 82, some 83, some 84, some 85, some 86, some 87, some 88, some 89, some 90]) rfl ?_
                        simp only [sx, ty, Bool.false_eq_true, Int.reduceEq, Int.reduceLT, Nat.reduceAdd, Nat.reduceSub, Nat.reduceMul, Nat.reduceLT, Nat.reduceLeDiff, Nat.reduceEqDiff, List.reduceReplicate, reduceIte, beq_self_eq_true, bne_self_eq_false, Int.reduceBEq, Int.reduceBNe, Bool.or_false, Bool.false_or, Bool.not_false, Bool.not_true, Int.reduceToNat, Nat.zero_mul, Nat.zero_add, Nat.one_mul, Nat.mul_one, Int.toNat_natCast, hw1, hw2, hw3, hr1.1, hwk3, hwk5, hwk4]
                        refine WO.loadBox (k := 2) (i := 0) (sz := 1) rfl (ds := [some 77, some 78, some 79, some 80, some 81, some 82, some 83, some 84, some 85, some 86, some 87, some 88, some 89, some 90]) rfl rfl rfl rfl rfl (by simp [Addr.add_mid]) (by simp [cellV]) agg3 sz3 (.inr rfl) ?_
                        simp only [List.set_cons_zero, List.drop_zero, List.take_succ_cons, List.take_zero, ofCells, Bool.false_eq_true, reduceIte, List.headD_cons]
                        refine WO.go 3 (ds := [some 77, some 78, some 79, some 80, some 81, some 82, some 83, some 84, some 85, some 86, some 87, some 88, some 89, some 90]) rfl ?_
                        simp only [sx, ty, Bool.false_eq_true, Int.reduceEq, Int.reduceLT, Nat.reduceAdd, Nat.reduceSub, Nat.reduceMul, Nat.reduceLT, Nat.reduceLeDiff, Nat.reduceEqDiff, List.reduceReplicate, reduceIte, beq_self_eq_true, bne_self_eq_false, Int.reduceBEq, Int.reduceBNe, Bool.or_false, Bool.false_or, Bool.not_false, Bool.not_true, Int.reduceToNat, Nat.zero_mul, Nat.zero_add, Nat.one_mul, Nat.mul_one, Int.toNat_natCast, hw1, hw2, hw3, hr1.1, hwk3, hwk5, hwk4]
                        refine WO.cases 84 _ rfl (fun hg84 => ?_) (fun hg84 => ?_)
                        · skip
                          refine WO.loadBox (k := 0) (i := 0) (sz := 1) rfl (ds := [some 77, some 78, some 79, some 80, some 81, some 82, some 83, some 84, some 85, some 86, some 87, some 88, some 89, some 90]) rfl rfl rfl rfl rfl (by simp [Addr.add_mid]) (by simp [cellV]) agg23 sz23 (.inr rfl) ?_
                          simp only [List.set_cons_zero, List.drop_zero, List.take_succ_cons, List.take_zero, ofCells, Bool.false_eq_true, reduceIte, List.headD_cons]
                          refine WO.go 1 (ds := [some 77, some 78, some 79, some 80, some 81, some 82, some 83, some 84, some 85, some 86, some 87, some 88, some 89, some 90]) rfl ?_
                          simp only [sx, ty, Bool.false_eq_true, Int.reduceEq, Int.reduceLT, Nat.reduceAdd, Nat.reduceSub, Nat.reduceMul, Nat.reduceLT, Nat.reduceLeDiff, Nat.reduceEqDiff, List.reduceReplicate, reduceIte, beq_self_eq_true, bne_self_eq_false, Int.reduceBEq, Int.reduceBNe, Bool.or_false, Bool.false_or, Bool.not_false, Bool.not_true, Int.reduceToNat, Nat.zero_mul, Nat.zero_add, Nat.one_mul, Nat.mul_one, Int.toNat_natCast, hw1, hw2, hw3, hr1.1, hwk3, hwk5, hwk4]
                          refine WO.elem (y := (good.getD (i + k + 1) true)) hl2 (by simp [St.put]) (ds := [some 77, some 78, some 79, some 80, some 81, some 82, some 83, some 84, some 85, some 86, some 87, some 88, some 89, some 90]) rfl rfl rfl (by simp [St.put]) (fun _ => rfl) rfl rfl rfl rfl rfl el23 agg4 sz4 (.inr rfl) (by omega) (good_get (by simp at hg84; omega)) fun p ces hces => ?_
                          obtain rfl := rBool_open hces
                          clear hces
                          refine WO.go 2 (ds := [some 77, some 78, some 79, some 80, some 81, some 82, some 83, some 84, some 85, some 86, some 87, some 88, some 89, some 90]) rfl ?_
                          simp only [sx, ty, Bool.false_eq_true, Int.reduceEq, Int.reduceLT, Nat.reduceAdd, Nat.reduceSub, Nat.reduceMul, Nat.reduceLT, Nat.reduceLeDiff, Nat.reduceEqDiff, List.reduceReplicate, reduceIte, beq_self_eq_true, bne_self_eq_false, Int.reduceBEq, Int.reduceBNe, Bool.or_false, Bool.false_or, Bool.not_false, Bool.not_true, Int.reduceToNat, Nat.zero_mul, Nat.zero_add, Nat.one_mul, Nat.mul_one, Int.toNat_natCast, hw1, hw2, hw3, hr1.1, hwk3, hwk5, hwk4]
                          with_reducible refine WO.nil ?_
                          refine ⟨rfl, ?_, ⟨_, rfl⟩, by simp [Own.bnd, bndL, bnd, boxO], by simp⟩
                          try rw [hg79]
                          try rw [hg84]
                          simp [getE, bnd, keepE]
                          try simp_all
                          try omega
                        · skip
                          refine WO.go 6 (ds := [some 77, some 78, some 79, some 80, some 81, some 82, some 83, some 84, some 85, some 86, some 87, some 88, some 89, some 90]) rfl ?_
                          simp only [sx, ty, Bool.false_eq_true, Int.reduceEq, Int.reduceLT, Nat.reduceAdd, Nat.reduceSub, Nat.reduceMul, Nat.reduceLT, Nat.reduceLeDiff, Nat.reduceEqDiff, List.reduceReplicate, reduceIte, beq_self_eq_true, bne_self_eq_false, Int.reduceBEq, Int.reduceBNe, Bool.or_false, Bool.false_or, Bool.not_false, Bool.not_true, Int.reduceToNat, Nat.zero_mul, Nat.zero_add, Nat.one_mul, Nat.mul_one, Int.toNat_natCast, hw1, hw2, hw3, hr1.1, hwk3, hwk5, hwk4]
                          with_reducible refine WO.nil ?_
                          refine ⟨rfl, ?_, ⟨_, rfl⟩, by simp [Own.bnd, bndL, bnd, boxO], by simp⟩
                          try rw [hg79]
                          try rw [hg84]
                          simp [getE, bnd, keepE]
                          try simp_all
                          try omega
                      · skip
                        refine WO.go 11 (ds := [some 77, some 78, some 79, some 80, some 81, some 82, some 83, some 84, some 85, some 86, some 87, some 88, some 89, some 90]) rfl ?_
                        simp only [sx, ty, Bool.false_eq_true, Int.reduceEq, Int.reduceLT, Nat.reduceAdd, Nat.reduceSub, Nat.reduceMul, Nat.reduceLT, Nat.reduceLeDiff, Nat.reduceEqDiff, List.reduceReplicate, reduceIte, beq_self_eq_true, bne_self_eq_false, Int.reduceBEq, Int.reduceBNe, Bool.or_false, Bool.false_or, Bool.not_false, Bool.not_true, Int.reduceToNat, Nat.zero_mul, Nat.zero_add, Nat.one_mul, Nat.mul_one, Int.toNat_natCast, hw1, hw2, hw3, hr1.1, hwk3, hwk5, hwk4]
                        with_reducible refine WO.nil ?_
                        refine ⟨rfl, ?_, ⟨_, rfl⟩, by simp [Own.bnd, bndL, bnd, boxO], by simp⟩
                        try rw [hg79]
                        try rw [hg84]
                        simp [getE, bnd, keepE]
                        try simp_all
                        try omega
                    · simp only [sx, ty, Bool.false_eq_true, Int.reduceEq, Int.reduceLT, Nat.reduceAdd, Nat.reduceSub, Nat.reduceMul, Nat.reduceLT, Nat.reduceLeDiff, Nat.reduceEqDiff, List.reduceReplicate, reduceIte, sxk, beq_self_eq_true, bne_self_eq_false, Int.reduceBEq, Int.reduceBNe, Bool.or_false, Bool.false_or, Bool.not_false, Bool.not_true, Int.reduceToNat, Nat.zero_mul, Nat.zero_add, Nat.one_mul, Nat.mul_one, Int.toNat_natCast, hw1, hw2, hw3, hr1.1, hwk3, hwk5, hwk4]
                      refine W.cond rfl rfl (fun hc => ?_) (fun hc => ?_)
                      · skip
                        simp only [Bool.and_eq_true, decide_eq_true_eq, Bool.not_eq_true'] at hc
                        have hxk : rk ws.length (cf k) = ((cell ws good wd (i + k + 1) (1 - s)).1 + 1, (cell ws good wd (i + k + 1) (1 - s)).2.1 + 1, (ws.length : Int) - ((i + k + 1 : Nat) : Int)) := by
                          rw [hcf]; simp only [rk, cand, badTurn]; rw [if_pos ⟨hc.1, hc.2.1, hc.2.2⟩]
                        refine W.region ?_
                        refine WO.q (ds := []) rfl rfl rfl (QR.arr rfl rfl rfl ar45 (by omega) (by omega)) ?_
                        refine WO.go 2 (ds := []) rfl ?_
                        simp only [sx, ty, Bool.false_eq_true, Int.reduceEq, Int.reduceLT, Nat.reduceAdd, Nat.reduceSub, Nat.reduceMul, Nat.reduceLT, Nat.reduceLeDiff, Nat.reduceEqDiff, List.reduceReplicate, reduceIte, beq_self_eq_true, bne_self_eq_false, Int.reduceBEq, Int.reduceBNe, Bool.or_false, Bool.false_or, Bool.not_false, Bool.not_true, Int.reduceToNat, Nat.zero_mul, Nat.zero_add, Nat.one_mul, Nat.mul_one, Int.toNat_natCast, hw1, hw2, hw3, hr1.1, hwk3, hwk5, hwk4]
                        refine WO.q (ds := []) rfl rfl rfl (QR.arr rfl rfl rfl ar45 (by omega) (by omega)) ?_
                        refine WO.go 1 (ds := []) rfl ?_
                        simp only [sx, ty, Bool.false_eq_true, Int.reduceEq, Int.reduceLT, Nat.reduceAdd, Nat.reduceSub, Nat.reduceMul, Nat.reduceLT, Nat.reduceLeDiff, Nat.reduceEqDiff, List.reduceReplicate, reduceIte, beq_self_eq_true, bne_self_eq_false, Int.reduceBEq, Int.reduceBNe, Bool.or_false, Bool.false_or, Bool.not_false, Bool.not_true, Int.reduceToNat, Nat.zero_mul, Nat.zero_add, Nat.one_mul, Nat.mul_one, Int.toNat_natCast, hw1, hw2, hw3, hr1.1, hwk3, hwk5, hwk4]
                        with_reducible refine WO.nil ?_
                        refine hK27 _ ?_
                        refine W.join 103 (.val (.bool (lessF (cf k) (bestTo ws.length cf k)))) [12, 15] (W.regionQ mixed (by kernel_rfl) ?_) ?_
                        · skip
                          refine WQ.go 1 (ds := [some 95, some 96, some 97, some 98, some 99, some 100, some 101, some 102, some 103]) rfl ?_
                          simp only [sx, ty, Bool.false_eq_true, Int.reduceEq, Int.reduceLT, Nat.reduceAdd, Nat.reduceSub, Nat.reduceMul, Nat.reduceLT, Nat.reduceLeDiff, Nat.reduceEqDiff, List.reduceReplicate, reduceIte, sxq, Bool.false_eq_true, beq_self_eq_true, bne_self_eq_false, Int.reduceBEq, Int.reduceBNe, Bool.or_false, Bool.false_or, Bool.not_false, Bool.not_true, Int.reduceToNat, Nat.zero_mul, Nat.zero_add, Nat.one_mul, Nat.mul_one, Int.toNat_natCast, hw1, hw2, hw3, hr1.1, hwk3, hwk5, hwk4]
                          refine WQ.q (ds := [some 95, some 96, some 97, some 98, some 99, some 100, some 101, some 102, some 103]) rfl rfl rfl (QR.load (cellV (bestK ws.length cf k)) true rfl rfl agg45 sz45 (.inl rfl) (fun ρ w1 hb => box_at (k := 6) hb rfl)) ?_
                          simp only [ofCells, cellV, if_true]
                          simp only [sx, ty, Bool.false_eq_true, Int.reduceEq, Int.reduceLT, Nat.reduceAdd, Nat.reduceSub, Nat.reduceMul, Nat.reduceLT, Nat.reduceLeDiff, Nat.reduceEqDiff, List.reduceReplicate, reduceIte, beq_self_eq_true, bne_self_eq_false, Int.reduceBEq, Int.reduceBNe, Bool.or_false, Bool.false_or, Bool.not_false, Bool.not_true, Int.reduceToNat, Nat.zero_mul, Nat.zero_add, Nat.one_mul, Nat.mul_one, Int.toNat_natCast, hw1, hw2, hw3, hr1.1, hwk3, hwk5, hwk4]
                          refine WQ.q (ds := [some 95, some 96, some 97, some 98, some 99, some 100, some 101, some 102, some 103]) rfl rfl rfl (QR.arrCmp (lstV ((cell ws good wd (i + k + 1) (1 - s)).1 + 1, (cell ws good wd (i + k + 1) (1 - s)).2.1 + 1, (ws.length : Int) - ((i + k + 1 : Nat) : Int))) (lstV (bestK ws.length cf k)) rfl ⟨_, rfl, fun _ => rfl⟩ ⟨_, rfl, fun _ => rfl⟩ ia45 rfl rfl rfl) ?_
                          refine WQ.go 1 (ds := [some 95, some 96, some 97, some 98, some 99, some 100, some 101, some 102, some 103]) rfl ?_
                          simp only [sx, ty, Bool.false_eq_true, Int.reduceEq, Int.reduceLT, Nat.reduceAdd, Nat.reduceSub, Nat.reduceMul, Nat.reduceLT, Nat.reduceLeDiff, Nat.reduceEqDiff, List.reduceReplicate, reduceIte, sxq, Bool.false_eq_true, beq_self_eq_true, bne_self_eq_false, Int.reduceBEq, Int.reduceBNe, Bool.or_false, Bool.false_or, Bool.not_false, Bool.not_true, Int.reduceToNat, Nat.zero_mul, Nat.zero_add, Nat.one_mul, Nat.mul_one, Int.toNat_natCast, hw1, hw2, hw3, hr1.1, hwk3, hwk5, hwk4]
                          refine WQ.cases 98 _ rfl (fun hg98 => ?_) (fun hg98 => ?_)
                          · skip
                            refine WQ.q (ds := [some 95, some 96, some 97, some 98, some 99, some 100, some 101, some 102, some 103]) rfl rfl rfl (QR.arrSlice rfl rfl ar45) ?_
                            simp only [sx, ty, Bool.false_eq_true, Int.reduceEq, Int.reduceLT, Nat.reduceAdd, Nat.reduceSub, Nat.reduceMul, Nat.reduceLT, Nat.reduceLeDiff, Nat.reduceEqDiff, List.reduceReplicate, reduceIte, beq_self_eq_true, bne_self_eq_false, Int.reduceBEq, Int.reduceBNe, Bool.or_false, Bool.false_or, Bool.not_false, Bool.not_true, Int.reduceToNat, Nat.zero_mul, Nat.zero_add, Nat.one_mul, Nat.mul_one, Int.toNat_natCast, hw1, hw2, hw3, hr1.1, hwk3, hwk5, hwk4]
                            refine WQ.q (ds := [some 95, some 96, some 97, some 98, some 99, some 100, some 101, some 102, some 103]) rfl rfl rfl (QR.arrSliceV rfl rfl ar45) ?_
                            simp only [sx, ty, Bool.false_eq_true, Int.reduceEq, Int.reduceLT, Nat.reduceAdd, Nat.reduceSub, Nat.reduceMul, Nat.reduceLT, Nat.reduceLeDiff, Nat.reduceEqDiff, List.reduceReplicate, reduceIte, beq_self_eq_true, bne_self_eq_false, Int.reduceBEq, Int.reduceBNe, Bool.or_false, Bool.false_or, Bool.not_false, Bool.not_true, Int.reduceToNat, Nat.zero_mul, Nat.zero_add, Nat.one_mul, Nat.mul_one, Int.toNat_natCast, hw1, hw2, hw3, hr1.1, hwk3, hwk5, hwk4]
                            refine WQ.call (.int .i64 (cmpL (lstV ((cell ws good wd (i + k + 1) (1 - s)).1 + 1, (cell ws good wd (i + k + 1) (1 - s)).2.1 + 1, (ws.length : Int) - ((i + k + 1 : Nat) : Int))) (lstV (bestK ws.length cf k)))) (ds := [some 95, some 96, some 97, some 98, some 99, some 100, some 101, some 102, some 103]) rfl rfl rfl rfl co23 (fun ρ w1 hb => by
    have q1 : rInts.rd (fun _ => True) w1 [.slice (some ⟨ρ 8, 0, none⟩) 3 3] (lstV ((cell ws good wd (i + k + 1) (1 - s)).1 + 1, (cell ws good wd (i + k + 1) (1 - s)).2.1 + 1, (ws.length : Int) - ((i + k + 1 : Nat) : Int))) := own_listS (A := rInt) (k := 8) hb rfl rfl (Nat.le_refl _) (by omega) trivial (ints_read (lstV ((cell ws good wd (i + k + 1) (1 - s)).1 + 1, (cell ws good wd (i + k + 1) (1 - s)).2.1 + 1, (ws.length : Int) - ((i + k + 1 : Nat) : Int))))
    have q2 : rInts.rd (fun _ => True) w1 [.slice (some ((⟨β 6, 0, none⟩ : Addr).add 0)) 3 3] (lstV (bestK ws.length cf k)) := Rp.slice_mk (cellV (bestK ws.length cf k)) rfl (Nat.le_refl _) (by omega) trivial (Array.getElem?_eq_some_iff.1 (box_heap (k := 6) hb rfl)).1 (box_at (k := 6) hb rfl) (ints_read (lstV (bestK ws.length cf k)))
    exact compare_spec q1 q2) ?_
                            refine WQ.go 2 (ds := [some 95, some 96, some 97, some 98, some 99, some 100, some 101, some 102, some 103]) rfl ?_
                            simp only [sx, ty, Bool.false_eq_true, Int.reduceEq, Int.reduceLT, Nat.reduceAdd, Nat.reduceSub, Nat.reduceMul, Nat.reduceLT, Nat.reduceLeDiff, Nat.reduceEqDiff, List.reduceReplicate, reduceIte, sxq, Bool.false_eq_true, beq_self_eq_true, bne_self_eq_false, Int.reduceBEq, Int.reduceBNe, Bool.or_false, Bool.false_or, Bool.not_false, Bool.not_true, Int.reduceToNat, Nat.zero_mul, Nat.zero_add, Nat.one_mul, Nat.mul_one, Int.toNat_natCast, hw1, hw2, hw3, hr1.1, hwk3, hwk5, hwk4]
                            with_reducible refine WQ.nil ?_
                            refine ⟨rfl, ?_, ⟨_, rfl⟩, by simp [Own.bnd, bndL, bnd, boxO], by simp⟩
                            have hself : (lstV ((cell ws good wd (i + k + 1) (1 - s)).1 + 1, (cell ws good wd (i + k + 1) (1 - s)).2.1 + 1, (ws.length : Int) - ((i + k + 1 : Nat) : Int)) == lstV (bestK ws.length cf k)) = true → lessF (cf k) (bestTo ws.length cf k) = false := fun h => by
                              rw [lst_eq, decide_eq_true_eq] at h
                              rw [← hless, decide_eq_false_iff_not, hxk, h]; exact cmpL_self _
                            rw [hxk] at hless
                            simp [getE, bnd, keepE, kp2]
                            first | exact hless | exact hself (by rwa [Bool.not_eq_false'] at hg98)
                          · skip
                            refine WQ.go 5 (ds := [some 95, some 96, some 97, some 98, some 99, some 100, some 101, some 102, some 103]) rfl ?_
                            simp only [sx, ty, Bool.false_eq_true, Int.reduceEq, Int.reduceLT, Nat.reduceAdd, Nat.reduceSub, Nat.reduceMul, Nat.reduceLT, Nat.reduceLeDiff, Nat.reduceEqDiff, List.reduceReplicate, reduceIte, sxq, Bool.false_eq_true, beq_self_eq_true, bne_self_eq_false, Int.reduceBEq, Int.reduceBNe, Bool.or_false, Bool.false_or, Bool.not_false, Bool.not_true, Int.reduceToNat, Nat.zero_mul, Nat.zero_add, Nat.one_mul, Nat.mul_one, Int.toNat_natCast, hw1, hw2, hw3, hr1.1, hwk3, hwk5, hwk4]
                            with_reducible refine WQ.nil ?_
                            refine ⟨rfl, ?_, ⟨_, rfl⟩, by simp [Own.bnd, bndL, bnd, boxO], by simp⟩
                            have hself : (lstV ((cell ws good wd (i + k + 1) (1 - s)).1 + 1, (cell ws good wd (i + k + 1) (1 - s)).2.1 + 1, (ws.length : Int) - ((i + k + 1 : Nat) : Int)) == lstV (bestK ws.length cf k)) = true → lessF (cf k) (bestTo ws.length cf k) = false := fun h => by
                              rw [lst_eq, decide_eq_true_eq] at h
                              rw [← hless, decide_eq_false_iff_not, hxk, h]; exact cmpL_self _
                            rw [hxk] at hless
                            simp [getE, bnd, keepE, kp2]
                            first | exact hless | exact hself (by rwa [Bool.not_eq_false'] at hg98)
                        · simp only [sx, ty, Bool.false_eq_true, Int.reduceEq, Int.reduceLT, Nat.reduceAdd, Nat.reduceSub, Nat.reduceMul, Nat.reduceLT, Nat.reduceLeDiff, Nat.reduceEqDiff, List.reduceReplicate, reduceIte, sxk, beq_self_eq_true, bne_self_eq_false, Int.reduceBEq, Int.reduceBNe, Bool.or_false, Bool.false_or, Bool.not_false, Bool.not_true, Int.reduceToNat, Nat.zero_mul, Nat.zero_add, Nat.one_mul, Nat.mul_one, Int.toNat_natCast, hw1, hw2, hw3, hr1.1, hwk3, hwk5, hwk4]
                          refine W.cond rfl rfl (fun hc => ?_) (fun hc => ?_)
                          · skip
                            refine W.region ?_
                            refine WO.go 1 (ds := []) rfl ?_
                            simp only [sx, ty, Bool.false_eq_true, Int.reduceEq, Int.reduceLT, Nat.reduceAdd, Nat.reduceSub, Nat.reduceMul, Nat.reduceLT, Nat.reduceLeDiff, Nat.reduceEqDiff, List.reduceReplicate, reduceIte, beq_self_eq_true, bne_self_eq_false, Int.reduceBEq, Int.reduceBNe, Bool.or_false, Bool.false_or, Bool.not_false, Bool.not_true, Int.reduceToNat, Nat.zero_mul, Nat.zero_add, Nat.one_mul, Nat.mul_one, Int.toNat_natCast, hw1, hw2, hw3, hr1.1, hwk3, hwk5, hwk4]
                            refine WO.storeRow (T := 45) (k := 6) (b := β 6) (sz := 1) (n := 3) (c := 3) (xs := cellV (bestK ws.length cf k)) (u := .agg (cellV ((cell ws good wd (i + k + 1) (1 - s)).1 + 1, (cell ws good wd (i + k + 1) (1 - s)).2.1 + 1, (ws.length : Int) - ((i + k + 1 : Nat) : Int))).toArray) 0 (cellV ((cell ws good wd (i + k + 1) (1 - s)).1 + 1, (cell ws good wd (i + k + 1) (1 - s)).2.1 + 1, (ws.length : Int) - ((i + k + 1 : Nat) : Int))) rfl (ds := []) rfl rfl rfl rfl rfl rfl (by simp [cellV]) (by simp [cellV]) ⟨_, rfl, fun ρ => rfl⟩ rfl (by simp [cellV, Value.oneCell']) sz45 ?_
                            simp only [sx, ty, Bool.false_eq_true, Int.reduceEq, Int.reduceLT, Nat.reduceAdd, Nat.reduceSub, Nat.reduceMul, Nat.reduceLT, Nat.reduceLeDiff, Nat.reduceEqDiff, List.reduceReplicate, reduceIte, beq_self_eq_true, bne_self_eq_false, Int.reduceBEq, Int.reduceBNe, Bool.or_false, Bool.false_or, Bool.not_false, Bool.not_true, Int.reduceToNat, Nat.zero_mul, Nat.zero_add, Nat.one_mul, Nat.mul_one, Int.toNat_natCast, hw1, hw2, hw3, hr1.1, hwk3, hwk5, hwk4]
                            with_reducible refine WO.nil ?_
                            refine hKr24 _ ?_
                            have hB1 : bestK ws.length cf (k + 1) = ((cell ws good wd (i + k + 1) (1 - s)).1 + 1, (cell ws good wd (i + k + 1) (1 - s)).2.1 + 1, (ws.length : Int) - ((i + k + 1 : Nat) : Int)) := by rw [bestK_step' hcb, if_pos hc, hxk]
                            exact ⟨rfl, by simp, ⟨_, by rw [hB1]; rfl⟩, by simp [Own.bnd, bndL, bnd, boxO], by simp⟩
                          · skip
                            refine W.skip (hKr24 _ ?_)
                            have hB1 : bestK ws.length cf (k + 1) = (bestK ws.length cf k) := by rw [bestK_step' hcb, if_neg (by rw [hc]; decide)]
                            exact ⟨rfl, by simp, ⟨_, by rw [hB1]; rfl⟩, by simp [Own.bnd, bndL, bnd, boxO], by simp⟩
                      · skip
                        have hxk : rk ws.length (cf k) = ((cell ws good wd (i + k + 1) (1 - s)).1, (cell ws good wd (i + k + 1) (1 - s)).2.1 + 1, (ws.length : Int) - ((i + k + 1 : Nat) : Int)) := by
                          rw [hcf]; simp only [rk, cand, badTurn]; rw [if_neg, Int.add_zero]
                          rintro ⟨h1, h2, h3⟩; rw [h3] at hc; simp [h1, h2] at hc
                        refine W.skip (hK27 _ ?_)
                        refine W.join 103 (.val (.bool (lessF (cf k) (bestTo ws.length cf k)))) [12, 15] (W.regionQ mixed (by kernel_rfl) ?_) ?_
                        · skip
                          refine WQ.go 1 (ds := [some 95, some 96, some 97, some 98, some 99, some 100, some 101, some 102, some 103]) rfl ?_
                          simp only [sx, ty, Bool.false_eq_true, Int.reduceEq, Int.reduceLT, Nat.reduceAdd, Nat.reduceSub, Nat.reduceMul, Nat.reduceLT, Nat.reduceLeDiff, Nat.reduceEqDiff, List.reduceReplicate, reduceIte, sxq, Bool.false_eq_true, beq_self_eq_true, bne_self_eq_false, Int.reduceBEq, Int.reduceBNe, Bool.or_false, Bool.false_or, Bool.not_false, Bool.not_true, Int.reduceToNat, Nat.zero_mul, Nat.zero_add, Nat.one_mul, Nat.mul_one, Int.toNat_natCast, hw1, hw2, hw3, hr1.1, hwk3, hwk5, hwk4]
                          refine WQ.q (ds := [some 95, some 96, some 97, some 98, some 99, some 100, some 101, some 102, some 103]) rfl rfl rfl (QR.load (cellV (bestK ws.length cf k)) true rfl rfl agg45 sz45 (.inl rfl) (fun ρ w1 hb => box_at (k := 6) hb rfl)) ?_
                          simp only [ofCells, cellV, if_true]
                          simp only [sx, ty, Bool.false_eq_true, Int.reduceEq, Int.reduceLT, Nat.reduceAdd, Nat.reduceSub, Nat.reduceMul, Nat.reduceLT, Nat.reduceLeDiff, Nat.reduceEqDiff, List.reduceReplicate, reduceIte, beq_self_eq_true, bne_self_eq_false, Int.reduceBEq, Int.reduceBNe, Bool.or_false, Bool.false_or, Bool.not_false, Bool.not_true, Int.reduceToNat, Nat.zero_mul, Nat.zero_add, Nat.one_mul, Nat.mul_one, Int.toNat_natCast, hw1, hw2, hw3, hr1.1, hwk3, hwk5, hwk4]
                          refine WQ.q (ds := [some 95, some 96, some 97, some 98, some 99, some 100, some 101, some 102, some 103]) rfl rfl rfl (QR.arrCmp (lstV ((cell ws good wd (i + k + 1) (1 - s)).1, (cell ws good wd (i + k + 1) (1 - s)).2.1 + 1, (ws.length : Int) - ((i + k + 1 : Nat) : Int))) (lstV (bestK ws.length cf k)) rfl ⟨_, rfl, fun _ => rfl⟩ ⟨_, rfl, fun _ => rfl⟩ ia45 rfl rfl rfl) ?_
                          refine WQ.go 1 (ds := [some 95, some 96, some 97, some 98, some 99, some 100, some 101, some 102, some 103]) rfl ?_
                          simp only [sx, ty, Bool.false_eq_true, Int.reduceEq, Int.reduceLT, Nat.reduceAdd, Nat.reduceSub, Nat.reduceMul, Nat.reduceLT, Nat.reduceLeDiff, Nat.reduceEqDiff, List.reduceReplicate, reduceIte, sxq, Bool.false_eq_true, beq_self_eq_true, bne_self_eq_false, Int.reduceBEq, Int.reduceBNe, Bool.or_false, Bool.false_or, Bool.not_false, Bool.not_true, Int.reduceToNat, Nat.zero_mul, Nat.zero_add, Nat.one_mul, Nat.mul_one, Int.toNat_natCast, hw1, hw2, hw3, hr1.1, hwk3, hwk5, hwk4]
                          refine WQ.cases 98 _ rfl (fun hg98 => ?_) (fun hg98 => ?_)
                          · skip
                            refine WQ.q (ds := [some 95, some 96, some 97, some 98, some 99, some 100, some 101, some 102, some 103]) rfl rfl rfl (QR.arrSlice rfl rfl ar45) ?_
                            simp only [sx, ty, Bool.false_eq_true, Int.reduceEq, Int.reduceLT, Nat.reduceAdd, Nat.reduceSub, Nat.reduceMul, Nat.reduceLT, Nat.reduceLeDiff, Nat.reduceEqDiff, List.reduceReplicate, reduceIte, beq_self_eq_true, bne_self_eq_false, Int.reduceBEq, Int.reduceBNe, Bool.or_false, Bool.false_or, Bool.not_false, Bool.not_true, Int.reduceToNat, Nat.zero_mul, Nat.zero_add, Nat.one_mul, Nat.mul_one, Int.toNat_natCast, hw1, hw2, hw3, hr1.1, hwk3, hwk5, hwk4]
                            refine WQ.q (ds := [some 95, some 96, some 97, some 98, some 99, some 100, some 101, some 102, some 103]) rfl rfl rfl (QR.arrSliceV rfl rfl ar45) ?_
                            simp only [sx, ty, Bool.false_eq_true, Int.reduceEq, Int.reduceLT, Nat.reduceAdd, Nat.reduceSub, Nat.reduceMul, Nat.reduceLT, Nat.reduceLeDiff, Nat.reduceEqDiff, List.reduceReplicate, reduceIte, beq_self_eq_true, bne_self_eq_false, Int.reduceBEq, Int.reduceBNe, Bool.or_false, Bool.false_or, Bool.not_false, Bool.not_true, Int.reduceToNat, Nat.zero_mul, Nat.zero_add, Nat.one_mul, Nat.mul_one, Int.toNat_natCast, hw1, hw2, hw3, hr1.1, hwk3, hwk5, hwk4]
                            refine WQ.call (.int .i64 (cmpL (lstV ((cell ws good wd (i + k + 1) (1 - s)).1, (cell ws good wd (i + k + 1) (1 - s)).2.1 + 1, (ws.length : Int) - ((i + k + 1 : Nat) : Int))) (lstV (bestK ws.length cf k)))) (ds := [some 95, some 96, some 97, some 98, some 99, some 100, some 101, some 102, some 103]) rfl rfl rfl rfl co23 (fun ρ w1 hb => by
    have q1 : rInts.rd (fun _ => True) w1 [.slice (some ⟨ρ 8, 0, none⟩) 3 3] (lstV ((cell ws good wd (i + k + 1) (1 - s)).1, (cell ws good wd (i + k + 1) (1 - s)).2.1 + 1, (ws.length : Int) - ((i + k + 1 : Nat) : Int))) := own_listS (A := rInt) (k := 8) hb rfl rfl (Nat.le_refl _) (by omega) trivial (ints_read (lstV ((cell ws good wd (i + k + 1) (1 - s)).1, (cell ws good wd (i + k + 1) (1 - s)).2.1 + 1, (ws.length : Int) - ((i + k + 1 : Nat) : Int))))
    have q2 : rInts.rd (fun _ => True) w1 [.slice (some ((⟨β 6, 0, none⟩ : Addr).add 0)) 3 3] (lstV (bestK ws.length cf k)) := Rp.slice_mk (cellV (bestK ws.length cf k)) rfl (Nat.le_refl _) (by omega) trivial (Array.getElem?_eq_some_iff.1 (box_heap (k := 6) hb rfl)).1 (box_at (k := 6) hb rfl) (ints_read (lstV (bestK ws.length cf k)))
    exact compare_spec q1 q2) ?_
                            refine WQ.go 2 (ds := [some 95, some 96, some 97, some 98, some 99, some 100, some 101, some 102, some 103]) rfl ?_
                            simp only [sx, ty, Bool.false_eq_true, Int.reduceEq, Int.reduceLT, Nat.reduceAdd, Nat.reduceSub, Nat.reduceMul, Nat.reduceLT, Nat.reduceLeDiff, Nat.reduceEqDiff, List.reduceReplicate, reduceIte, sxq, Bool.false_eq_true, beq_self_eq_true, bne_self_eq_false, Int.reduceBEq, Int.reduceBNe, Bool.or_false, Bool.false_or, Bool.not_false, Bool.not_true, Int.reduceToNat, Nat.zero_mul, Nat.zero_add, Nat.one_mul, Nat.mul_one, Int.toNat_natCast, hw1, hw2, hw3, hr1.1, hwk3, hwk5, hwk4]
                            with_reducible refine WQ.nil ?_
                            refine ⟨rfl, ?_, ⟨_, rfl⟩, by simp [Own.bnd, bndL, bnd, boxO], by simp⟩
                            have hself : (lstV ((cell ws good wd (i + k + 1) (1 - s)).1, (cell ws good wd (i + k + 1) (1 - s)).2.1 + 1, (ws.length : Int) - ((i + k + 1 : Nat) : Int)) == lstV (bestK ws.length cf k)) = true → lessF (cf k) (bestTo ws.length cf k) = false := fun h => by
                              rw [lst_eq, decide_eq_true_eq] at h
                              rw [← hless, decide_eq_false_iff_not, hxk, h]; exact cmpL_self _
                            rw [hxk] at hless
                            simp [getE, bnd, keepE, kp2]
                            first | exact hless | exact hself (by rwa [Bool.not_eq_false'] at hg98)
                          · skip
                            refine WQ.go 5 (ds := [some 95, some 96, some 97, some 98, some 99, some 100, some 101, some 102, some 103]) rfl ?_
                            simp only [sx, ty, Bool.false_eq_true, Int.reduceEq, Int.reduceLT, Nat.reduceAdd, Nat.reduceSub, Nat.reduceMul, Nat.reduceLT, Nat.reduceLeDiff, Nat.reduceEqDiff, List.reduceReplicate, reduceIte, sxq, Bool.false_eq_true, beq_self_eq_true, bne_self_eq_false, Int.reduceBEq, Int.reduceBNe, Bool.or_false, Bool.false_or, Bool.not_false, Bool.not_true, Int.reduceToNat, Nat.zero_mul, Nat.zero_add, Nat.one_mul, Nat.mul_one, Int.toNat_natCast, hw1, hw2, hw3, hr1.1, hwk3, hwk5, hwk4]
                            with_reducible refine WQ.nil ?_
                            refine ⟨rfl, ?_, ⟨_, rfl⟩, by simp [Own.bnd, bndL, bnd, boxO], by simp⟩
                            have hself : (lstV ((cell ws good wd (i + k + 1) (1 - s)).1, (cell ws good wd (i + k + 1) (1 - s)).2.1 + 1, (ws.length : Int) - ((i + k + 1 : Nat) : Int)) == lstV (bestK ws.length cf k)) = true → lessF (cf k) (bestTo ws.length cf k) = false := fun h => by
                              rw [lst_eq, decide_eq_true_eq] at h
                              rw [← hless, decide_eq_false_iff_not, hxk, h]; exact cmpL_self _
                            rw [hxk] at hless
                            simp [getE, bnd, keepE, kp2]
                            first | exact hless | exact hself (by rwa [Bool.not_eq_false'] at hg98)
                        · simp only [sx, ty, Bool.false_eq_true, Int.reduceEq, Int.reduceLT, Nat.reduceAdd, Nat.reduceSub, Nat.reduceMul, Nat.reduceLT, Nat.reduceLeDiff, Nat.reduceEqDiff, List.reduceReplicate, reduceIte, sxk, beq_self_eq_true, bne_self_eq_false, Int.reduceBEq, Int.reduceBNe, Bool.or_false, Bool.false_or, Bool.not_false, Bool.not_true, Int.reduceToNat, Nat.zero_mul, Nat.zero_add, Nat.one_mul, Nat.mul_one, Int.toNat_natCast, hw1, hw2, hw3, hr1.1, hwk3, hwk5, hwk4]
                          refine W.cond rfl rfl (fun hc => ?_) (fun hc => ?_)
                          · skip
                            refine W.region ?_
                            refine WO.go 1 (ds := []) rfl ?_
                            simp only [sx, ty, Bool.false_eq_true, Int.reduceEq, Int.reduceLT, Nat.reduceAdd, Nat.reduceSub, Nat.reduceMul, Nat.reduceLT, Nat.reduceLeDiff, Nat.reduceEqDiff, List.reduceReplicate, reduceIte, beq_self_eq_true, bne_self_eq_false, Int.reduceBEq, Int.reduceBNe, Bool.or_false, Bool.false_or, Bool.not_false, Bool.not_true, Int.reduceToNat, Nat.zero_mul, Nat.zero_add, Nat.one_mul, Nat.mul_one, Int.toNat_natCast, hw1, hw2, hw3, hr1.1, hwk3, hwk5, hwk4]
                            refine WO.storeRow (T := 45) (k := 6) (b := β 6) (sz := 1) (n := 3) (c := 3) (xs := cellV (bestK ws.length cf k)) (u := .agg (cellV ((cell ws good wd (i + k + 1) (1 - s)).1, (cell ws good wd (i + k + 1) (1 - s)).2.1 + 1, (ws.length : Int) - ((i + k + 1 : Nat) : Int))).toArray) 0 (cellV ((cell ws good wd (i + k + 1) (1 - s)).1, (cell ws good wd (i + k + 1) (1 - s)).2.1 + 1, (ws.length : Int) - ((i + k + 1 : Nat) : Int))) rfl (ds := []) rfl rfl rfl rfl rfl rfl (by simp [cellV]) (by simp [cellV]) ⟨_, rfl, fun ρ => rfl⟩ rfl (by simp [cellV, Value.oneCell']) sz45 ?_
                            simp only [sx, ty, Bool.false_eq_true, Int.reduceEq, Int.reduceLT, Nat.reduceAdd, Nat.reduceSub, Nat.reduceMul, Nat.reduceLT, Nat.reduceLeDiff, Nat.reduceEqDiff, List.reduceReplicate, reduceIte, beq_self_eq_true, bne_self_eq_false, Int.reduceBEq, Int.reduceBNe, Bool.or_false, Bool.false_or, Bool.not_false, Bool.not_true, Int.reduceToNat, Nat.zero_mul, Nat.zero_add, Nat.one_mul, Nat.mul_one, Int.toNat_natCast, hw1, hw2, hw3, hr1.1, hwk3, hwk5, hwk4]
                            with_reducible refine WO.nil ?_
                            refine hKr24 _ ?_
                            have hB1 : bestK ws.length cf (k + 1) = ((cell ws good wd (i + k + 1) (1 - s)).1, (cell ws good wd (i + k + 1) (1 - s)).2.1 + 1, (ws.length : Int) - ((i + k + 1 : Nat) : Int)) := by rw [bestK_step' hcb, if_pos hc, hxk]
                            exact ⟨rfl, by simp, ⟨_, by rw [hB1]; rfl⟩, by simp [Own.bnd, bndL, bnd, boxO], by simp⟩
                          · skip
                            refine W.skip (hKr24 _ ?_)
                            have hB1 : bestK ws.length cf (k + 1) = (bestK ws.length cf k) := by rw [bestK_step' hcb, if_neg (by rw [hc]; decide)]
                            exact ⟨rfl, by simp, ⟨_, by rw [hB1]; rfl⟩, by simp [Own.bnd, bndL, bnd, boxO], by simp⟩
                  intro D s2 hM2
                  refine hK22 _ ?_
                  simp only [sx, ty, Bool.false_eq_true, Int.reduceEq, Int.reduceLT, Nat.reduceAdd, Nat.reduceSub, Nat.reduceMul, Nat.reduceLT, Nat.reduceLeDiff, Nat.reduceEqDiff, List.reduceReplicate, reduceIte, sxk, beq_self_eq_true, bne_self_eq_false, Int.reduceBEq, Int.reduceBNe, Bool.or_false, Bool.false_or, Bool.not_false, Bool.not_true, Int.reduceToNat, Nat.zero_mul, Nat.zero_add, Nat.one_mul, Nat.mul_one, Int.toNat_natCast, hw1, hw2]
                  rw [hbest]
                  refine W.unpin β ⟨140, [(0, .val (.slice p ws.length c)), (4, .loc 0 0), (5, .loc 1 0), (8, .loc 2 0), (9, .loc 4 0), (10, .val (.int .i64 i)), (11, .loc 5 0), (12, .loc 6 0), (50, .val (.int .i64 s))], [.cells 23 [.val (.slice p2 good.length c2)], .cells 3 [.val (.int .i64 wd)], .cells 3 [.val (.int .i64 ws.length)], .slice 49 6 (.slice (some ⟨b0, 0, none⟩) (ws.length + 1) (ws.length + 1)) (ws.length + 1) (rowK ws good wd (i + 1) s), .cells 43 [.val (.slice (some ⟨b0, 0, none⟩) (ws.length + 1) (ws.length + 1))], .cells 3 [.val (.int .i64 s)], .cells 45 [.val (.int .i64 (rk ws.length (cell ws good wd i s)).1), .val (.int .i64 (rk ws.length (cell ws good wd i s)).2.1), .val (.int .i64 (rk ws.length (cell ws good wd i s)).2.2)]], [((fun b => b ∈ (D :: ds)), s2), ((fun _ => True), w)], D :: ds⟩ rfl (by simp [getE, den, bnd]) ⟨.inr ⟨_, _, rfl, rfl, rfl⟩, .inr ⟨_, _, rfl, rfl, rfl⟩, .inr ⟨_, _, rfl, rfl, rfl⟩, .inl ⟨rfl, rfl⟩, .inr ⟨_, _, rfl, rfl, rfl⟩, .inr ⟨_, _, rfl, rfl, rfl⟩, .inr ⟨_, _, rfl, rfl, rfl⟩, trivial⟩ (by simp) ?_
                  refine W.regionT' 6 [] [0, 1, 2, 3, 4, 5] mixed (by kernel_rfl) ?_
                  simp only [sx, ty, Bool.false_eq_true, Int.reduceEq, Int.reduceLT, Nat.reduceAdd, Nat.reduceSub, Nat.reduceMul, Nat.reduceLT, Nat.reduceLeDiff, Nat.reduceEqDiff, List.reduceReplicate, reduceIte, sxt, List.toList_toArray, beq_self_eq_true, bne_self_eq_false, Int.reduceBEq, Int.reduceBNe, Bool.or_false, Bool.false_or, Bool.not_false, Bool.not_true, Int.reduceToNat, Nat.zero_mul, Nat.zero_add, Nat.one_mul, Nat.mul_one, Int.toNat_natCast, hw1, hw2]
                  refine WQ.go 4 (ds := []) rfl ?_
                  simp only [sx, ty, Bool.false_eq_true, Int.reduceEq, Int.reduceLT, Nat.reduceAdd, Nat.reduceSub, Nat.reduceMul, Nat.reduceLT, Nat.reduceLeDiff, Nat.reduceEqDiff, List.reduceReplicate, reduceIte, sxq, Bool.false_eq_true, beq_self_eq_true, bne_self_eq_false, Int.reduceBEq, Int.reduceBNe, Bool.or_false, Bool.false_or, Bool.not_false, Bool.not_true, Int.reduceToNat, Nat.zero_mul, Nat.zero_add, Nat.one_mul, Nat.mul_one, Int.toNat_natCast, hw1, hw2]
                  refine WQ.q (ds := []) rfl rfl rfl (QR.idx rfl rfl rfl el43 (by omega) (by omega)) ?_
                  simp only [sx, ty, Bool.false_eq_true, Int.reduceEq, Int.reduceLT, Nat.reduceAdd, Nat.reduceSub, Nat.reduceMul, Nat.reduceLT, Nat.reduceLeDiff, Nat.reduceEqDiff, List.reduceReplicate, reduceIte, beq_self_eq_true, bne_self_eq_false, Int.reduceBEq, Int.reduceBNe, Bool.or_false, Bool.false_or, Bool.not_false, Bool.not_true, Int.reduceToNat, Nat.zero_mul, Nat.zero_add, Nat.one_mul, Nat.mul_one, Int.toNat_natCast, hw1, hw2]
                  refine WQ.q (ds := []) rfl rfl rfl (QR.arrV rfl rfl rfl ar49 (by omega) (by omega)) ?_
                  simp only [sx, ty, Bool.false_eq_true, Int.reduceEq, Int.reduceLT, Nat.reduceAdd, Nat.reduceSub, Nat.reduceMul, Nat.reduceLT, Nat.reduceLeDiff, Nat.reduceEqDiff, List.reduceReplicate, reduceIte, beq_self_eq_true, bne_self_eq_false, Int.reduceBEq, Int.reduceBNe, Bool.or_false, Bool.false_or, Bool.not_false, Bool.not_true, Int.reduceToNat, Nat.zero_mul, Nat.zero_add, Nat.one_mul, Nat.mul_one, Int.toNat_natCast, hw1, hw2]
                  with_reducible refine WQ.nil ?_
                  refine WO.storeRow (T := 49) (k := 3) (b := b0) (sz := 6) (n := (ws.length + 1)) (c := (ws.length + 1)) (xs := rowK ws good wd (i + 1) s) (u := .agg (cellV (rk ws.length (cell ws good wd i s))).toArray) (i * 6 + s * 3) (cellV (rk ws.length (cell ws good wd i s))) rfl (ds := []) rfl rfl rfl rfl rfl (by simp [Addr.add_mid]) (by rw [rowK_len]; simp only [cellV, List.length_cons, List.length_nil]; omega) (by simp [cellV]) ⟨_, rfl, fun ρ => rfl⟩ rfl (by simp [cellV, Value.oneCell']) sz45 ?_
                  rw [show (cellV (rk ws.length (cell ws good wd i s))).length = 3 from rfl, rowK_set ws good wd hil hs2]
                  simp only [sx, ty, Bool.false_eq_true, Int.reduceEq, Int.reduceLT, Nat.reduceAdd, Nat.reduceSub, Nat.reduceMul, Nat.reduceLT, Nat.reduceLeDiff, Nat.reduceEqDiff, List.reduceReplicate, reduceIte, beq_self_eq_true, bne_self_eq_false, Int.reduceBEq, Int.reduceBNe, Bool.or_false, Bool.false_or, Bool.not_false, Bool.not_true, Int.reduceToNat, Nat.zero_mul, Nat.zero_add, Nat.one_mul, Nat.mul_one, Int.toNat_natCast, hw1, hw2]
                  with_reducible refine WO.nil ?_
                  refine hK19 _ ?_
                  refine W.region ?_
                  refine WO.go 2 (ds := []) rfl ?_
                  simp only [sx, ty, Bool.false_eq_true, Int.reduceEq, Int.reduceLT, Nat.reduceAdd, Nat.reduceSub, Nat.reduceMul, Nat.reduceLT, Nat.reduceLeDiff, Nat.reduceEqDiff, List.reduceReplicate, reduceIte, beq_self_eq_true, bne_self_eq_false, Int.reduceBEq, Int.reduceBNe, Bool.or_false, Bool.false_or, Bool.not_false, Bool.not_true, Int.reduceToNat, Nat.zero_mul, Nat.zero_add, Nat.one_mul, Nat.mul_one, Int.toNat_natCast, hw1, hw2]
                  with_reducible refine WO.nil ?_
                  refine ⟨(s + 1, D :: ds, s2), ?_, by simp only; omega, rfl, by simp [getE, bnd, keepE, wrap_succ (show s + 1 ≤ 9223372036854775807 by omega)], ⟨_, rfl⟩, by simp [Own.bnd, bndL, bnd, boxO], by simp⟩
                  exact ⟨by show s + 1 ≤ 2; omega, hM2⟩
                · skip
                  obtain rfl : s = 2 := by simp at hc; omega
                  refine W.exit (hK15 _ ?_)
                  refine W.region ?_
                  refine WO.go 3 (ds := []) rfl ?_
                  simp only [sx, ty, Bool.false_eq_true, Int.reduceEq, Int.reduceLT, Nat.reduceAdd, Nat.reduceSub, Nat.reduceMul, Nat.reduceLT, Nat.reduceLeDiff, Nat.reduceEqDiff, List.reduceReplicate, reduceIte, beq_self_eq_true, bne_self_eq_false, Int.reduceBEq, Int.reduceBNe, Bool.or_false, Bool.false_or, Bool.not_false, Bool.not_true, Int.reduceToNat, Nat.zero_mul, Nat.zero_add, Nat.one_mul, Nat.mul_one, Int.toNat_natCast, hw1, hw2]
                  with_reducible refine WO.nil ?_
                  refine ⟨(i, ds, sd), ⟨by simp only; omega, hM⟩, by simp only; omega, rfl, by simp [getE, bnd, keepE, wrap_id (x := (i : Int) - 1) (by omega) (by omega)], ⟨[], by simp only [rowK_next, List.append_nil]⟩, by simp [Own.bnd, bndL, bnd], by simp⟩
            · skip
              obtain rfl : i0 = 0 := by simp at hc; omega
              refine W.exit (hK11 _ ?_)
              refine W.seqK fun K31 hK31 => ?_
              refine W.seqK fun K32 hK32 => W.region ?_
              refine WO.go 1 (ds := []) rfl ?_
              simp only [sx, ty, Bool.false_eq_true, Int.reduceEq, Int.reduceLT, Nat.reduceAdd, Nat.reduceSub, Nat.reduceMul, Nat.reduceLT, Nat.reduceLeDiff, Nat.reduceEqDiff, List.reduceReplicate, reduceIte, beq_self_eq_true, bne_self_eq_false, Int.reduceBEq, Int.reduceBNe, Bool.or_false, Bool.false_or, Bool.not_false, Bool.not_true, Int.reduceToNat, Nat.zero_mul, Nat.zero_add, Nat.one_mul, Nat.mul_one, Int.toNat_natCast, hw1, hw2]
              refine WO.q (ds := []) rfl rfl rfl (QR.idx rfl rfl rfl el43 (by omega) (by omega)) ?_
              simp only [sx, ty, Bool.false_eq_true, Int.reduceEq, Int.reduceLT, Nat.reduceAdd, Nat.reduceSub, Nat.reduceMul, Nat.reduceLT, Nat.reduceLeDiff, Nat.reduceEqDiff, List.reduceReplicate, reduceIte, beq_self_eq_true, bne_self_eq_false, Int.reduceBEq, Int.reduceBNe, Bool.or_false, Bool.false_or, Bool.not_false, Bool.not_true, Int.reduceToNat, Nat.zero_mul, Nat.zero_add, Nat.one_mul, Nat.mul_one, Int.toNat_natCast, hw1, hw2]
              refine WO.q (ds := []) rfl rfl rfl (QR.arrV rfl rfl rfl ar49 (by omega) (by omega)) ?_
              simp only [sx, ty, Bool.false_eq_true, Int.reduceEq, Int.reduceLT, Nat.reduceAdd, Nat.reduceSub, Nat.reduceMul, Nat.reduceLT, Nat.reduceLeDiff, Nat.reduceEqDiff, List.reduceReplicate, reduceIte, beq_self_eq_true, bne_self_eq_false, Int.reduceBEq, Int.reduceBNe, Bool.or_false, Bool.false_or, Bool.not_false, Bool.not_true, Int.reduceToNat, Nat.zero_mul, Nat.zero_add, Nat.one_mul, Nat.mul_one, Int.toNat_natCast, hw1, hw2]
              refine WO.q (ds := []) rfl rfl rfl (QR.arrV rfl rfl rfl ar45 (by omega) (by omega)) ?_
              refine WO.q (ds := []) rfl rfl rfl (QR.load [.int .i64 (cell ws good wd 0 0).2.1] false rfl rfl agg3 sz3 (.inr rfl) (fun ρ w1 hb => by
                have h9 := row_at (k := 3) (b := b0) (T := 49) (sz := 6) (n := (ws.length + 1)) (c := (ws.length + 1)) (xs := rowK ws good wd 0 0) hb rfl (rowK_f1 (s := 0) (r := 0) (show 0 ≤ 0 by omega) (by omega) (by omega))
                simpa [Addr.add_mid] using h9)) ?_
              simp only [List.set_cons_zero, List.drop_zero, List.take_succ_cons, List.take_zero, ofCells, Bool.false_eq_true, reduceIte, List.headD_cons]
              refine WO.go 1 (ds := []) rfl ?_
              simp only [sx, ty, Bool.false_eq_true, Int.reduceEq, Int.reduceLT, Nat.reduceAdd, Nat.reduceSub, Nat.reduceMul, Nat.reduceLT, Nat.reduceLeDiff, Nat.reduceEqDiff, List.reduceReplicate, reduceIte, beq_self_eq_true, bne_self_eq_false, Int.reduceBEq, Int.reduceBNe, Bool.or_false, Bool.false_or, Bool.not_false, Bool.not_true, Int.reduceToNat, Nat.zero_mul, Nat.zero_add, Nat.one_mul, Nat.mul_one, Int.toNat_natCast, hw1, hw2]
              with_reducible refine WO.nil ?_
              refine hK32 _ ?_; clear hK32
              refine W.cond rfl rfl (fun hc => ?_) (fun hc => ?_)
              · skip
                have h4 : 1000 < (cell ws good wd 0 0).2.1 := by simpa using hc
                refine W.pure (ds := []) rfl fun K33 hK33 => ?_
                simp only [sx, ty, Bool.false_eq_true, Int.reduceEq, Int.reduceLT, Nat.reduceAdd, Nat.reduceSub, Nat.reduceMul, Nat.reduceLT, Nat.reduceLeDiff, Nat.reduceEqDiff, List.reduceReplicate, reduceIte, beq_self_eq_true, bne_self_eq_false, Int.reduceBEq, Int.reduceBNe, Bool.or_false, Bool.false_or, Bool.not_false, Bool.not_true, Int.reduceToNat, Nat.zero_mul, Nat.zero_add, Nat.one_mul, Nat.mul_one, Int.toNat_natCast, hw1, hw2]; with_reducible refine hK33 _ ?_; clear hK33
                refine W.ret ?_
                refine ⟨by simp, ⟨_, by simp, hM⟩, RunR.ex ?_⟩
                simp only [sx, ty, Bool.false_eq_true, Int.reduceEq, Int.reduceLT, Nat.reduceAdd, Nat.reduceSub, Nat.reduceMul, Nat.reduceLT, Nat.reduceLeDiff, Nat.reduceEqDiff, List.reduceReplicate, reduceIte, sxr, beq_self_eq_true, bne_self_eq_false, Int.reduceBEq, Int.reduceBNe, Bool.or_false, Bool.false_or, Bool.not_false, Bool.not_true, Int.reduceToNat, Nat.zero_mul, Nat.zero_add, Nat.one_mul, Nat.mul_one, Int.toNat_natCast, hw1, hw2]
                intro ρ w1 hb
                rw [bestF_many h0 h2 h3 h4]
                exact ⟨(none, 0), rfl, Rp.slice_nil (by omega)⟩
              · skip
                have h4 : ¬ 1000 < (cell ws good wd 0 0).2.1 := by simpa using hc
                refine W.skip (hK31 _ ?_)
                refine W.pure (ds := []) rfl fun K34 hK34 => ?_
                simp only [sx, ty, Bool.false_eq_true, Int.reduceEq, Int.reduceLT, Nat.reduceAdd, Nat.reduceSub, Nat.reduceMul, Nat.reduceLT, Nat.reduceLeDiff, Nat.reduceEqDiff, List.reduceReplicate, reduceIte, beq_self_eq_true, bne_self_eq_false, Int.reduceBEq, Int.reduceBNe, Bool.or_false, Bool.false_or, Bool.not_false, Bool.not_true, Int.reduceToNat, Nat.zero_mul, Nat.zero_add, Nat.one_mul, Nat.mul_one, Int.toNat_natCast, hw1, hw2]; with_reducible refine hK34 _ ?_; clear hK34
                refine W.seqK fun K35 hK35 => ?_
                refine W.pure (ds := []) rfl fun K36 hK36 => ?_
                simp only [sx, ty, Bool.false_eq_true, Int.reduceEq, Int.reduceLT, Nat.reduceAdd, Nat.reduceSub, Nat.reduceMul, Nat.reduceLT, Nat.reduceLeDiff, Nat.reduceEqDiff, List.reduceReplicate, reduceIte, beq_self_eq_true, bne_self_eq_false, Int.reduceBEq, Int.reduceBNe, Bool.or_false, Bool.false_or, Bool.not_false, Bool.not_true, Int.reduceToNat, Nat.zero_mul, Nat.zero_add, Nat.one_mul, Nat.mul_one, Int.toNat_natCast, hw1, hw2]; with_reducible refine hK36 _ ?_; clear hK36
                refine W.block ?_
                refine W.ownNil 36 2 ?_
                simp only [sx, ty, Bool.false_eq_true, Int.reduceEq, Int.reduceLT, Nat.reduceAdd, Nat.reduceSub, Nat.reduceMul, Nat.reduceLT, Nat.reduceLeDiff, Nat.reduceEqDiff, List.reduceReplicate, reduceIte]
                refine W.loopO (X := List Pg × Nat × Option Addr × Nat) [8, 9] (fun x => [(16, .val (.slice x.2.2.1 x.1.length x.2.2.2)), (17, .val (.int .i64 x.2.1))]) (fun x => [.cells 23 [.val (.slice p2 good.length c2)], .cells 3 [.val (.int .i64 wd)], .cells 3 [.val (.int .i64 ws.length)], .slice 49 6 (.slice (some ⟨b0, 0, none⟩) (ws.length + 1) (ws.length + 1)) (ws.length + 1) (rowK ws good wd 0 0), .cells 43 [.val (.slice (some ⟨b0, 0, none⟩) (ws.length + 1) (ws.length + 1))], .slice 36 2 (.slice x.2.2.1 x.1.length x.2.2.2) x.1.length (pgsV x.1)]) (fun x => [((fun b => b ∈ ds), sd), ((fun _ => True), w)]) (fun x => x.2.1 ≤ ws.length ∧ path ws good wd ws.length 0 0 = x.1 ++ path ws good wd (ws.length - x.2.1) x.2.1 (x.1.length % 2)) (fun x => ws.length - x.2.1) ([], 0, none, 0) ?_ ?_ ?_
                · exact ⟨rfl, by simp [getE, bnd, keepE], ⟨[], by simp [pgsV]⟩, by simp [Own.bnd, bndL, bnd, boxO], by simp⟩
                · skip
                  exact ⟨Nat.zero_le _, rfl⟩
                · rintro ⟨l, i, p3, c3⟩ ⟨hi, hpath⟩
                  simp only at hi hpath
                  simp only [sx, ty, Bool.false_eq_true, Int.reduceEq, Int.reduceLT, Nat.reduceAdd, Nat.reduceSub, Nat.reduceMul, Nat.reduceLT, Nat.reduceLeDiff, Nat.reduceEqDiff, List.reduceReplicate, reduceIte, sxk, beq_self_eq_true, bne_self_eq_false, Int.reduceBEq, Int.reduceBNe, Bool.or_false, Bool.false_or, Bool.not_false, Bool.not_true, Int.reduceToNat, Nat.zero_mul, Nat.zero_add, Nat.one_mul, Nat.mul_one, Int.toNat_natCast, hw1, hw2]
                  refine W.seqK fun K37 hK37 => ?_
                  refine W.pure (ds := []) rfl fun K38 hK38 => ?_
                  simp only [sx, ty, Bool.false_eq_true, Int.reduceEq, Int.reduceLT, Nat.reduceAdd, Nat.reduceSub, Nat.reduceMul, Nat.reduceLT, Nat.reduceLeDiff, Nat.reduceEqDiff, List.reduceReplicate, reduceIte, beq_self_eq_true, bne_self_eq_false, Int.reduceBEq, Int.reduceBNe, Bool.or_false, Bool.false_or, Bool.not_false, Bool.not_true, Int.reduceToNat, Nat.zero_mul, Nat.zero_add, Nat.one_mul, Nat.mul_one, Int.toNat_natCast, hw1, hw2]; with_reducible refine hK38 _ ?_; clear hK38
                  refine W.cond rfl rfl (fun hc => ?_) (fun hc => ?_)
                  · skip
                    have hlt : i < ws.length := by simpa using hc
                    have hmod := mod2n l.length
                    have hm2 : l.length % 2 < 2 := by omega
                    obtain ⟨u, hu1, hu2, hu3, hu4⟩ := path_step ws good wd hv hW (l.length % 2) hlt
                    have hw6 : IntKind.i64.wrap ((ws.length : Int) - ((ws.length : Int) - (cell ws good wd i (l.length % 2)).2.2)) = (u : Int) := by rw [hu3, wrap_id (by omega) (by omega)]; omega
                    have hlen : l.length ≤ 1000 := by rw [hpath, List.length_append] at hpc; omega
                    have hnm : (l.length + 1) % 2 = 1 - l.length % 2 := by omega
                    refine W.skip (hK37 _ ?_)
                    refine W.block ?_
                    refine W.seqK fun K39 hK39 => ?_
                    refine W.regionQ mixed (by kernel_rfl) ?_
                    refine WQ.go 6 (ds := []) rfl ?_
                    simp only [sx, ty, Bool.false_eq_true, Int.reduceEq, Int.reduceLT, Nat.reduceAdd, Nat.reduceSub, Nat.reduceMul, Nat.reduceLT, Nat.reduceLeDiff, Nat.reduceEqDiff, List.reduceReplicate, reduceIte, sxq, Bool.false_eq_true, beq_self_eq_true, bne_self_eq_false, Int.reduceBEq, Int.reduceBNe, Bool.or_false, Bool.false_or, Bool.not_false, Bool.not_true, Int.reduceToNat, Nat.zero_mul, Nat.zero_add, Nat.one_mul, Nat.mul_one, Int.toNat_natCast, hw1, hw2, hmod, hw6]
                    refine WQ.q (ds := []) rfl rfl rfl (QR.idx rfl rfl rfl el43 (by omega) (by omega)) ?_
                    simp only [sx, ty, Bool.false_eq_true, Int.reduceEq, Int.reduceLT, Nat.reduceAdd, Nat.reduceSub, Nat.reduceMul, Nat.reduceLT, Nat.reduceLeDiff, Nat.reduceEqDiff, List.reduceReplicate, reduceIte, beq_self_eq_true, bne_self_eq_false, Int.reduceBEq, Int.reduceBNe, Bool.or_false, Bool.false_or, Bool.not_false, Bool.not_true, Int.reduceToNat, Nat.zero_mul, Nat.zero_add, Nat.one_mul, Nat.mul_one, Int.toNat_natCast, hw1, hw2, hmod, hw6]
                    refine WQ.q (ds := []) rfl rfl rfl (QR.arrV rfl rfl rfl ar49 (by omega) (by omega)) ?_
                    simp only [sx, ty, Bool.false_eq_true, Int.reduceEq, Int.reduceLT, Nat.reduceAdd, Nat.reduceSub, Nat.reduceMul, Nat.reduceLT, Nat.reduceLeDiff, Nat.reduceEqDiff, List.reduceReplicate, reduceIte, beq_self_eq_true, bne_self_eq_false, Int.reduceBEq, Int.reduceBNe, Bool.or_false, Bool.false_or, Bool.not_false, Bool.not_true, Int.reduceToNat, Nat.zero_mul, Nat.zero_add, Nat.one_mul, Nat.mul_one, Int.toNat_natCast, hw1, hw2, hmod, hw6]
                    refine WQ.q (ds := []) rfl rfl rfl (QR.arrV rfl rfl rfl ar45 (by omega) (by omega)) ?_
                    refine WQ.q (ds := []) rfl rfl rfl (QR.load [.int .i64 ((ws.length : Int) - (cell ws good wd i (l.length % 2)).2.2)] false rfl rfl agg3 sz3 (.inr rfl) (fun ρ w1 hb => by
                      have h9 := row_at (k := 3) (b := b0) (T := 49) (sz := 6) (n := (ws.length + 1)) (c := (ws.length + 1)) (xs := rowK ws good wd 0 0) hb rfl (rowK_f2 (s := 0) (r := l.length % 2) (show 0 ≤ i by omega) hlt (by omega))
                      simpa [Addr.add_mid] using h9)) ?_
                    simp only [List.set_cons_zero, List.drop_zero, List.take_succ_cons, List.take_zero, ofCells, Bool.false_eq_true, reduceIte, List.headD_cons]
                    refine WQ.go 2 (ds := []) rfl ?_
                    simp only [sx, ty, Bool.false_eq_true, Int.reduceEq, Int.reduceLT, Nat.reduceAdd, Nat.reduceSub, Nat.reduceMul, Nat.reduceLT, Nat.reduceLeDiff, Nat.reduceEqDiff, List.reduceReplicate, reduceIte, sxq, Bool.false_eq_true, beq_self_eq_true, bne_self_eq_false, Int.reduceBEq, Int.reduceBNe, Bool.or_false, Bool.false_or, Bool.not_false, Bool.not_true, Int.reduceToNat, Nat.zero_mul, Nat.zero_add, Nat.one_mul, Nat.mul_one, Int.toNat_natCast, hw1, hw2, hmod, hw6]
                    with_reducible refine WQ.nil ?_
                    refine hK39 _ ?_; clear hK39
                    refine W.seqK fun K40 hK40 => W.region ?_
                    refine WO.go 5 (ds := []) rfl ?_
                    simp only [sx, ty, Bool.false_eq_true, Int.reduceEq, Int.reduceLT, Nat.reduceAdd, Nat.reduceSub, Nat.reduceMul, Nat.reduceLT, Nat.reduceLeDiff, Nat.reduceEqDiff, List.reduceReplicate, reduceIte, beq_self_eq_true, bne_self_eq_false, Int.reduceBEq, Int.reduceBNe, Bool.or_false, Bool.false_or, Bool.not_false, Bool.not_true, Int.reduceToNat, Nat.zero_mul, Nat.zero_add, Nat.one_mul, Nat.mul_one, Int.toNat_natCast, hw1, hw2, hmod, hw6]
                    refine WO.append (k := 5) (m := 1) [.int .i64 i, .int .i64 u] (ds := []) rfl rfl rfl rfl rfl rfl rfl ek24 (news_own (k2 := 6) rfl fun _ => rfl) rfl (by simp [Value.oneCell']) (by rw [maxLen_eq]; omega) (by omega) fun p6 c6 => ?_
                    refine WO.go 1 (ds := []) rfl ?_
                    simp only [sx, ty, Bool.false_eq_true, Int.reduceEq, Int.reduceLT, Nat.reduceAdd, Nat.reduceSub, Nat.reduceMul, Nat.reduceLT, Nat.reduceLeDiff, Nat.reduceEqDiff, List.reduceReplicate, reduceIte, beq_self_eq_true, bne_self_eq_false, Int.reduceBEq, Int.reduceBNe, Bool.or_false, Bool.false_or, Bool.not_false, Bool.not_true, Int.reduceToNat, Nat.zero_mul, Nat.zero_add, Nat.one_mul, Nat.mul_one, Int.toNat_natCast, hw1, hw2, hmod, hw6]
                    with_reducible refine WO.nil ?_
                    refine hK40 _ ?_; clear hK40
                    refine W.region ?_
                    refine WO.go 2 (ds := []) rfl ?_
                    simp only [sx, ty, Bool.false_eq_true, Int.reduceEq, Int.reduceLT, Nat.reduceAdd, Nat.reduceSub, Nat.reduceMul, Nat.reduceLT, Nat.reduceLeDiff, Nat.reduceEqDiff, List.reduceReplicate, reduceIte, beq_self_eq_true, bne_self_eq_false, Int.reduceBEq, Int.reduceBNe, Bool.or_false, Bool.false_or, Bool.not_false, Bool.not_true, Int.reduceToNat, Nat.zero_mul, Nat.zero_add, Nat.one_mul, Nat.mul_one, Int.toNat_natCast, hw1, hw2, hmod, hw6]
                    with_reducible refine WO.nil ?_
                    refine ⟨(l ++ [((i : Int), (u : Int))], u, p6, c6), ⟨hu2, ?_⟩, by simp only; omega, rfl, by simp [getE, bnd, keepE], ⟨_, by simp only [pgsV_app, List.length_append]; rfl⟩, by simp [Own.bnd, bndL, bnd], by simp⟩
                    simp only
                    rw [hpath, hu4, List.append_assoc, List.length_append, List.length_singleton, hnm]; rfl
                  · skip
                    obtain rfl : i = ws.length := Nat.le_antisymm hi (by simpa using hc)
                    have hall : path ws good wd ws.length 0 0 = l := by rw [hpath, Nat.sub_self]; simp [path]
                    refine W.exit (hK35 _ ?_)
                    refine W.pure (ds := []) rfl fun K41 hK41 => ?_
                    simp only [sx, ty, Bool.false_eq_true, Int.reduceEq, Int.reduceLT, Nat.reduceAdd, Nat.reduceSub, Nat.reduceMul, Nat.reduceLT, Nat.reduceLeDiff, Nat.reduceEqDiff, List.reduceReplicate, reduceIte, beq_self_eq_true, bne_self_eq_false, Int.reduceBEq, Int.reduceBNe, Bool.or_false, Bool.false_or, Bool.not_false, Bool.not_true, Int.reduceToNat, Nat.zero_mul, Nat.zero_add, Nat.one_mul, Nat.mul_one, Int.toNat_natCast, hw1, hw2]; with_reducible refine hK41 _ ?_; clear hK41
                    refine W.ret ?_
                    refine ⟨by simp, ⟨_, by simp, hM⟩, RunR.ex ?_⟩
                    simp only [sx, ty, Bool.false_eq_true, Int.reduceEq, Int.reduceLT, Nat.reduceAdd, Nat.reduceSub, Nat.reduceMul, Nat.reduceLT, Nat.reduceLeDiff, Nat.reduceEqDiff, List.reduceReplicate, reduceIte, sxr, beq_self_eq_true, bne_self_eq_false, Int.reduceBEq, Int.reduceBNe, Bool.or_false, Bool.false_or, Bool.not_false, Bool.not_true, Int.reduceToNat, Nat.zero_mul, Nat.zero_add, Nat.one_mul, Nat.mul_one, Int.toNat_natCast, hw1, hw2]
                    intro ρ w1 hb
                    rw [bestF_ok h0 h2 h3 h4, hall]
                    exact ⟨(p3, c3), rfl, own_slice (A := rPg) (k := 5) (xs := pgsV l) hb rfl rfl (fun b hb' => own_new hb (by simp) (k := 5) rfl hb') (pgs_read _)⟩
end Go.Proofs.Ytpggkomalbbofaa
