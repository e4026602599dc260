/-
  Layout: the best pages of the reference: the walk.
-/
import Derived.Test.YtpggkomalbbofaaPlainG
set_option linter.unusedVariables false
set_option linter.unusedSimpArgs false
set_option maxHeartbeats 2000000
namespace Go.Proofs.Ytpggkomalbbofaa
open Go Go.SX Go.RowKit
/-- function 12 -/
theorem rbest_spec {S S2 : Nat → Prop} {w : World} {v u : Value} {ws : List Int} {good : List Bool} (hl : rInts.rd S w [v] ws) (hl2 : rBools.rd S2 w [u] good) (wd : Int) : Gives Try.prog 12 #[v, u, .int .i64 wd] w fun r w' =>
    ∃ x : Option Addr × Nat, r = .tuple #[.slice x.1 (bestF ws good wd).1.length x.2, .int .i64 (bestF ws good wd).2] ∧ rPgs.rd (fun b => w.heap.size ≤ b) w' [.slice x.1 (bestF ws good wd).1.length x.2] (bestF ws good wd).1 := by
  obtain ⟨p, c, rfl, hc1, hc2⟩ := Rp.slice_val hl
  obtain ⟨p2, c2, rfl, hc3, hc4⟩ := Rp.slice_val hl2
  have hl : (Rp.slice rInt).rd (fun _ => True) w _ ws := Rp.any hl
  have hl2 : (Rp.slice Rp.bool).rd (fun _ => True) w _ good := Rp.any hl2
  refine gives_of [.val (.slice p ws.length c), .val (.slice p2 good.length c2), .val (.int .i64 wd)] 77 [.tmp 6, .tmp 7] Try.func12 rfl rfl rfl (by simp) rfl rfl ?_
  refine W.pure (ds := []) rfl fun K1 hK1 => ?_
  simp only [sx, ty, Bool.false_eq_true, Int.reduceEq, Int.reduceLT, Nat.reduceAdd, Nat.reduceSub, Nat.reduceMul, Nat.reduceLT, Nat.reduceLeDiff, Nat.reduceEqDiff, List.reduceReplicate, reduceIte, beq_self_eq_true, bne_self_eq_false, Int.reduceBEq, Int.reduceBNe, Bool.or_false, Bool.false_or, Bool.not_false, Bool.not_true, Int.reduceToNat, Nat.zero_mul, Nat.zero_add, Nat.one_mul, Nat.mul_one, Int.toNat_natCast]; with_reducible refine hK1 _ ?_; clear hK1
  refine W.seqK fun K2 hK2 => ?_
  refine W.pure (ds := []) rfl fun K3 hK3 => ?_
  simp only [sx, ty, Bool.false_eq_true, Int.reduceEq, Int.reduceLT, Nat.reduceAdd, Nat.reduceSub, Nat.reduceMul, Nat.reduceLT, Nat.reduceLeDiff, Nat.reduceEqDiff, List.reduceReplicate, reduceIte, beq_self_eq_true, bne_self_eq_false, Int.reduceBEq, Int.reduceBNe, Bool.or_false, Bool.false_or, Bool.not_false, Bool.not_true, Int.reduceToNat, Nat.zero_mul, Nat.zero_add, Nat.one_mul, Nat.mul_one, Int.toNat_natCast]; with_reducible refine hK3 _ ?_; clear hK3
  refine W.cond rfl rfl (fun hc => ?_) (fun hc => ?_)
  · skip
    have h0 : 4000 < ws.length := by simp at hc; omega
    refine W.pure (ds := []) rfl fun K4 hK4 => ?_
    simp only [sx, ty, Bool.false_eq_true, Int.reduceEq, Int.reduceLT, Nat.reduceAdd, Nat.reduceSub, Nat.reduceMul, Nat.reduceLT, Nat.reduceLeDiff, Nat.reduceEqDiff, List.reduceReplicate, reduceIte, beq_self_eq_true, bne_self_eq_false, Int.reduceBEq, Int.reduceBNe, Bool.or_false, Bool.false_or, Bool.not_false, Bool.not_true, Int.reduceToNat, Nat.zero_mul, Nat.zero_add, Nat.one_mul, Nat.mul_one, Int.toNat_natCast]; with_reducible refine hK4 _ ?_; clear hK4
    refine W.ret ⟨by simp, _, rfl, fun ρ w1 hb => ?_⟩
    rw [bestF_long h0]
    exact ⟨(none, 0), rfl, Rp.slice_nil (by omega)⟩
  · skip
    have h0 : ¬ 4000 < ws.length := by simp at hc; omega
    refine W.skip (hK2 _ ?_)
    refine W.seqK fun K5 hK5 => W.region ?_
    refine WO.go 1 (ds := []) rfl ?_
    simp only [sx, ty, Bool.false_eq_true, Int.reduceEq, Int.reduceLT, Nat.reduceAdd, Nat.reduceSub, Nat.reduceMul, Nat.reduceLT, Nat.reduceLeDiff, Nat.reduceEqDiff, List.reduceReplicate, reduceIte, beq_self_eq_true, bne_self_eq_false, Int.reduceBEq, Int.reduceBNe, Bool.or_false, Bool.false_or, Bool.not_false, Bool.not_true, Int.reduceToNat, Nat.zero_mul, Nat.zero_add, Nat.one_mul, Nat.mul_one, Int.toNat_natCast]
    refine WO.call (.bool (widthsF ws)) (ds := []) rfl rfl rfl rfl co24 (fun ρ w1 hb => widths_spec (Rp.now hl (hb.first (by simp)))) ?_
    refine WO.go 1 (ds := []) rfl ?_
    simp only [sx, ty, Bool.false_eq_true, Int.reduceEq, Int.reduceLT, Nat.reduceAdd, Nat.reduceSub, Nat.reduceMul, Nat.reduceLT, Nat.reduceLeDiff, Nat.reduceEqDiff, List.reduceReplicate, reduceIte, beq_self_eq_true, bne_self_eq_false, Int.reduceBEq, Int.reduceBNe, Bool.or_false, Bool.false_or, Bool.not_false, Bool.not_true, Int.reduceToNat, Nat.zero_mul, Nat.zero_add, Nat.one_mul, Nat.mul_one, Int.toNat_natCast]
    with_reducible refine WO.nil ?_
    refine hK5 _ ?_; clear hK5
    refine W.seqK fun K6 hK6 => ?_
    refine W.join 33 (.val (.bool (!(widthsF ws && (decide (good.length = ws.length) && within 1 100000 wd))))) [0, 1, 2] (W.region ?_) ?_
    · skip
      refine WO.go 3 (ds := [some 20, some 21, some 22, some 23, some 24, some 25, some 26, some 27, some 28, some 29, some 30, some 31, some 32, some 33]) rfl ?_
      simp only [sx, ty, Bool.false_eq_true, Int.reduceEq, Int.reduceLT, Nat.reduceAdd, Nat.reduceSub, Nat.reduceMul, Nat.reduceLT, Nat.reduceLeDiff, Nat.reduceEqDiff, List.reduceReplicate, reduceIte, beq_self_eq_true, bne_self_eq_false, Int.reduceBEq, Int.reduceBNe, Bool.or_false, Bool.false_or, Bool.not_false, Bool.not_true, Int.reduceToNat, Nat.zero_mul, Nat.zero_add, Nat.one_mul, Nat.mul_one, Int.toNat_natCast]
      refine WO.cases 22 _ rfl (fun hg22 => ?_) (fun hg22 => ?_)
      · skip
        refine WO.go 11 (ds := [some 20, some 21, some 22, some 23, some 24, some 25, some 26, some 27, some 28, some 29, some 30, some 31, some 32, some 33]) rfl ?_
        simp only [sx, ty, Bool.false_eq_true, Int.reduceEq, Int.reduceLT, Nat.reduceAdd, Nat.reduceSub, Nat.reduceMul, Nat.reduceLT, Nat.reduceLeDiff, Nat.reduceEqDiff, List.reduceReplicate, reduceIte, beq_self_eq_true, bne_self_eq_false, Int.reduceBEq, Int.reduceBNe, Bool.or_false, Bool.false_or, Bool.not_false, Bool.not_true, Int.reduceToNat, Nat.zero_mul, Nat.zero_add, Nat.one_mul, Nat.mul_one, Int.toNat_natCast]
        with_reducible refine WO.nil ?_
        refine ⟨rfl, ?_, ⟨_, rfl⟩, by simp [Own.bnd, bndL, bnd, boxO], by simp⟩
        try rw [hg22]
        try rw [hg29]
        simp [getE, bnd, keepE]
        try simp_all
        try (rw [Bool.eq_iff_iff]; simp; done)
        try (rw [Bool.eq_iff_iff]; simp; omega)
      · skip
        refine WO.go 7 (ds := [some 20, some 21, some 22, some 23, some 24, some 25, some 26, some 27, some 28, some 29, some 30, some 31, some 32, some 33]) rfl ?_
        simp only [sx, ty, Bool.false_eq_true, Int.reduceEq, Int.reduceLT, Nat.reduceAdd, Nat.reduceSub, Nat.reduceMul, Nat.reduceLT, Nat.reduceLeDiff, Nat.reduceEqDiff, List.reduceReplicate, reduceIte, beq_self_eq_true, bne_self_eq_false, Int.reduceBEq, Int.reduceBNe, Bool.or_false, Bool.false_or, Bool.not_false, Bool.not_true, Int.reduceToNat, Nat.zero_mul, Nat.zero_add, Nat.one_mul, Nat.mul_one, Int.toNat_natCast]
        refine WO.cases 29 _ rfl (fun hg29 => ?_) (fun hg29 => ?_)
        · skip
          refine WO.go 4 (ds := [some 20, some 21, some 22, some 23, some 24, some 25, some 26, some 27, some 28, some 29, some 30, some 31, some 32, some 33]) rfl ?_
          simp only [sx, ty, Bool.false_eq_true, Int.reduceEq, Int.reduceLT, Nat.reduceAdd, Nat.reduceSub, Nat.reduceMul, Nat.reduceLT, Nat.reduceLeDiff, Nat.reduceEqDiff, List.reduceReplicate, reduceIte, beq_self_eq_true, bne_self_eq_false, Int.reduceBEq, Int.reduceBNe, Bool.or_false, Bool.false_or, Bool.not_false, Bool.not_true, Int.reduceToNat, Nat.zero_mul, Nat.zero_add, Nat.one_mul, Nat.mul_one, Int.toNat_natCast]
          with_reducible refine WO.nil ?_
          refine ⟨rfl, ?_, ⟨_, rfl⟩, by simp [Own.bnd, bndL, bnd, boxO], by simp⟩
          try rw [hg22]
          try rw [hg29]
          simp [getE, bnd, keepE]
          try simp_all
          try (rw [Bool.eq_iff_iff]; simp; done)
          try (rw [Bool.eq_iff_iff]; simp; omega)
        · skip
          refine WO.go 1 (ds := [some 20, some 21, some 22, some 23, some 24, some 25, some 26, some 27, some 28, some 29, some 30, some 31, some 32, some 33]) rfl ?_
          simp only [sx, ty, Bool.false_eq_true, Int.reduceEq, Int.reduceLT, Nat.reduceAdd, Nat.reduceSub, Nat.reduceMul, Nat.reduceLT, Nat.reduceLeDiff, Nat.reduceEqDiff, List.reduceReplicate, reduceIte, beq_self_eq_true, bne_self_eq_false, Int.reduceBEq, Int.reduceBNe, Bool.or_false, Bool.false_or, Bool.not_false, Bool.not_true, Int.reduceToNat, Nat.zero_mul, Nat.zero_add, Nat.one_mul, Nat.mul_one, Int.toNat_natCast]
          refine WO.call (.bool (within 1 100000 wd)) (ds := [some 20, some 21, some 22, some 23, some 24, some 25, some 26, some 27, some 28, some 29, some 30, some 31, some 32, some 33]) rfl rfl rfl rfl co25 (fun ρ w1 hb => in_spec w1 _ _ _) ?_
          refine WO.go 2 (ds := [some 20, some 21, some 22, some 23, some 24, some 25, some 26, some 27, some 28, some 29, some 30, some 31, some 32, some 33]) rfl ?_
          simp only [sx, ty, Bool.false_eq_true, Int.reduceEq, Int.reduceLT, Nat.reduceAdd, Nat.reduceSub, Nat.reduceMul, Nat.reduceLT, Nat.reduceLeDiff, Nat.reduceEqDiff, List.reduceReplicate, reduceIte, beq_self_eq_true, bne_self_eq_false, Int.reduceBEq, Int.reduceBNe, Bool.or_false, Bool.false_or, Bool.not_false, Bool.not_true, Int.reduceToNat, Nat.zero_mul, Nat.zero_add, Nat.one_mul, Nat.mul_one, Int.toNat_natCast]
          with_reducible refine WO.nil ?_
          refine ⟨rfl, ?_, ⟨_, rfl⟩, by simp [Own.bnd, bndL, bnd, boxO], by simp⟩
          try rw [hg22]
          try rw [hg29]
          simp [getE, bnd, keepE]
          try simp_all
          try (rw [Bool.eq_iff_iff]; simp; done)
          try (rw [Bool.eq_iff_iff]; simp; omega)
    · simp only [sx, ty, Bool.false_eq_true, Int.reduceEq, Int.reduceLT, Nat.reduceAdd, Nat.reduceSub, Nat.reduceMul, Nat.reduceLT, Nat.reduceLeDiff, Nat.reduceEqDiff, List.reduceReplicate, reduceIte, sxk, beq_self_eq_true, bne_self_eq_false, Int.reduceBEq, Int.reduceBNe, Bool.or_false, Bool.false_or, Bool.not_false, Bool.not_true, Int.reduceToNat, Nat.zero_mul, Nat.zero_add, Nat.one_mul, Nat.mul_one, Int.toNat_natCast]
      refine W.cond rfl rfl (fun hc => ?_) (fun hc => ?_)
      · skip
        have h2 : (good.length ≠ ws.length ∨ within 1 100000 wd = false ∨ widthsF ws = false) := by
          simp only [Bool.not_eq_true', Bool.and_eq_false_iff, decide_eq_false_iff_not] at hc
          rcases hc with h | h | h
          · exact .inr (.inr h)
          · exact .inl h
          · exact .inr (.inl h)
        refine W.pure (ds := []) rfl fun K8 hK8 => ?_
        simp only [sx, ty, Bool.false_eq_true, Int.reduceEq, Int.reduceLT, Nat.reduceAdd, Nat.reduceSub, Nat.reduceMul, Nat.reduceLT, Nat.reduceLeDiff, Nat.reduceEqDiff, List.reduceReplicate, reduceIte, beq_self_eq_true, bne_self_eq_false, Int.reduceBEq, Int.reduceBNe, Bool.or_false, Bool.false_or, Bool.not_false, Bool.not_true, Int.reduceToNat, Nat.zero_mul, Nat.zero_add, Nat.one_mul, Nat.mul_one, Int.toNat_natCast]; with_reducible refine hK8 _ ?_; clear hK8
        refine W.ret ⟨by simp, _, rfl, fun ρ w1 hb => ?_⟩
        rw [bestF_bad h0 h2]
        exact ⟨(none, 0), rfl, Rp.slice_nil (by omega)⟩
      · skip
        have h2 : ¬ (good.length ≠ ws.length ∨ within 1 100000 wd = false ∨ widthsF ws = false) := by
          simp only [Bool.not_eq_false', Bool.and_eq_true, decide_eq_true_eq] at hc
          rintro (h | h | h)
          · exact h hc.2.1
          · rw [h] at hc; exact absurd hc.2.2 (by decide)
          · rw [h] at hc; exact absurd hc.1 (by decide)
        obtain ⟨hg, hWr, hv, hn⟩ := best_args h2
        refine W.skip (hK6 _ ?_)
        refine W.seqK fun K9 hK9 => ?_
        refine W.pure (ds := []) rfl fun K10 hK10 => ?_
        simp only [sx, ty, Bool.false_eq_true, Int.reduceEq, Int.reduceLT, Nat.reduceAdd, Nat.reduceSub, Nat.reduceMul, Nat.reduceLT, Nat.reduceLeDiff, Nat.reduceEqDiff, List.reduceReplicate, reduceIte, beq_self_eq_true, bne_self_eq_false, Int.reduceBEq, Int.reduceBNe, Bool.or_false, Bool.false_or, Bool.not_false, Bool.not_true, Int.reduceToNat, Nat.zero_mul, Nat.zero_add, Nat.one_mul, Nat.mul_one, Int.toNat_natCast]; with_reducible refine hK10 _ ?_; clear hK10
        refine W.block ?_
        refine W.loopK (X := Nat) [0, 1, 2] (fun x => [(9, .val (.int .i64 x))]) (fun x => x ≤ ws.length ∧ ∀ j, j < x → ∀ q, ws[j]? = some q → decide (q ≤ wd) = true) (fun x => ws.length - x) 0 ?_ ?_ ?_
        · exact ⟨rfl, by simp [getE, bnd, keepE], ⟨[], by simp⟩, by simp [Own.bnd, bndL, bnd, boxO], by simp⟩
        · skip
          exact ⟨Nat.zero_le _, fun j h => by omega⟩
        · rintro i ⟨hi, hno⟩
          simp only [sx, ty, Bool.false_eq_true, Int.reduceEq, Int.reduceLT, Nat.reduceAdd, Nat.reduceSub, Nat.reduceMul, Nat.reduceLT, Nat.reduceLeDiff, Nat.reduceEqDiff, List.reduceReplicate, reduceIte, sxk, beq_self_eq_true, bne_self_eq_false, Int.reduceBEq, Int.reduceBNe, Bool.or_false, Bool.false_or, Bool.not_false, Bool.not_true, Int.reduceToNat, Nat.zero_mul, Nat.zero_add, Nat.one_mul, Nat.mul_one, Int.toNat_natCast]
          refine W.seqK fun K11 hK11 => ?_
          refine W.pure (ds := []) rfl fun K12 hK12 => ?_
          simp only [sx, ty, Bool.false_eq_true, Int.reduceEq, Int.reduceLT, Nat.reduceAdd, Nat.reduceSub, Nat.reduceMul, Nat.reduceLT, Nat.reduceLeDiff, Nat.reduceEqDiff, List.reduceReplicate, reduceIte, beq_self_eq_true, bne_self_eq_false, Int.reduceBEq, Int.reduceBNe, Bool.or_false, Bool.false_or, Bool.not_false, Bool.not_true, Int.reduceToNat, Nat.zero_mul, Nat.zero_add, Nat.one_mul, Nat.mul_one, Int.toNat_natCast]; with_reducible refine hK12 _ ?_; clear hK12
          refine W.cond rfl rfl (fun hc => ?_) (fun hc => ?_)
          · skip
            have hlt : i < ws.length := by simpa using hc
            refine W.skip (hK11 _ ?_)
            refine W.seqK fun K13 hK13 => ?_
            refine W.block ?_
            refine W.seqK fun K14 hK14 => W.region ?_
            refine WO.go 2 (ds := []) rfl ?_
            simp only [sx, ty, Bool.false_eq_true, Int.reduceEq, Int.reduceLT, Nat.reduceAdd, Nat.reduceSub, Nat.reduceMul, Nat.reduceLT, Nat.reduceLeDiff, Nat.reduceEqDiff, List.reduceReplicate, reduceIte, beq_self_eq_true, bne_self_eq_false, Int.reduceBEq, Int.reduceBNe, Bool.or_false, Bool.false_or, Bool.not_false, Bool.not_true, Int.reduceToNat, Nat.zero_mul, Nat.zero_add, Nat.one_mul, Nat.mul_one, Int.toNat_natCast]
            refine WO.elem (y := ws[i]) hl (by simp [St.put]) (ds := []) rfl rfl rfl (by simp [St.put]) (fun _ => rfl) rfl rfl rfl rfl rfl el22 agg3 sz3 (.inr rfl) (by omega) (getIdx ws hlt) fun p ces hces => ?_
            obtain rfl := rInt_open hces
            clear hces
            refine WO.go 2 (ds := []) rfl ?_
            simp only [sx, ty, Bool.false_eq_true, Int.reduceEq, Int.reduceLT, Nat.reduceAdd, Nat.reduceSub, Nat.reduceMul, Nat.reduceLT, Nat.reduceLeDiff, Nat.reduceEqDiff, List.reduceReplicate, reduceIte, beq_self_eq_true, bne_self_eq_false, Int.reduceBEq, Int.reduceBNe, Bool.or_false, Bool.false_or, Bool.not_false, Bool.not_true, Int.reduceToNat, Nat.zero_mul, Nat.zero_add, Nat.one_mul, Nat.mul_one, Int.toNat_natCast]
            with_reducible refine WO.nil ?_
            refine hK14 _ ?_; clear hK14
            refine W.cond rfl rfl (fun hc => ?_) (fun hc => ?_)
            · skip
              have h3 : (ws.any fun x => decide (wd < x)) = true := by
                rw [List.any_eq_true]; exact ⟨ws[i], List.getElem_mem hlt, by simpa using hc⟩
              refine W.pure (ds := []) rfl fun K15 hK15 => ?_
              simp only [sx, ty, Bool.false_eq_true, Int.reduceEq, Int.reduceLT, Nat.reduceAdd, Nat.reduceSub, Nat.reduceMul, Nat.reduceLT, Nat.reduceLeDiff, Nat.reduceEqDiff, List.reduceReplicate, reduceIte, beq_self_eq_true, bne_self_eq_false, Int.reduceBEq, Int.reduceBNe, Bool.or_false, Bool.false_or, Bool.not_false, Bool.not_true, Int.reduceToNat, Nat.zero_mul, Nat.zero_add, Nat.one_mul, Nat.mul_one, Int.toNat_natCast]; with_reducible refine hK15 _ ?_; clear hK15
              refine W.ret ⟨by simp, _, rfl, fun ρ w1 hb => ?_⟩
              rw [bestF_range h0 h2 h3]
              exact ⟨(none, 0), rfl, Rp.slice_nil (by omega)⟩
            · skip
              have hok : decide (ws[i] ≤ wd) = true := by simpa using hc
              refine W.skip (hK13 _ ?_)
              refine W.region ?_
              refine WO.go 3 (ds := []) rfl ?_
              simp only [sx, ty, Bool.false_eq_true, Int.reduceEq, Int.reduceLT, Nat.reduceAdd, Nat.reduceSub, Nat.reduceMul, Nat.reduceLT, Nat.reduceLeDiff, Nat.reduceEqDiff, List.reduceReplicate, reduceIte, beq_self_eq_true, bne_self_eq_false, Int.reduceBEq, Int.reduceBNe, Bool.or_false, Bool.false_or, Bool.not_false, Bool.not_true, Int.reduceToNat, Nat.zero_mul, Nat.zero_add, Nat.one_mul, Nat.mul_one, Int.toNat_natCast]
              with_reducible refine WO.nil ?_
              refine ⟨i + 1, ?_, by first | omega | (simp; omega), rfl, by simp [getE, bnd, keepE, wrap_succ (show i + 1 ≤ 9223372036854775807 by omega)], ⟨_, rfl⟩, by simp [Own.bnd, bndL, bnd, boxO], by simp⟩
              refine ⟨hlt, fun j hj y hy => ?_⟩
              rcases Nat.lt_succ_iff_lt_or_eq.1 hj with h | rfl
              · exact hno j h y hy
              · rw [getIdx ws hlt] at hy; obtain rfl := Option.some.inj hy; exact hok
          · skip
            obtain rfl : i = ws.length := Nat.le_antisymm hi (by simpa using hc)
            have hall : ws.all (fun q => decide (q ≤ wd)) = true := all_idx (Nat.le_refl _) hno
            have hW : ∀ x, x ∈ ws → x ≤ wd := fun x hx => by simpa using List.all_eq_true.1 hall x hx
            have h3 : ¬ (ws.any fun x => decide (wd < x)) = true := by
              rw [Bool.not_eq_true, List.any_eq_false]; intro x hx; have := hW x hx; simp; omega
            refine W.exit (hK9 _ ?_)
            refine W.seqK fun K16 hK16 => W.region ?_
            refine WO.go 3 (ds := []) rfl ?_
            simp only [sx, ty, Bool.false_eq_true, Int.reduceEq, Int.reduceLT, Nat.reduceAdd, Nat.reduceSub, Nat.reduceMul, Nat.reduceLT, Nat.reduceLeDiff, Nat.reduceEqDiff, List.reduceReplicate, reduceIte, beq_self_eq_true, bne_self_eq_false, Int.reduceBEq, Int.reduceBNe, Bool.or_false, Bool.false_or, Bool.not_false, Bool.not_true, Int.reduceToNat, Nat.zero_mul, Nat.zero_add, Nat.one_mul, Nat.mul_one, Int.toNat_natCast]
            refine WO.callM (fun x : Nat × Nat => .agg #[.slice (some ⟨x.1, 0, none⟩) (ws.length + 1) (ws.length + 1), .slice (some ⟨x.2, 0, none⟩) (ws.length + 1) (ws.length + 1)]) (fun lo x s9 => rCells.rd (fun b => lo ≤ b) s9 [.slice (some ⟨x.1, 0, none⟩) (ws.length + 1) (ws.length + 1)] (tabL ws good wd 0) ∧ rCells.rd (fun b => lo ≤ b) s9 [.slice (some ⟨x.2, 0, none⟩) (ws.length + 1) (ws.length + 1)] (tabL ws good wd 1)) (ds := []) rfl rfl rfl rfl co26 (fun ρ w1 hb => table_spec (Rp.now hl (hb.first (by simp))) (Rp.now hl2 (hb.first (by simp))) wd hg hv hn hWr hW) fun x lo s9 hT => ?_
            obtain ⟨x0, x1⟩ := x
            obtain ⟨bs, rfl, rfl⟩ : ∃ bs : Nat → Nat, bs 0 = x0 ∧ bs 1 = x1 := ⟨fun r => if r = 0 then x0 else x1, rfl, rfl⟩
            obtain ⟨hT0, hT1⟩ := hT
            obtain ⟨hpa, hpb, hpc⟩ := path_ok (good := good) hv hW ws.length 0 0 (by omega) (by omega)
            refine WO.go 2 (ds := []) rfl ?_
            simp only [sx, ty, Bool.false_eq_true, Int.reduceEq, Int.reduceLT, Nat.reduceAdd, Nat.reduceSub, Nat.reduceMul, Nat.reduceLT, Nat.reduceLeDiff, Nat.reduceEqDiff, List.reduceReplicate, reduceIte, beq_self_eq_true, bne_self_eq_false, Int.reduceBEq, Int.reduceBNe, Bool.or_false, Bool.false_or, Bool.not_false, Bool.not_true, Int.reduceToNat, Nat.zero_mul, Nat.zero_add, Nat.one_mul, Nat.mul_one, Int.toNat_natCast]
            with_reducible refine WO.nil ?_
            refine hK16 _ ?_; clear hK16
            refine W.seqK fun K17 hK17 => ?_
            refine W.seqK fun K18 hK18 => W.region ?_
            refine WO.q (ds := []) rfl rfl rfl (QR.arr rfl rfl rfl ar54 (by omega) (by omega)) ?_
            refine WO.q (ds := []) rfl rfl rfl (QR.cell (k := 0) (T := 54) (cs := [.val (.slice (some ⟨(bs 0), 0, none⟩) (ws.length + 1) (ws.length + 1)), .val (.slice (some ⟨(bs 1), 0, none⟩) (ws.length + 1) (ws.length + 1))]) (s := .val (.slice (some ⟨(bs 0), 0, none⟩) (ws.length + 1) (ws.length + 1))) rfl rfl rfl (by first | rfl | (rcases hs01 with rfl | rfl <;> rfl)) agg53 sz53) ?_
            simp only [sx, ty, Bool.false_eq_true, Int.reduceEq, Int.reduceLT, Nat.reduceAdd, Nat.reduceSub, Nat.reduceMul, Nat.reduceLT, Nat.reduceLeDiff, Nat.reduceEqDiff, List.reduceReplicate, reduceIte, beq_self_eq_true, bne_self_eq_false, Int.reduceBEq, Int.reduceBNe, Bool.or_false, Bool.false_or, Bool.not_false, Bool.not_true, Int.reduceToNat, Nat.zero_mul, Nat.zero_add, Nat.one_mul, Nat.mul_one, Int.toNat_natCast]
            refine WO.elemF (y := cell ws good wd 0 0) hT0 (by simp [St.put]) (ds := []) rfl rfl rfl (by simp [St.put]) (fun _ => rfl) rfl (by simp [St.put]) (fun _ _ => rfl) rfl rfl rfl rfl rfl rfl el53 fo57_1 agg3 sz3 (by decide) (.inr rfl) (by omega) (tabL_get ws good wd (Nat.zero_le _)) fun p q ces hces => ?_
            obtain rfl := rCell_open hces
            clear hces
            simp only [List.drop_succ_cons, List.drop_zero, List.take_succ_cons, List.take_zero, ofCells, Bool.false_eq_true, if_false, List.headD_cons]
            refine WO.go 1 (ds := []) rfl ?_
            simp only [sx, ty, Bool.false_eq_true, Int.reduceEq, Int.reduceLT, Nat.reduceAdd, Nat.reduceSub, Nat.reduceMul, Nat.reduceLT, Nat.reduceLeDiff, Nat.reduceEqDiff, List.reduceReplicate, reduceIte, beq_self_eq_true, bne_self_eq_false, Int.reduceBEq, Int.reduceBNe, Bool.or_false, Bool.false_or, Bool.not_false, Bool.not_true, Int.reduceToNat, Nat.zero_mul, Nat.zero_add, Nat.one_mul, Nat.mul_one, Int.toNat_natCast]
            with_reducible refine WO.nil ?_
            refine hK18 _ ?_; clear hK18
            refine W.cond rfl rfl (fun hc => ?_) (fun hc => ?_)
            · skip
              have h4 : 1000 < (cell ws good wd 0 0).2.1 := by simpa using hc
              refine W.pure (ds := []) rfl fun K19 hK19 => ?_
              simp only [sx, ty, Bool.false_eq_true, Int.reduceEq, Int.reduceLT, Nat.reduceAdd, Nat.reduceSub, Nat.reduceMul, Nat.reduceLT, Nat.reduceLeDiff, Nat.reduceEqDiff, List.reduceReplicate, reduceIte, beq_self_eq_true, bne_self_eq_false, Int.reduceBEq, Int.reduceBNe, Bool.or_false, Bool.false_or, Bool.not_false, Bool.not_true, Int.reduceToNat, Nat.zero_mul, Nat.zero_add, Nat.one_mul, Nat.mul_one, Int.toNat_natCast]; with_reducible refine hK19 _ ?_; clear hK19
              refine W.ret ⟨by simp, _, rfl, fun ρ w1 hb => ?_⟩
              rw [bestF_many h0 h2 h3 h4]
              exact ⟨(none, 0), rfl, Rp.slice_nil (by omega)⟩
            · skip
              have h4 : ¬ 1000 < (cell ws good wd 0 0).2.1 := by simpa using hc
              refine W.skip (hK17 _ ?_)
              refine W.pure (ds := []) rfl fun K20 hK20 => ?_
              simp only [sx, ty, Bool.false_eq_true, Int.reduceEq, Int.reduceLT, Nat.reduceAdd, Nat.reduceSub, Nat.reduceMul, Nat.reduceLT, Nat.reduceLeDiff, Nat.reduceEqDiff, List.reduceReplicate, reduceIte, beq_self_eq_true, bne_self_eq_false, Int.reduceBEq, Int.reduceBNe, Bool.or_false, Bool.false_or, Bool.not_false, Bool.not_true, Int.reduceToNat, Nat.zero_mul, Nat.zero_add, Nat.one_mul, Nat.mul_one, Int.toNat_natCast]; with_reducible refine hK20 _ ?_; clear hK20
              refine W.pure (ds := []) rfl fun K21 hK21 => ?_
              simp only [sx, ty, Bool.false_eq_true, Int.reduceEq, Int.reduceLT, Nat.reduceAdd, Nat.reduceSub, Nat.reduceMul, Nat.reduceLT, Nat.reduceLeDiff, Nat.reduceEqDiff, List.reduceReplicate, reduceIte, beq_self_eq_true, bne_self_eq_false, Int.reduceBEq, Int.reduceBNe, Bool.or_false, Bool.false_or, Bool.not_false, Bool.not_true, Int.reduceToNat, Nat.zero_mul, Nat.zero_add, Nat.one_mul, Nat.mul_one, Int.toNat_natCast]; with_reducible refine hK21 _ ?_; clear hK21
              refine W.seqK fun K22 hK22 => ?_
              refine W.pure (ds := []) rfl fun K23 hK23 => ?_
              simp only [sx, ty, Bool.false_eq_true, Int.reduceEq, Int.reduceLT, Nat.reduceAdd, Nat.reduceSub, Nat.reduceMul, Nat.reduceLT, Nat.reduceLeDiff, Nat.reduceEqDiff, List.reduceReplicate, reduceIte, beq_self_eq_true, bne_self_eq_false, Int.reduceBEq, Int.reduceBNe, Bool.or_false, Bool.false_or, Bool.not_false, Bool.not_true, Int.reduceToNat, Nat.zero_mul, Nat.zero_add, Nat.one_mul, Nat.mul_one, Int.toNat_natCast]; with_reducible refine hK23 _ ?_; clear hK23
              refine W.block ?_
              refine W.ownNil 36 2 ?_
              simp only [sx, ty, Bool.false_eq_true, Int.reduceEq, Int.reduceLT, Nat.reduceAdd, Nat.reduceSub, Nat.reduceMul, Nat.reduceLT, Nat.reduceLeDiff, Nat.reduceEqDiff, List.reduceReplicate, reduceIte]
              refine W.loopO (X := List Pg × Nat × Nat × Option Addr × Nat) [0, 10] (fun x => [(11, .val (.slice x.2.2.2.1 x.1.length x.2.2.2.2)), (12, .val (.int .i64 x.2.2.1)), (13, .val (.int .i64 x.2.1))]) (fun x => [.cells 54 [.val (.slice (some ⟨(bs 0), 0, none⟩) (ws.length + 1) (ws.length + 1)), .val (.slice (some ⟨(bs 1), 0, none⟩) (ws.length + 1) (ws.length + 1))], .slice 36 2 (.slice x.2.2.2.1 x.1.length x.2.2.2.2) x.1.length (pgsV x.1)]) (fun x => [((fun b => lo ≤ b), s9), ((fun _ => True), w)]) (fun x => x.2.1 ≤ ws.length ∧ x.2.2.1 < 2 ∧ path ws good wd ws.length 0 0 = x.1 ++ path ws good wd (ws.length - x.2.1) x.2.1 x.2.2.1) (fun x => ws.length - x.2.1) ([], 0, 0, none, 0) ?_ ?_ ?_
              · exact ⟨rfl, by simp [getE, bnd, keepE], ⟨[], by simp [pgsV]⟩, by simp [Own.bnd, bndL, bnd, boxO], by simp⟩
              · skip
                exact ⟨Nat.zero_le _, by show 0 < 2; omega, rfl⟩
              · rintro ⟨l, i, s, p3, c3⟩ ⟨hi, hs, hpath⟩
                simp only at hi hs hpath
                simp only [sx, ty, Bool.false_eq_true, Int.reduceEq, Int.reduceLT, Nat.reduceAdd, Nat.reduceSub, Nat.reduceMul, Nat.reduceLT, Nat.reduceLeDiff, Nat.reduceEqDiff, List.reduceReplicate, reduceIte, sxk, beq_self_eq_true, bne_self_eq_false, Int.reduceBEq, Int.reduceBNe, Bool.or_false, Bool.false_or, Bool.not_false, Bool.not_true, Int.reduceToNat, Nat.zero_mul, Nat.zero_add, Nat.one_mul, Nat.mul_one, Int.toNat_natCast]
                refine W.seqK fun K24 hK24 => ?_
                refine W.pure (ds := []) rfl fun K25 hK25 => ?_
                simp only [sx, ty, Bool.false_eq_true, Int.reduceEq, Int.reduceLT, Nat.reduceAdd, Nat.reduceSub, Nat.reduceMul, Nat.reduceLT, Nat.reduceLeDiff, Nat.reduceEqDiff, List.reduceReplicate, reduceIte, beq_self_eq_true, bne_self_eq_false, Int.reduceBEq, Int.reduceBNe, Bool.or_false, Bool.false_or, Bool.not_false, Bool.not_true, Int.reduceToNat, Nat.zero_mul, Nat.zero_add, Nat.one_mul, Nat.mul_one, Int.toNat_natCast]; with_reducible refine hK25 _ ?_; clear hK25
                refine W.cond rfl rfl (fun hc => ?_) (fun hc => ?_)
                · skip
                  have hlt : i < ws.length := by simpa using hc
                  have hs01 : s = 0 ∨ s = 1 := by omega
                  have hw3 : IntKind.i64.wrap (1 - (s : Int)) = ((1 - s : Nat) : Int) := by rw [wrap_id (by omega) (by omega)]; omega
                  have hTs : rCells.rd (fun b => lo ≤ b) s9 [.slice (some ⟨(bs s), 0, none⟩) (ws.length + 1) (ws.length + 1)] (tabL ws good wd s) := by rcases hs01 with rfl | rfl; exact hT0; exact hT1
                  obtain ⟨u, hu1, hu2, hu3, hu4⟩ := path_step ws good wd hv hW s hlt
                  have hlen : l.length ≤ 1000 := by rw [hpath, List.length_append] at hpc; omega
                  refine W.skip (hK24 _ ?_)
                  refine W.block ?_
                  refine W.seqK fun K26 hK26 => W.region ?_
                  refine WO.go 1 (ds := []) rfl ?_
                  simp only [sx, ty, Bool.false_eq_true, Int.reduceEq, Int.reduceLT, Nat.reduceAdd, Nat.reduceSub, Nat.reduceMul, Nat.reduceLT, Nat.reduceLeDiff, Nat.reduceEqDiff, List.reduceReplicate, reduceIte, beq_self_eq_true, bne_self_eq_false, Int.reduceBEq, Int.reduceBNe, Bool.or_false, Bool.false_or, Bool.not_false, Bool.not_true, Int.reduceToNat, Nat.zero_mul, Nat.zero_add, Nat.one_mul, Nat.mul_one, Int.toNat_natCast, hw3]
                  refine WO.q (ds := []) rfl rfl rfl (QR.arr rfl rfl rfl ar54 (by omega) (by omega)) ?_
                  refine WO.q (ds := []) rfl rfl rfl (QR.cell (k := 0) (T := 54) (cs := [.val (.slice (some ⟨(bs 0), 0, none⟩) (ws.length + 1) (ws.length + 1)), .val (.slice (some ⟨(bs 1), 0, none⟩) (ws.length + 1) (ws.length + 1))]) (s := .val (.slice (some ⟨(bs s), 0, none⟩) (ws.length + 1) (ws.length + 1))) rfl rfl rfl (by first | rfl | (rcases hs01 with rfl | rfl <;> rfl)) agg53 sz53) ?_
                  refine WO.go 1 (ds := []) rfl ?_
                  simp only [sx, ty, Bool.false_eq_true, Int.reduceEq, Int.reduceLT, Nat.reduceAdd, Nat.reduceSub, Nat.reduceMul, Nat.reduceLT, Nat.reduceLeDiff, Nat.reduceEqDiff, List.reduceReplicate, reduceIte, beq_self_eq_true, bne_self_eq_false, Int.reduceBEq, Int.reduceBNe, Bool.or_false, Bool.false_or, Bool.not_false, Bool.not_true, Int.reduceToNat, Nat.zero_mul, Nat.zero_add, Nat.one_mul, Nat.mul_one, Int.toNat_natCast, hw3]
                  refine WO.elemF (y := cell ws good wd i s) hTs (by simp [St.put]) (ds := []) rfl rfl rfl (by simp [St.put]) (fun _ => rfl) rfl (by simp [St.put]) (fun _ _ => rfl) rfl rfl rfl rfl rfl rfl el53 fo57_2 agg3 sz3 (by decide) (.inr rfl) (by omega) (tabL_get ws good wd hi) fun p q ces hces => ?_
                  obtain rfl := rCell_open hces
                  clear hces
                  simp only [List.drop_succ_cons, List.drop_zero, List.take_succ_cons, List.take_zero, ofCells, Bool.false_eq_true, if_false, List.headD_cons]
                  simp only [hu3]
                  refine WO.go 1 (ds := []) rfl ?_
                  simp only [sx, ty, Bool.false_eq_true, Int.reduceEq, Int.reduceLT, Nat.reduceAdd, Nat.reduceSub, Nat.reduceMul, Nat.reduceLT, Nat.reduceLeDiff, Nat.reduceEqDiff, List.reduceReplicate, reduceIte, beq_self_eq_true, bne_self_eq_false, Int.reduceBEq, Int.reduceBNe, Bool.or_false, Bool.false_or, Bool.not_false, Bool.not_true, Int.reduceToNat, Nat.zero_mul, Nat.zero_add, Nat.one_mul, Nat.mul_one, Int.toNat_natCast, hw3]
                  with_reducible refine WO.nil ?_
                  refine hK26 _ ?_; clear hK26
                  refine W.seqK fun K27 hK27 => W.region ?_
                  refine WO.go 5 (ds := []) rfl ?_
                  simp only [sx, ty, Bool.false_eq_true, Int.reduceEq, Int.reduceLT, Nat.reduceAdd, Nat.reduceSub, Nat.reduceMul, Nat.reduceLT, Nat.reduceLeDiff, Nat.reduceEqDiff, List.reduceReplicate, reduceIte, beq_self_eq_true, bne_self_eq_false, Int.reduceBEq, Int.reduceBNe, Bool.or_false, Bool.false_or, Bool.not_false, Bool.not_true, Int.reduceToNat, Nat.zero_mul, Nat.zero_add, Nat.one_mul, Nat.mul_one, Int.toNat_natCast, hw3]
                  refine WO.append (k := 1) (m := 1) [.int .i64 i, .int .i64 u] (ds := []) rfl rfl rfl rfl rfl rfl rfl ek24 (news_own (k2 := 2) rfl fun _ => rfl) rfl (by simp [Value.oneCell']) (by rw [maxLen_eq]; omega) (by omega) fun p6 c6 => ?_
                  refine WO.go 1 (ds := []) rfl ?_
                  simp only [sx, ty, Bool.false_eq_true, Int.reduceEq, Int.reduceLT, Nat.reduceAdd, Nat.reduceSub, Nat.reduceMul, Nat.reduceLT, Nat.reduceLeDiff, Nat.reduceEqDiff, List.reduceReplicate, reduceIte, beq_self_eq_true, bne_self_eq_false, Int.reduceBEq, Int.reduceBNe, Bool.or_false, Bool.false_or, Bool.not_false, Bool.not_true, Int.reduceToNat, Nat.zero_mul, Nat.zero_add, Nat.one_mul, Nat.mul_one, Int.toNat_natCast, hw3]
                  with_reducible refine WO.nil ?_
                  refine hK27 _ ?_; clear hK27
                  refine W.pure (ds := []) rfl fun K28 hK28 => ?_
                  simp only [sx, ty, Bool.false_eq_true, Int.reduceEq, Int.reduceLT, Nat.reduceAdd, Nat.reduceSub, Nat.reduceMul, Nat.reduceLT, Nat.reduceLeDiff, Nat.reduceEqDiff, List.reduceReplicate, reduceIte, beq_self_eq_true, bne_self_eq_false, Int.reduceBEq, Int.reduceBNe, Bool.or_false, Bool.false_or, Bool.not_false, Bool.not_true, Int.reduceToNat, Nat.zero_mul, Nat.zero_add, Nat.one_mul, Nat.mul_one, Int.toNat_natCast, hw3]; with_reducible refine hK28 _ ?_; clear hK28
                  refine W.region ?_
                  refine WO.go 3 (ds := []) rfl ?_
                  simp only [sx, ty, Bool.false_eq_true, Int.reduceEq, Int.reduceLT, Nat.reduceAdd, Nat.reduceSub, Nat.reduceMul, Nat.reduceLT, Nat.reduceLeDiff, Nat.reduceEqDiff, List.reduceReplicate, reduceIte, beq_self_eq_true, bne_self_eq_false, Int.reduceBEq, Int.reduceBNe, Bool.or_false, Bool.false_or, Bool.not_false, Bool.not_true, Int.reduceToNat, Nat.zero_mul, Nat.zero_add, Nat.one_mul, Nat.mul_one, Int.toNat_natCast, hw3]
                  with_reducible refine WO.nil ?_
                  refine ⟨(l ++ [((i : Int), (u : Int))], u, 1 - s, p6, c6), ⟨hu2, by show 1 - s < 2; omega, ?_⟩, by simp only; omega, rfl, by simp [getE, bnd, keepE], ⟨_, by simp only [pgsV_app, List.length_append]; rfl⟩, by simp [Own.bnd, bndL, bnd], by simp⟩
                  simp only
                  rw [hpath, hu4, List.append_assoc]; rfl
                · skip
                  obtain rfl : i = ws.length := Nat.le_antisymm hi (by simpa using hc)
                  have hall : path ws good wd ws.length 0 0 = l := by rw [hpath, Nat.sub_self]; simp [path]
                  refine W.exit (hK22 _ ?_)
                  refine W.pure (ds := []) rfl fun K29 hK29 => ?_
                  simp only [sx, ty, Bool.false_eq_true, Int.reduceEq, Int.reduceLT, Nat.reduceAdd, Nat.reduceSub, Nat.reduceMul, Nat.reduceLT, Nat.reduceLeDiff, Nat.reduceEqDiff, List.reduceReplicate, reduceIte, beq_self_eq_true, bne_self_eq_false, Int.reduceBEq, Int.reduceBNe, Bool.or_false, Bool.false_or, Bool.not_false, Bool.not_true, Int.reduceToNat, Nat.zero_mul, Nat.zero_add, Nat.one_mul, Nat.mul_one, Int.toNat_natCast]; with_reducible refine hK29 _ ?_; clear hK29
                  refine W.ret ⟨by simp, _, rfl, fun ρ w1 hb => ?_⟩
                  rw [bestF_ok h0 h2 h3 h4, hall]
                  exact ⟨(p3, c3), rfl, own_slice (A := rPg) (k := 1) (xs := pgsV l) hb rfl rfl (fun b hb' => own_new hb (by simp) (k := 1) rfl hb') (pgs_read _)⟩
end Go.Proofs.Ytpggkomalbbofaa
