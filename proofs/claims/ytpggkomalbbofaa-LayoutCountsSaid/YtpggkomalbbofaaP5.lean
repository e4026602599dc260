/-
  Layout: pages that fit: walks.
-/
import Derived.Test.YtpggkomalbbofaaPlainC
set_option linter.unusedVariables false
set_option linter.unusedSimpArgs false
set_option maxHeartbeats 1000000
namespace Go.Proofs.Ytpggkomalbbofaa
open Go Go.SX Go.RowKit
/-- function 32 -/
theorem rfit_spec {S S2 : Nat → Prop} {w : World} {v u : Value} {ws : List Int} {l : List Pg} (hl : rInts.rd S w [v] ws) (hl2 : rPgs.rd S2 w [u] l) (width : Int) (hv : ws.all (within 1 100000) = true) (hn : ws.length ≤ 4000) (hp : pgGo ws.length 0 l = some ws.length) : Gives Try.prog 32 #[v, .int .i64 width, u] w fun r _ => r = .bool (fitF ws width l) := by
  obtain ⟨p, c, rfl, hc1, hc2⟩ := Rp.slice_val hl
  obtain ⟨p2, c2, rfl, hc3, hc4⟩ := Rp.slice_val hl2
  have hl : (Rp.slice rInt).rd (fun _ => True) w _ ws := Rp.any hl
  have hl2 : (Rp.slice rPg).rd (fun _ => True) w _ l := Rp.any hl2
  refine gives_of [.val (.slice p ws.length c), .val (.int .i64 width), .val (.slice p2 l.length c2)] 39 [.tmp 6] Try.func32 rfl rfl rfl (by simp) rfl rfl ?_
  refine W.pure (ds := []) rfl fun K1 hK1 => ?_
  simp only [sx, ty, Bool.false_eq_true, Int.reduceEq, Int.reduceLT, Nat.reduceAdd, Nat.reduceSub, Nat.reduceMul, Nat.reduceLT, Nat.reduceLeDiff, Nat.reduceEqDiff, List.reduceReplicate, reduceIte, beq_self_eq_true, bne_self_eq_false, Int.reduceBEq, Int.reduceBNe, Bool.or_false, Bool.false_or, Bool.not_false, Bool.not_true]; with_reducible refine hK1 _ ?_; clear hK1
  refine W.seqK fun K2 hK2 => ?_
  refine W.pure (ds := []) rfl fun K3 hK3 => ?_
  simp only [sx, ty, Bool.false_eq_true, Int.reduceEq, Int.reduceLT, Nat.reduceAdd, Nat.reduceSub, Nat.reduceMul, Nat.reduceLT, Nat.reduceLeDiff, Nat.reduceEqDiff, List.reduceReplicate, reduceIte, beq_self_eq_true, bne_self_eq_false, Int.reduceBEq, Int.reduceBNe, Bool.or_false, Bool.false_or, Bool.not_false, Bool.not_true]; with_reducible refine hK3 _ ?_; clear hK3
  refine W.block ?_
  refine W.loopK (X := Nat) [0, 1, 2] (fun x => [(7, .val (.int .i64 x))]) (fun x => x ≤ l.length ∧ ∀ j, j < x → ∀ q, l[j]? = some q → decide (segS ws q.1 q.2 ≤ width) = true) (fun x => l.length - x) 0 ?_ ?_ ?_
  · exact ⟨rfl, by simp [getE, bnd, keepE], ⟨[], by simp⟩, by simp [Own.bnd, bndL, bnd, boxO], by simp⟩
  · skip
    exact ⟨Nat.zero_le _, fun j h => by omega⟩
  · rintro i ⟨hi, hno⟩
    simp only [sx, ty, Bool.false_eq_true, Int.reduceEq, Int.reduceLT, Nat.reduceAdd, Nat.reduceSub, Nat.reduceMul, Nat.reduceLT, Nat.reduceLeDiff, Nat.reduceEqDiff, List.reduceReplicate, reduceIte, sxk, beq_self_eq_true, bne_self_eq_false, Int.reduceBEq, Int.reduceBNe, Bool.or_false, Bool.false_or, Bool.not_false, Bool.not_true]
    refine W.seqK fun K4 hK4 => ?_
    refine W.pure (ds := []) rfl fun K5 hK5 => ?_
    simp only [sx, ty, Bool.false_eq_true, Int.reduceEq, Int.reduceLT, Nat.reduceAdd, Nat.reduceSub, Nat.reduceMul, Nat.reduceLT, Nat.reduceLeDiff, Nat.reduceEqDiff, List.reduceReplicate, reduceIte, beq_self_eq_true, bne_self_eq_false, Int.reduceBEq, Int.reduceBNe, Bool.or_false, Bool.false_or, Bool.not_false, Bool.not_true]; with_reducible refine hK5 _ ?_; clear hK5
    refine W.cond rfl rfl (fun hc => ?_) (fun hc => ?_)
    · skip
      have hlt : i < l.length := by simpa using hc
      have hpa := paged_at hp hlt
      refine W.skip (hK4 _ ?_)
      refine W.seqK fun K6 hK6 => ?_
      refine W.block ?_
      refine W.pure (ds := []) rfl fun K7 hK7 => ?_
      simp only [sx, ty, Bool.false_eq_true, Int.reduceEq, Int.reduceLT, Nat.reduceAdd, Nat.reduceSub, Nat.reduceMul, Nat.reduceLT, Nat.reduceLeDiff, Nat.reduceEqDiff, List.reduceReplicate, reduceIte, beq_self_eq_true, bne_self_eq_false, Int.reduceBEq, Int.reduceBNe, Bool.or_false, Bool.false_or, Bool.not_false, Bool.not_true]; with_reducible refine hK7 _ ?_; clear hK7
      refine W.seqK fun K8 hK8 => ?_
      refine W.seqK fun K9 hK9 => W.region ?_
      refine WO.go 2 (ds := []) rfl ?_
      simp only [sx, ty, Bool.false_eq_true, Int.reduceEq, Int.reduceLT, Nat.reduceAdd, Nat.reduceSub, Nat.reduceMul, Nat.reduceLT, Nat.reduceLeDiff, Nat.reduceEqDiff, List.reduceReplicate, reduceIte, beq_self_eq_true, bne_self_eq_false, Int.reduceBEq, Int.reduceBNe, Bool.or_false, Bool.false_or, Bool.not_false, Bool.not_true]
      refine WO.elemF (y := l[i]) hl2 (by simp [St.put]) (ds := []) rfl rfl rfl (by simp [St.put]) (fun _ => rfl) rfl (by simp [St.put]) (fun _ _ => rfl) rfl rfl rfl rfl rfl rfl el24 fo36_0 agg3 sz3 (by decide) (.inr rfl) (by omega) (getIdx l hlt) fun p q ces hces => ?_
      obtain rfl := rPg_open hces
      clear hces
      refine WO.go 1 (ds := []) rfl ?_
      simp only [sx, ty, Bool.false_eq_true, Int.reduceEq, Int.reduceLT, Nat.reduceAdd, Nat.reduceSub, Nat.reduceMul, Nat.reduceLT, Nat.reduceLeDiff, Nat.reduceEqDiff, List.reduceReplicate, reduceIte, beq_self_eq_true, bne_self_eq_false, Int.reduceBEq, Int.reduceBNe, Bool.or_false, Bool.false_or, Bool.not_false, Bool.not_true]
      with_reducible refine WO.nil ?_
      refine hK9 _ ?_; clear hK9
      refine W.block ?_
      refine W.loopK (X := Nat) [0, 1, 2, 7] (fun x => [(8, .val (.int .i64 (preS ws x - preS ws l[i].1.toNat))), (9, .val (.int .i64 x))]) (fun x => l[i].1.toNat ≤ x ∧ (x : Int) ≤ l[i].2) (fun x => (l[i].2 - x).toNat) l[i].1.toNat ?_ ?_ ?_
      · exact ⟨rfl, by simp [getE, bnd, keepE, Int.toNat_of_nonneg hpa.1], ⟨[], by simp⟩, by simp [Own.bnd, bndL, bnd, boxO], by simp⟩
      · skip
        exact ⟨Nat.le_refl _, by omega⟩
      · rintro k ⟨hk1, hk2⟩
        simp only [sx, ty, Bool.false_eq_true, Int.reduceEq, Int.reduceLT, Nat.reduceAdd, Nat.reduceSub, Nat.reduceMul, Nat.reduceLT, Nat.reduceLeDiff, Nat.reduceEqDiff, List.reduceReplicate, reduceIte, sxk, beq_self_eq_true, bne_self_eq_false, Int.reduceBEq, Int.reduceBNe, Bool.or_false, Bool.false_or, Bool.not_false, Bool.not_true]
        refine W.seqK fun K10 hK10 => ?_
        refine W.seqK fun K11 hK11 => W.region ?_
        refine WO.go 3 (ds := []) rfl ?_
        simp only [sx, ty, Bool.false_eq_true, Int.reduceEq, Int.reduceLT, Nat.reduceAdd, Nat.reduceSub, Nat.reduceMul, Nat.reduceLT, Nat.reduceLeDiff, Nat.reduceEqDiff, List.reduceReplicate, reduceIte, beq_self_eq_true, bne_self_eq_false, Int.reduceBEq, Int.reduceBNe, Bool.or_false, Bool.false_or, Bool.not_false, Bool.not_true]
        refine WO.elemF (y := l[i]) hl2 (by simp [St.put]) (ds := []) rfl rfl rfl (by simp [St.put]) (fun _ => rfl) rfl (by simp [St.put]) (fun _ _ => rfl) rfl rfl rfl rfl rfl rfl el24 fo36_1 agg3 sz3 (by decide) (.inr rfl) (by omega) (getIdx l hlt) fun p q ces hces => ?_
        obtain rfl := rPg_open hces
        clear hces
        refine WO.go 1 (ds := []) rfl ?_
        simp only [sx, ty, Bool.false_eq_true, Int.reduceEq, Int.reduceLT, Nat.reduceAdd, Nat.reduceSub, Nat.reduceMul, Nat.reduceLT, Nat.reduceLeDiff, Nat.reduceEqDiff, List.reduceReplicate, reduceIte, beq_self_eq_true, bne_self_eq_false, Int.reduceBEq, Int.reduceBNe, Bool.or_false, Bool.false_or, Bool.not_false, Bool.not_true]
        with_reducible refine WO.nil ?_
        refine hK11 _ ?_; clear hK11
        refine W.cond rfl rfl (fun hc => ?_) (fun hc => ?_)
        · skip
          have hk3 : (k : Int) < l[i].2 := by simpa using hc
          have hkl : k < ws.length := by omega
          have hmm := preS_mono hv k hk1 (by omega)
          have hwk := width_at hv hkl
          have hpg := preS_get hkl
          refine W.skip (hK10 _ ?_)
          refine W.seqK fun K12 hK12 => ?_
          refine W.block ?_
          refine W.region ?_
          refine WO.go 3 (ds := []) rfl ?_
          simp only [sx, ty, Bool.false_eq_true, Int.reduceEq, Int.reduceLT, Nat.reduceAdd, Nat.reduceSub, Nat.reduceMul, Nat.reduceLT, Nat.reduceLeDiff, Nat.reduceEqDiff, List.reduceReplicate, reduceIte, beq_self_eq_true, bne_self_eq_false, Int.reduceBEq, Int.reduceBNe, Bool.or_false, Bool.false_or, Bool.not_false, Bool.not_true]
          refine WO.elem (y := ws[k]) hl (by simp [St.put]) (ds := []) rfl rfl rfl (by simp [St.put]) (fun _ => rfl) rfl rfl rfl rfl rfl el22 agg3 sz3 (.inr rfl) (by omega) (getIdx ws hkl) fun p ces hces => ?_
          obtain rfl := rInt_open hces
          clear hces
          refine WO.go 2 (ds := []) rfl ?_
          simp only [sx, ty, Bool.false_eq_true, Int.reduceEq, Int.reduceLT, Nat.reduceAdd, Nat.reduceSub, Nat.reduceMul, Nat.reduceLT, Nat.reduceLeDiff, Nat.reduceEqDiff, List.reduceReplicate, reduceIte, beq_self_eq_true, bne_self_eq_false, Int.reduceBEq, Int.reduceBNe, Bool.or_false, Bool.false_or, Bool.not_false, Bool.not_true]
          with_reducible refine WO.nil ?_
          refine hK12 _ ?_
          refine W.region ?_
          refine WO.go 3 (ds := []) rfl ?_
          simp only [sx, ty, Bool.false_eq_true, Int.reduceEq, Int.reduceLT, Nat.reduceAdd, Nat.reduceSub, Nat.reduceMul, Nat.reduceLT, Nat.reduceLeDiff, Nat.reduceEqDiff, List.reduceReplicate, reduceIte, beq_self_eq_true, bne_self_eq_false, Int.reduceBEq, Int.reduceBNe, Bool.or_false, Bool.false_or, Bool.not_false, Bool.not_true]
          with_reducible refine WO.nil ?_
          refine ⟨k + 1, ?_, by omega, rfl, by simp [getE, bnd, keepE, wrap_succ (show k + 1 ≤ 9223372036854775807 by omega), hpg, wrap_id (x := preS ws k - preS ws l[i].1.toNat + ws[k]) (by omega) (by omega), show preS ws k + ws[k] - preS ws l[i].1.toNat = preS ws k - preS ws l[i].1.toNat + ws[k] by omega], ⟨_, rfl⟩, by simp [Own.bnd, bndL, bnd, boxO], by simp⟩
          exact ⟨by omega, by omega⟩
        · skip
          have hk3 : (k : Int) = l[i].2 := by simp at hc; omega
          refine W.exit (hK8 _ ?_)
          refine W.pure (ds := []) rfl fun K13 hK13 => ?_
          simp only [sx, ty, Bool.false_eq_true, Int.reduceEq, Int.reduceLT, Nat.reduceAdd, Nat.reduceSub, Nat.reduceMul, Nat.reduceLT, Nat.reduceLeDiff, Nat.reduceEqDiff, List.reduceReplicate, reduceIte, beq_self_eq_true, bne_self_eq_false, Int.reduceBEq, Int.reduceBNe, Bool.or_false, Bool.false_or, Bool.not_false, Bool.not_true]; with_reducible refine hK13 _ ?_; clear hK13
          refine W.cond rfl rfl (fun hc => ?_) (fun hc => ?_)
          · skip
            have hbad : decide (segS ws l[i].1 l[i].2 ≤ width) = false := by unfold segS; rw [← hk3, Int.toNat_natCast]; simp at hc ⊢; omega
            refine W.pure (ds := []) rfl fun K14 hK14 => ?_
            simp only [sx, ty, Bool.false_eq_true, Int.reduceEq, Int.reduceLT, Nat.reduceAdd, Nat.reduceSub, Nat.reduceMul, Nat.reduceLT, Nat.reduceLeDiff, Nat.reduceEqDiff, List.reduceReplicate, reduceIte, beq_self_eq_true, bne_self_eq_false, Int.reduceBEq, Int.reduceBNe, Bool.or_false, Bool.false_or, Bool.not_false, Bool.not_true]; with_reducible refine hK14 _ ?_; clear hK14
            refine W.ret ⟨by simp, _, rfl, fun ρ w1 hb => ?_⟩
            simp only [den, fitF, all_false (p := fun p : Pg => decide (segS ws p.1 p.2 ≤ width)) (getIdx l hlt) hbad]
          · skip
            have hok : decide (segS ws l[i].1 l[i].2 ≤ width) = true := by unfold segS; rw [← hk3, Int.toNat_natCast]; simp at hc ⊢; omega
            refine W.skip (hK6 _ ?_)
            refine W.region ?_
            refine WO.go 3 (ds := []) rfl ?_
            simp only [sx, ty, Bool.false_eq_true, Int.reduceEq, Int.reduceLT, Nat.reduceAdd, Nat.reduceSub, Nat.reduceMul, Nat.reduceLT, Nat.reduceLeDiff, Nat.reduceEqDiff, List.reduceReplicate, reduceIte, beq_self_eq_true, bne_self_eq_false, Int.reduceBEq, Int.reduceBNe, Bool.or_false, Bool.false_or, Bool.not_false, Bool.not_true]
            with_reducible refine WO.nil ?_
            refine ⟨i + 1, ?_, by first | omega | (simp; omega), rfl, by simp [getE, bnd, keepE, wrap_succ (show i + 1 ≤ 9223372036854775807 by omega)], ⟨_, rfl⟩, by simp [Own.bnd, bndL, bnd, boxO], by simp⟩
            refine ⟨hlt, fun j hj y hy => ?_⟩
            rcases Nat.lt_succ_iff_lt_or_eq.1 hj with h | rfl
            · exact hno j h y hy
            · rw [getIdx l hlt] at hy; obtain rfl := Option.some.inj hy; exact hok
    · skip
      obtain rfl : i = l.length := Nat.le_antisymm hi (by simpa using hc)
      have hall : fitF ws width l = true := all_idx (Nat.le_refl _) hno
      refine W.exit (hK2 _ ?_)
      refine W.pure (ds := []) rfl fun K15 hK15 => ?_
      simp only [sx, ty, Bool.false_eq_true, Int.reduceEq, Int.reduceLT, Nat.reduceAdd, Nat.reduceSub, Nat.reduceMul, Nat.reduceLT, Nat.reduceLeDiff, Nat.reduceEqDiff, List.reduceReplicate, reduceIte, beq_self_eq_true, bne_self_eq_false, Int.reduceBEq, Int.reduceBNe, Bool.or_false, Bool.false_or, Bool.not_false, Bool.not_true]; with_reducible refine hK15 _ ?_; clear hK15
      refine W.ret ⟨by simp, _, rfl, fun ρ w1 hb => ?_⟩
      simp only [den, hall]
/-- function 17 -/
theorem rvalid_spec {S S2 : Nat → Prop} {w : World} {v u : Value} {ws : List Int} {l : List Pg} (hl : rInts.rd S w [v] ws) (hl2 : rPgs.rd S2 w [u] l) (width : Int) : Gives Try.prog 17 #[v, .int .i64 width, u] w fun r _ => r = .bool (validF ws width l) := by
  obtain ⟨p, c, rfl, hc1, hc2⟩ := Rp.slice_val hl
  obtain ⟨p2, c2, rfl, hc3, hc4⟩ := Rp.slice_val hl2
  have hl : (Rp.slice rInt).rd (fun _ => True) w _ ws := Rp.any hl
  have hl2 : (Rp.slice rPg).rd (fun _ => True) w _ l := Rp.any hl2
  refine gives_of [.val (.slice p ws.length c), .val (.int .i64 width), .val (.slice p2 l.length c2)] 30 [.tmp 6] Try.func17 rfl rfl rfl (by simp) rfl rfl ?_
  refine W.pure (ds := []) rfl fun K1 hK1 => ?_
  simp only [sx, ty, Bool.false_eq_true, Int.reduceEq, Int.reduceLT, Nat.reduceAdd, Nat.reduceSub, Nat.reduceMul, Nat.reduceLT, Nat.reduceLeDiff, Nat.reduceEqDiff, List.reduceReplicate, reduceIte, beq_self_eq_true, bne_self_eq_false, Int.reduceBEq, Int.reduceBNe, Bool.or_false, Bool.false_or, Bool.not_false, Bool.not_true]; with_reducible refine hK1 _ ?_; clear hK1
  refine W.seqK fun K2 hK2 => W.region ?_
  refine WO.go 1 (ds := []) rfl ?_
  simp only [sx, ty, Bool.false_eq_true, Int.reduceEq, Int.reduceLT, Nat.reduceAdd, Nat.reduceSub, Nat.reduceMul, Nat.reduceLT, Nat.reduceLeDiff, Nat.reduceEqDiff, List.reduceReplicate, reduceIte, beq_self_eq_true, bne_self_eq_false, Int.reduceBEq, Int.reduceBNe, Bool.or_false, Bool.false_or, Bool.not_false, Bool.not_true]
  refine WO.call (.bool (widthsF ws)) (ds := []) rfl rfl rfl rfl co24 (fun ρ w1 hb => widths_spec (Rp.now hl (hb.first (by simp)))) ?_
  refine WO.go 1 (ds := []) rfl ?_
  simp only [sx, ty, Bool.false_eq_true, Int.reduceEq, Int.reduceLT, Nat.reduceAdd, Nat.reduceSub, Nat.reduceMul, Nat.reduceLT, Nat.reduceLeDiff, Nat.reduceEqDiff, List.reduceReplicate, reduceIte, beq_self_eq_true, bne_self_eq_false, Int.reduceBEq, Int.reduceBNe, Bool.or_false, Bool.false_or, Bool.not_false, Bool.not_true]
  with_reducible refine WO.nil ?_
  refine hK2 _ ?_; clear hK2
  refine W.seqK fun K3 hK3 => W.region ?_
  refine WO.go 3 (ds := []) rfl ?_
  simp only [sx, ty, Bool.false_eq_true, Int.reduceEq, Int.reduceLT, Nat.reduceAdd, Nat.reduceSub, Nat.reduceMul, Nat.reduceLT, Nat.reduceLeDiff, Nat.reduceEqDiff, List.reduceReplicate, reduceIte, beq_self_eq_true, bne_self_eq_false, Int.reduceBEq, Int.reduceBNe, Bool.or_false, Bool.false_or, Bool.not_false, Bool.not_true]
  refine WO.call (.bool (pagedF l ws.length)) (ds := []) rfl rfl rfl rfl co28 (fun ρ w1 hb => rpages_spec (Rp.now hl2 (hb.first (by simp))) _) ?_
  refine WO.go 1 (ds := []) rfl ?_
  simp only [sx, ty, Bool.false_eq_true, Int.reduceEq, Int.reduceLT, Nat.reduceAdd, Nat.reduceSub, Nat.reduceMul, Nat.reduceLT, Nat.reduceLeDiff, Nat.reduceEqDiff, List.reduceReplicate, reduceIte, beq_self_eq_true, bne_self_eq_false, Int.reduceBEq, Int.reduceBNe, Bool.or_false, Bool.false_or, Bool.not_false, Bool.not_true]
  with_reducible refine WO.nil ?_
  refine hK3 _ ?_; clear hK3
  refine W.seqK fun K4 hK4 => ?_
  refine W.join 25 (.val (.bool (!(widthsF ws && (pagedF l ws.length && within 1 100000 width))))) [0, 1, 2] (W.region ?_) ?_
  · skip
    refine WO.go 3 (ds := [some 15, some 16, some 17, some 18, some 19, some 20, some 21, some 22, some 23, some 24, some 25]) rfl ?_
    simp only [sx, ty, Bool.false_eq_true, Int.reduceEq, Int.reduceLT, Nat.reduceAdd, Nat.reduceSub, Nat.reduceMul, Nat.reduceLT, Nat.reduceLeDiff, Nat.reduceEqDiff, List.reduceReplicate, reduceIte, beq_self_eq_true, bne_self_eq_false, Int.reduceBEq, Int.reduceBNe, Bool.or_false, Bool.false_or, Bool.not_false, Bool.not_true]
    refine WO.cases 17 _ rfl (fun hg17 => ?_) (fun hg17 => ?_)
    · skip
      refine WO.go 8 (ds := [some 15, some 16, some 17, some 18, some 19, some 20, some 21, some 22, some 23, some 24, some 25]) rfl ?_
      simp only [sx, ty, Bool.false_eq_true, Int.reduceEq, Int.reduceLT, Nat.reduceAdd, Nat.reduceSub, Nat.reduceMul, Nat.reduceLT, Nat.reduceLeDiff, Nat.reduceEqDiff, List.reduceReplicate, reduceIte, beq_self_eq_true, bne_self_eq_false, Int.reduceBEq, Int.reduceBNe, Bool.or_false, Bool.false_or, Bool.not_false, Bool.not_true]
      with_reducible refine WO.nil ?_
      refine ⟨rfl, ?_, ⟨_, rfl⟩, by simp [Own.bnd, bndL, bnd, boxO], by simp⟩
      try rw [hg17]
      try rw [hg21]
      simp [getE, bnd, keepE]
      try simp_all
    · skip
      refine WO.go 4 (ds := [some 15, some 16, some 17, some 18, some 19, some 20, some 21, some 22, some 23, some 24, some 25]) rfl ?_
      simp only [sx, ty, Bool.false_eq_true, Int.reduceEq, Int.reduceLT, Nat.reduceAdd, Nat.reduceSub, Nat.reduceMul, Nat.reduceLT, Nat.reduceLeDiff, Nat.reduceEqDiff, List.reduceReplicate, reduceIte, beq_self_eq_true, bne_self_eq_false, Int.reduceBEq, Int.reduceBNe, Bool.or_false, Bool.false_or, Bool.not_false, Bool.not_true]
      refine WO.cases 21 _ rfl (fun hg21 => ?_) (fun hg21 => ?_)
      · skip
        refine WO.go 4 (ds := [some 15, some 16, some 17, some 18, some 19, some 20, some 21, some 22, some 23, some 24, some 25]) rfl ?_
        simp only [sx, ty, Bool.false_eq_true, Int.reduceEq, Int.reduceLT, Nat.reduceAdd, Nat.reduceSub, Nat.reduceMul, Nat.reduceLT, Nat.reduceLeDiff, Nat.reduceEqDiff, List.reduceReplicate, reduceIte, beq_self_eq_true, bne_self_eq_false, Int.reduceBEq, Int.reduceBNe, Bool.or_false, Bool.false_or, Bool.not_false, Bool.not_true]
        with_reducible refine WO.nil ?_
        refine ⟨rfl, ?_, ⟨_, rfl⟩, by simp [Own.bnd, bndL, bnd, boxO], by simp⟩
        try rw [hg17]
        try rw [hg21]
        simp [getE, bnd, keepE]
        try simp_all
      · skip
        refine WO.go 1 (ds := [some 15, some 16, some 17, some 18, some 19, some 20, some 21, some 22, some 23, some 24, some 25]) rfl ?_
        simp only [sx, ty, Bool.false_eq_true, Int.reduceEq, Int.reduceLT, Nat.reduceAdd, Nat.reduceSub, Nat.reduceMul, Nat.reduceLT, Nat.reduceLeDiff, Nat.reduceEqDiff, List.reduceReplicate, reduceIte, beq_self_eq_true, bne_self_eq_false, Int.reduceBEq, Int.reduceBNe, Bool.or_false, Bool.false_or, Bool.not_false, Bool.not_true]
        refine WO.call (.bool (within 1 100000 width)) (ds := [some 15, some 16, some 17, some 18, some 19, some 20, some 21, some 22, some 23, some 24, some 25]) rfl rfl rfl rfl co25 (fun ρ w1 hb => in_spec w1 _ _ _) ?_
        refine WO.go 2 (ds := [some 15, some 16, some 17, some 18, some 19, some 20, some 21, some 22, some 23, some 24, some 25]) rfl ?_
        simp only [sx, ty, Bool.false_eq_true, Int.reduceEq, Int.reduceLT, Nat.reduceAdd, Nat.reduceSub, Nat.reduceMul, Nat.reduceLT, Nat.reduceLeDiff, Nat.reduceEqDiff, List.reduceReplicate, reduceIte, beq_self_eq_true, bne_self_eq_false, Int.reduceBEq, Int.reduceBNe, Bool.or_false, Bool.false_or, Bool.not_false, Bool.not_true]
        with_reducible refine WO.nil ?_
        refine ⟨rfl, ?_, ⟨_, rfl⟩, by simp [Own.bnd, bndL, bnd, boxO], by simp⟩
        try rw [hg17]
        try rw [hg21]
        simp [getE, bnd, keepE]
        try simp_all
  · simp only [sx, ty, Bool.false_eq_true, Int.reduceEq, Int.reduceLT, Nat.reduceAdd, Nat.reduceSub, Nat.reduceMul, Nat.reduceLT, Nat.reduceLeDiff, Nat.reduceEqDiff, List.reduceReplicate, reduceIte, sxk, beq_self_eq_true, bne_self_eq_false, Int.reduceBEq, Int.reduceBNe, Bool.or_false, Bool.false_or, Bool.not_false, Bool.not_true]
    refine W.cond rfl rfl (fun hc => ?_) (fun hc => ?_)
    · skip
      have hno : (widthsF ws && (pagedF l ws.length && within 1 100000 width)) = false := by simpa only [Bool.not_eq_true'] using hc
      refine W.pure (ds := []) rfl fun K6 hK6 => ?_
      simp only [sx, ty, Bool.false_eq_true, Int.reduceEq, Int.reduceLT, Nat.reduceAdd, Nat.reduceSub, Nat.reduceMul, Nat.reduceLT, Nat.reduceLeDiff, Nat.reduceEqDiff, List.reduceReplicate, reduceIte, beq_self_eq_true, bne_self_eq_false, Int.reduceBEq, Int.reduceBNe, Bool.or_false, Bool.false_or, Bool.not_false, Bool.not_true]; with_reducible refine hK6 _ ?_; clear hK6
      refine W.ret ⟨by simp, _, rfl, fun ρ w1 hb => ?_⟩
      simp only [den, validF, ← Bool.and_assoc] at hno ⊢
      rw [hno]; rfl
    · skip
      have hyes : (widthsF ws && (pagedF l ws.length && within 1 100000 width)) = true := by simpa only [Bool.not_eq_false'] using hc
      simp only [Bool.and_eq_true] at hyes
      have hww := hyes.1
      simp only [widthsF, Bool.and_eq_true, decide_eq_true_eq] at hww
      have hpg := (paged_iff.1 hyes.2.1).1
      refine W.skip (hK4 _ ?_)
      refine W.seqK fun K7 hK7 => W.region ?_
      refine WO.go 3 (ds := []) rfl ?_
      simp only [sx, ty, Bool.false_eq_true, Int.reduceEq, Int.reduceLT, Nat.reduceAdd, Nat.reduceSub, Nat.reduceMul, Nat.reduceLT, Nat.reduceLeDiff, Nat.reduceEqDiff, List.reduceReplicate, reduceIte, beq_self_eq_true, bne_self_eq_false, Int.reduceBEq, Int.reduceBNe, Bool.or_false, Bool.false_or, Bool.not_false, Bool.not_true]
      refine WO.call (.bool (fitF ws width l)) (ds := []) rfl rfl rfl rfl co32 (fun ρ w1 hb => rfit_spec (Rp.now hl (hb.first (by simp))) (Rp.now hl2 (hb.first (by simp))) width hww.1 hww.2 hpg) ?_
      refine WO.go 1 (ds := []) rfl ?_
      simp only [sx, ty, Bool.false_eq_true, Int.reduceEq, Int.reduceLT, Nat.reduceAdd, Nat.reduceSub, Nat.reduceMul, Nat.reduceLT, Nat.reduceLeDiff, Nat.reduceEqDiff, List.reduceReplicate, reduceIte, beq_self_eq_true, bne_self_eq_false, Int.reduceBEq, Int.reduceBNe, Bool.or_false, Bool.false_or, Bool.not_false, Bool.not_true]
      with_reducible refine WO.nil ?_
      refine hK7 _ ?_; clear hK7
      refine W.ret ⟨by simp, _, rfl, fun ρ w1 hb => ?_⟩
      simp only [den, validF, hyes.1, hyes.2.1, hyes.2.2, Bool.true_and]
/-- function 30 -/
theorem tooWide_spec {S : Nat → Prop} {w : World} {b1 b2 : Nat} {p0 : Option Addr} {c0 : Nat} {ws : List Int} {width : Int} (h1 : At w ⟨b1, 0, none⟩ [.slice p0 ws.length c0]) (hb1 : b1 < w.heap.size) (h2 : At w ⟨b2, 0, none⟩ [.int .i64 width]) (hb2 : b2 < w.heap.size) (hl : rInts.rd S w [.slice p0 ws.length c0] ws) (hv : ws.all (within 1 100000) = true) (hn : ws.length ≤ 4000) (x : Pg) (hx : 0 ≤ x.1 ∧ x.1 < x.2 ∧ x.2 ≤ ws.length) : Gives Try.prog 30 #[.agg #[.int .i64 x.1, .int .i64 x.2], .pointer (some ⟨b1, 0, none⟩), .pointer (some ⟨b2, 0, none⟩)] w fun r _ => r = .bool (!decide (segS ws x.1 x.2 ≤ width)) := by
  obtain ⟨_, _, he1, hc1, hc2⟩ := Rp.slice_val hl
  obtain ⟨rfl, _, rfl⟩ := (Value.slice.injEq _ _ _ _ _ _).mp he1
  have hl : (Rp.slice rInt).rd (fun _ => True) w _ ws := Rp.any hl
  obtain ⟨sub, hsub⟩ : ∃ sub, sub = (ws.drop x.1.toNat).take (x.2.toNat - x.1.toNat) := ⟨_, rfl⟩
  have hsl : sub.length = x.2.toNat - x.1.toNat := by rw [hsub, List.length_take, List.length_drop]; omega
  have hss : ∀ i, i ≤ sub.length → preS sub i = preS ws (x.1.toNat + i) - preS ws x.1.toNat := fun i hi => by rw [hsub]; exact segS_take (by omega) (by omega) i (by omega)
  have hsv : sub.all (within 1 100000) = true := by rw [hsub, List.all_eq_true] at *; exact fun y hy => hv y (List.mem_of_mem_drop (List.mem_of_mem_take hy))
  have hl2 : rInts.rd (fun _ => True) w [slcV rInt.sz p0 c0 x.1.toNat x.2.toNat] sub := by rw [hsub]; exact Rp.slc (l := x.1.toNat) (h := x.2.toNat) hl (by omega) (by omega)
  obtain ⟨p2, c2, he2, hc3, hc4⟩ := Rp.slice_val hl2
  rw [he2] at hl2
  refine gives_of [.agg [.val (.int .i64 x.1), .val (.int .i64 x.2)], .val (.pointer (some ⟨b1, 0, none⟩)), .val (.pointer (some ⟨b2, 0, none⟩))] 26 [.tmp 4] Try.func30 rfl rfl rfl (by simp) rfl rfl ?_
  refine W.pure (ds := []) rfl fun K1 hK1 => ?_
  simp only [sx, ty, Bool.false_eq_true, Int.reduceEq, Int.reduceLT, Nat.reduceAdd, Nat.reduceSub, Nat.reduceMul, Nat.reduceLT, Nat.reduceLeDiff, Nat.reduceEqDiff, List.reduceReplicate, reduceIte, beq_self_eq_true, bne_self_eq_false, Int.reduceBEq, Int.reduceBNe, Bool.or_false, Bool.false_or, Bool.not_false, Bool.not_true]; with_reducible refine hK1 _ ?_; clear hK1
  refine W.pure (ds := []) rfl fun K2 hK2 => ?_
  simp only [sx, ty, Bool.false_eq_true, Int.reduceEq, Int.reduceLT, Nat.reduceAdd, Nat.reduceSub, Nat.reduceMul, Nat.reduceLT, Nat.reduceLeDiff, Nat.reduceEqDiff, List.reduceReplicate, reduceIte, beq_self_eq_true, bne_self_eq_false, Int.reduceBEq, Int.reduceBNe, Bool.or_false, Bool.false_or, Bool.not_false, Bool.not_true]; with_reducible refine hK2 _ ?_; clear hK2
  refine W.seqK fun K3 hK3 => ?_
  refine W.seqK fun K4 hK4 => W.region ?_
  refine WO.load [.slice p0 ws.length c0] false (ds := []) rfl rfl rfl rfl rfl agg22 sz22 (.inr rfl) (fun ρ w1 hb9 => h1.frame ((hb9.first (by simp [St.put])).block _ trivial hb1)) ?_
  refine WO.go 4 (ds := []) rfl ?_
  simp only [sx, ty, Bool.false_eq_true, Int.reduceEq, Int.reduceLT, Nat.reduceAdd, Nat.reduceSub, Nat.reduceMul, Nat.reduceLT, Nat.reduceLeDiff, Nat.reduceEqDiff, List.reduceReplicate, reduceIte, beq_self_eq_true, bne_self_eq_false, Int.reduceBEq, Int.reduceBNe, Bool.or_false, Bool.false_or, Bool.not_false, Bool.not_true]
  refine WO.slc (ds := []) rfl rfl rfl rfl rfl el22 rfl rfl (by simp [loS]; omega) (by simp [loS, hiS]; omega) (by simp [hiS]; omega) ?_
  rw [show slcV 1 p0 c0 (loS (some (IntKind.i64, x.1))).toNat (hiS ws.length (some (IntKind.i64, x.2))).toNat = .slice p2 sub.length c2 from he2]
  refine WO.go 2 (ds := []) rfl ?_
  simp only [sx, ty, Bool.false_eq_true, Int.reduceEq, Int.reduceLT, Nat.reduceAdd, Nat.reduceSub, Nat.reduceMul, Nat.reduceLT, Nat.reduceLeDiff, Nat.reduceEqDiff, List.reduceReplicate, reduceIte, beq_self_eq_true, bne_self_eq_false, Int.reduceBEq, Int.reduceBNe, Bool.or_false, Bool.false_or, Bool.not_false, Bool.not_true]
  with_reducible refine WO.nil ?_
  refine hK4 _ ?_; clear hK4
  refine W.block ?_
  refine W.loopK (X := Nat) [2, 13, 14] (fun x9 => [(5, .val (.int .i64 (preS sub x9))), (15, .val (.int .i64 x9))]) (fun x9 => x9 ≤ sub.length) (fun x9 => sub.length - x9) 0 ?_ ?_ ?_
  · exact ⟨rfl, by simp [getE, bnd, keepE, preS], ⟨[], by simp⟩, by simp [Own.bnd, bndL, bnd, boxO], by simp⟩
  · skip
    exact Nat.zero_le _
  · rintro k hk
    simp only [sx, ty, Bool.false_eq_true, Int.reduceEq, Int.reduceLT, Nat.reduceAdd, Nat.reduceSub, Nat.reduceMul, Nat.reduceLT, Nat.reduceLeDiff, Nat.reduceEqDiff, List.reduceReplicate, reduceIte, sxk, beq_self_eq_true, bne_self_eq_false, Int.reduceBEq, Int.reduceBNe, Bool.or_false, Bool.false_or, Bool.not_false, Bool.not_true]
    refine W.pure (ds := []) rfl fun K5 hK5 => ?_
    simp only [sx, ty, Bool.false_eq_true, Int.reduceEq, Int.reduceLT, Nat.reduceAdd, Nat.reduceSub, Nat.reduceMul, Nat.reduceLT, Nat.reduceLeDiff, Nat.reduceEqDiff, List.reduceReplicate, reduceIte, beq_self_eq_true, bne_self_eq_false, Int.reduceBEq, Int.reduceBNe, Bool.or_false, Bool.false_or, Bool.not_false, Bool.not_true]; with_reducible refine hK5 _ ?_; clear hK5
    refine W.seqK fun K6 hK6 => ?_
    refine W.cond rfl rfl (fun hc => ?_) (fun hc => ?_)
    · skip
      have hlt : k < sub.length := by simpa using hc
      have hmm := preS_mono hsv k (Nat.zero_le k) hk
      have hwk := width_at hsv hlt
      have hpg := preS_get hlt
      have hz : preS sub 0 = 0 := rfl
      refine W.skip (hK6 _ ?_)
      refine W.seqK fun K7 hK7 => ?_
      refine W.block ?_
      refine W.seqK fun K8 hK8 => W.region ?_
      refine WO.elem (y := sub[k]) hl2 (by simp [St.put]) (ds := []) rfl rfl rfl (by simp [St.put]) (fun _ => rfl) rfl rfl rfl rfl rfl el22 agg3 sz3 (.inr rfl) (by omega) (getIdx sub hlt) fun p ces hces => ?_
      obtain rfl := rInt_open hces
      clear hces
      refine WO.go 1 (ds := []) rfl ?_
      simp only [sx, ty, Bool.false_eq_true, Int.reduceEq, Int.reduceLT, Nat.reduceAdd, Nat.reduceSub, Nat.reduceMul, Nat.reduceLT, Nat.reduceLeDiff, Nat.reduceEqDiff, List.reduceReplicate, reduceIte, beq_self_eq_true, bne_self_eq_false, Int.reduceBEq, Int.reduceBNe, Bool.or_false, Bool.false_or, Bool.not_false, Bool.not_true]
      with_reducible refine WO.nil ?_
      refine hK8 _ ?_; clear hK8
      refine W.region ?_
      refine WO.go 4 (ds := []) rfl ?_
      simp only [sx, ty, Bool.false_eq_true, Int.reduceEq, Int.reduceLT, Nat.reduceAdd, Nat.reduceSub, Nat.reduceMul, Nat.reduceLT, Nat.reduceLeDiff, Nat.reduceEqDiff, List.reduceReplicate, reduceIte, beq_self_eq_true, bne_self_eq_false, Int.reduceBEq, Int.reduceBNe, Bool.or_false, Bool.false_or, Bool.not_false, Bool.not_true]
      with_reducible refine WO.nil ?_
      refine hK7 _ ?_
      refine W.region ?_
      refine WO.go 2 (ds := []) rfl ?_
      simp only [sx, ty, Bool.false_eq_true, Int.reduceEq, Int.reduceLT, Nat.reduceAdd, Nat.reduceSub, Nat.reduceMul, Nat.reduceLT, Nat.reduceLeDiff, Nat.reduceEqDiff, List.reduceReplicate, reduceIte, beq_self_eq_true, bne_self_eq_false, Int.reduceBEq, Int.reduceBNe, Bool.or_false, Bool.false_or, Bool.not_false, Bool.not_true]
      with_reducible refine WO.nil ?_
      refine ⟨k + 1, ?_, by first | omega | (simp; omega), rfl, by simp [getE, bnd, keepE, wrap_succ (show k + 1 ≤ 9223372036854775807 by omega), hpg, wrap_id (x := preS sub k + sub[k]) (by omega) (by omega)], ⟨_, rfl⟩, by simp [Own.bnd, bndL, bnd, boxO], by simp⟩
      exact hlt
    · skip
      obtain rfl : k = sub.length := Nat.le_antisymm hk (by simpa using hc)
      refine W.exit (hK3 _ ?_)
      refine W.seqK fun K9 hK9 => W.region ?_
      refine WO.go 1 (ds := []) rfl ?_
      simp only [sx, ty, Bool.false_eq_true, Int.reduceEq, Int.reduceLT, Nat.reduceAdd, Nat.reduceSub, Nat.reduceMul, Nat.reduceLT, Nat.reduceLeDiff, Nat.reduceEqDiff, List.reduceReplicate, reduceIte, beq_self_eq_true, bne_self_eq_false, Int.reduceBEq, Int.reduceBNe, Bool.or_false, Bool.false_or, Bool.not_false, Bool.not_true]
      refine WO.load [.int .i64 width] false (ds := []) rfl rfl rfl rfl rfl agg3 sz3 (.inr rfl) (fun ρ w1 hb9 => h2.frame ((hb9.first (by simp [St.put])).block _ trivial hb2)) ?_
      refine WO.go 2 (ds := []) rfl ?_
      simp only [sx, ty, Bool.false_eq_true, Int.reduceEq, Int.reduceLT, Nat.reduceAdd, Nat.reduceSub, Nat.reduceMul, Nat.reduceLT, Nat.reduceLeDiff, Nat.reduceEqDiff, List.reduceReplicate, reduceIte, beq_self_eq_true, bne_self_eq_false, Int.reduceBEq, Int.reduceBNe, Bool.or_false, Bool.false_or, Bool.not_false, Bool.not_true]
      with_reducible refine WO.nil ?_
      refine hK9 _ ?_; clear hK9
      refine W.ret ⟨by simp, _, rfl, fun ρ w1 hb => ?_⟩
      have he : preS sub sub.length = segS ws x.1 x.2 := by rw [hss sub.length (Nat.le_refl _), show x.1.toNat + sub.length = x.2.toNat by omega]; rfl
      simp only [den, he, Value.bool.injEq]
      rw [Bool.eq_iff_iff]; simp
end Go.Proofs.Ytpggkomalbbofaa
