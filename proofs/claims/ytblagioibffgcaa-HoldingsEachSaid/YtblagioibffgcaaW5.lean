/-
  Holdings: what the reference of the chapter computes on lists: walks.
-/
import Derived.Test.YtblagioibffgcaaW4
set_option linter.unusedVariables false
set_option linter.unusedSimpArgs false
set_option maxHeartbeats 1000000
namespace Go.Proofs.Ytblagioibffgcaa
open Go Go.SX Go.RowKit

/-- a key of an element stands before it -/
theorem nodup_not {α : Type} (f : α → Int) (l : List α) {j i : Nat} (hj : j < i) (hi : i < l.length) (h : f (l[j]'(by omega)) = f l[i]) : decide (l.map f).Nodup = false := by
  rw [decide_eq_false_iff_not]
  intro hn
  have := (List.pairwise_iff_getElem.1 (List.nodup_iff_pairwise_ne.1 hn)) j i (by simp; omega) (by simpa using hi) hj
  simp only [List.getElem_map] at this
  exact this h
theorem nodup_take {α : Type} (f : α → Int) (l : List α) {i : Nat} (hi : i < l.length) (h : ((l.take i).map f).Nodup) (hno : ∀ (j : Nat) (hj : j < l.length), j < i → f l[j] ≠ f l[i]) : ((l.take (i + 1)).map f).Nodup := by
  rw [take_map_snoc f l (getIdx l hi)]
  refine (nodup_snoc _ _).2 ⟨h, fun hm => ?_⟩
  obtain ⟨x, hx, he⟩ := List.mem_map.1 hm
  obtain ⟨j, hj, rfl⟩ := List.getElem_of_mem hx
  simp only [List.length_take] at hj
  rw [List.getElem_take] at he
  exact hno j (by omega) (by omega) he
theorem all_take {α : Type} (f : α → Bool) (l : List α) {i : Nat} (hi : i < l.length) (h : (l.take i).all f = true) (hx : f l[i] = true) : (l.take (i + 1)).all f = true := by
  rw [List.take_succ_eq_append_getElem hi, List.all_append, h]
  simpa using hx
theorem all_not {α : Type} (f : α → Bool) (l : List α) {i : Nat} (hi : i < l.length) (hx : f l[i] = false) : l.all f = false := by
  rw [List.all_eq_false]
  exact ⟨l[i], List.getElem_mem hi, by simp [hx]⟩
/-- function 22 -/
theorem rcost_spec {S S2 : Nat → Prop} {w : World} {ces cec : List Value} {d : Dem} {c : Cop} (hd : rDem.rd S w ces d) (hc : rCop.rd S2 w cec c) (hall : Int) (hle : d.2.2.2.length ≤ 1000) : Gives Try.prog 22 #[.agg ces.toArray, .agg cec.toArray, .int .i64 hall] w fun r _ => r = .int .i64 (costF d c hall) := by
  obtain ⟨p, cp, rfl, hel, hlen⟩ := rDem_open hd
  obtain rfl := rCop_open hc
  have hib := idxOf_small d.2.2.2 c.2.2.1 1000 (by omega)
  have hib0 := (idxOf_le d.2.2.2 c.2.2.1 hlen).1
  refine gives_of [.agg [.val (.int .i64 d.1), .val (.int .i64 d.2.1), .val (.int .i64 d.2.2.1), .val (.slice p d.2.2.2.length cp)], .agg [.val (.int .i64 c.1), .val (.int .i64 c.2.1), .val (.int .i64 c.2.2.1), .val (.int .i64 c.2.2.2)], .val (.int .i64 hall)] 31 [.tmp 6] Try.func22 rfl rfl rfl (by simp) rfl rfl ?_
  refine W.pure (ds := []) rfl fun K1 hK1 => ?_
  simp only [sx, ty, Bool.false_eq_true, Int.reduceEq, Int.reduceLT, Nat.reduceAdd, Nat.reduceSub, Nat.reduceMul, Nat.reduceLT, Nat.reduceLeDiff, Nat.reduceEqDiff, List.reduceReplicate, reduceIte]; with_reducible refine hK1 _ ?_; clear hK1
  refine W.seqK fun K2 hK2 => W.region ?_
  refine WO.go 4 (ds := []) rfl ?_
  simp only [sx, ty, Bool.false_eq_true, Int.reduceEq, Int.reduceLT, Nat.reduceAdd, Nat.reduceSub, Nat.reduceMul, Nat.reduceLT, Nat.reduceLeDiff, Nat.reduceEqDiff, List.reduceReplicate, reduceIte]
  refine WO.call (.int .i64 (idxOf d.2.2.2 c.2.2.1)) (ds := []) rfl rfl rfl rfl co17 (fun ρ w1 hb => rindex_spec (Rp.now hel (hb.first (by simp))) _) ?_
  refine WO.go 1 (ds := []) rfl ?_
  simp only [sx, ty, Bool.false_eq_true, Int.reduceEq, Int.reduceLT, Nat.reduceAdd, Nat.reduceSub, Nat.reduceMul, Nat.reduceLT, Nat.reduceLeDiff, Nat.reduceEqDiff, List.reduceReplicate, reduceIte]
  with_reducible refine WO.nil ?_
  refine hK2 _ ?_; clear hK2
  refine W.seqK fun K3 hK3 => ?_
  refine W.join 21 (.val (.bool ((d.2.1 != c.2.1) || decide (idxOf d.2.2.2 c.2.2.1 < 0)))) [2, 4, 7] (W.region ?_) ?_
  · skip
    refine WO.go 6 (ds := [some 13, some 14, some 15, some 16, some 17, some 18, some 19, some 20, some 21]) rfl ?_
    simp only [sx, ty, Bool.false_eq_true, Int.reduceEq, Int.reduceLT, Nat.reduceAdd, Nat.reduceSub, Nat.reduceMul, Nat.reduceLT, Nat.reduceLeDiff, Nat.reduceEqDiff, List.reduceReplicate, reduceIte]
    refine WO.cases 18 _ rfl (fun hg18 => ?_) (fun hg18 => ?_)
    · skip
      refine WO.go 3 (ds := [some 13, some 14, some 15, some 16, some 17, some 18, some 19, some 20, some 21]) rfl ?_
      simp only [sx, ty, Bool.false_eq_true, Int.reduceEq, Int.reduceLT, Nat.reduceAdd, Nat.reduceSub, Nat.reduceMul, Nat.reduceLT, Nat.reduceLeDiff, Nat.reduceEqDiff, List.reduceReplicate, reduceIte]
      with_reducible refine WO.nil ?_
      refine ⟨rfl, ?_, ⟨_, rfl⟩, by simp [Own.bnd, bndL, bnd, boxO], by simp⟩
      try rw [hg18]
      simp [getE, bnd, keepE]
    · skip
      refine WO.go 3 (ds := [some 13, some 14, some 15, some 16, some 17, some 18, some 19, some 20, some 21]) rfl ?_
      simp only [sx, ty, Bool.false_eq_true, Int.reduceEq, Int.reduceLT, Nat.reduceAdd, Nat.reduceSub, Nat.reduceMul, Nat.reduceLT, Nat.reduceLeDiff, Nat.reduceEqDiff, List.reduceReplicate, reduceIte]
      with_reducible refine WO.nil ?_
      refine ⟨rfl, ?_, ⟨_, rfl⟩, by simp [Own.bnd, bndL, bnd, boxO], by simp⟩
      try rw [hg18]
      simp [getE, bnd, keepE]
  · simp only [sx, ty, Bool.false_eq_true, Int.reduceEq, Int.reduceLT, Nat.reduceAdd, Nat.reduceSub, Nat.reduceMul, Nat.reduceLT, Nat.reduceLeDiff, Nat.reduceEqDiff, List.reduceReplicate, reduceIte, sxk]
    refine W.cond rfl rfl (fun hc => ?_) (fun hc => ?_)
    · skip
      have h1 : d.2.1 ≠ c.2.1 ∨ idxOf d.2.2.2 c.2.2.1 < 0 := by simpa using hc
      refine W.pure (ds := []) rfl fun K5 hK5 => ?_
      simp only [sx, ty, Bool.false_eq_true, Int.reduceEq, Int.reduceLT, Nat.reduceAdd, Nat.reduceSub, Nat.reduceMul, Nat.reduceLT, Nat.reduceLeDiff, Nat.reduceEqDiff, List.reduceReplicate, reduceIte]; with_reducible refine hK5 _ ?_; clear hK5
      refine W.ret ⟨by simp, _, rfl, fun ρ w1 hb => ?_⟩
      simp only [den, costF, if_pos h1]
    · skip
      have h1 : ¬ (d.2.1 ≠ c.2.1 ∨ idxOf d.2.2.2 c.2.2.1 < 0) := by simpa using hc
      refine W.skip (hK3 _ ?_)
      refine W.seqK fun K6 hK6 => ?_
      refine W.pure (ds := []) rfl fun K7 hK7 => ?_
      simp only [sx, ty, Bool.false_eq_true, Int.reduceEq, Int.reduceLT, Nat.reduceAdd, Nat.reduceSub, Nat.reduceMul, Nat.reduceLT, Nat.reduceLeDiff, Nat.reduceEqDiff, List.reduceReplicate, reduceIte]; with_reducible refine hK7 _ ?_; clear hK7
      refine W.cond rfl rfl (fun hc => ?_) (fun hc => ?_)
      · skip
        have h2 : ¬ c.2.2.2 = hall := by simpa using hc
        refine W.pure (ds := []) rfl fun K8 hK8 => ?_
        simp only [sx, ty, Bool.false_eq_true, Int.reduceEq, Int.reduceLT, Nat.reduceAdd, Nat.reduceSub, Nat.reduceMul, Nat.reduceLT, Nat.reduceLeDiff, Nat.reduceEqDiff, List.reduceReplicate, reduceIte]; with_reducible refine hK8 _ ?_; clear hK8
        refine W.ret ⟨by simp, _, rfl, fun ρ w1 hb => ?_⟩
        simp only [den, costF, if_neg h1, if_neg h2]
        rw [wrap_id (show -9223372036854775808 ≤ 10 * idxOf d.2.2.2 c.2.2.1 by omega) (by omega), wrap_id (by omega) (by omega)]
      · skip
        have h2 : c.2.2.2 = hall := by simpa using hc
        refine W.skip (hK6 _ ?_)
        refine W.pure (ds := []) rfl fun K9 hK9 => ?_
        simp only [sx, ty, Bool.false_eq_true, Int.reduceEq, Int.reduceLT, Nat.reduceAdd, Nat.reduceSub, Nat.reduceMul, Nat.reduceLT, Nat.reduceLeDiff, Nat.reduceEqDiff, List.reduceReplicate, reduceIte]; with_reducible refine hK9 _ ?_; clear hK9
        refine W.ret ⟨by simp, _, rfl, fun ρ w1 hb => ?_⟩
        simp only [den, costF, if_neg h1, if_pos h2]
        rw [wrap_id (show -9223372036854775808 ≤ 10 * idxOf d.2.2.2 c.2.2.1 by omega) (by omega)]
/-- function 29 -/
theorem rdemands_spec {S : Nat → Prop} {w : World} {v : Value} {ds : List Dem} (hl : rDems.rd S w [v] ds) : Gives Try.prog 29 #[v] w fun r _ => r = .bool (validDs ds) := by
  obtain ⟨p, c, rfl, hc1, hc2⟩ := Rp.slice_val hl
  have hl : (Rp.slice rDem).rd (fun _ => True) w _ ds := Rp.any hl
  refine gives_of [.val (.slice p ds.length c)] 38 [.tmp 2] Try.func29 rfl rfl rfl (by simp) rfl rfl ?_
  refine W.pure (ds := []) rfl fun K1 hK1 => ?_
  simp only [sx, ty, Bool.false_eq_true, Int.reduceEq, Int.reduceLT, Nat.reduceAdd, Nat.reduceSub, Nat.reduceMul, Nat.reduceLT, Nat.reduceLeDiff, Nat.reduceEqDiff, List.reduceReplicate, reduceIte]; with_reducible refine hK1 _ ?_; clear hK1
  refine W.seqK fun K2 hK2 => ?_
  refine W.pure (ds := []) rfl fun K3 hK3 => ?_
  simp only [sx, ty, Bool.false_eq_true, Int.reduceEq, Int.reduceLT, Nat.reduceAdd, Nat.reduceSub, Nat.reduceMul, Nat.reduceLT, Nat.reduceLeDiff, Nat.reduceEqDiff, List.reduceReplicate, reduceIte]; with_reducible refine hK3 _ ?_; clear hK3
  refine W.cond rfl rfl (fun hc => ?_) (fun hc => ?_)
  · skip
    have h0 : decide (ds.length ≤ 200) = false := by simp at hc ⊢; omega
    refine W.pure (ds := []) rfl fun K4 hK4 => ?_
    simp only [sx, ty, Bool.false_eq_true, Int.reduceEq, Int.reduceLT, Nat.reduceAdd, Nat.reduceSub, Nat.reduceMul, Nat.reduceLT, Nat.reduceLeDiff, Nat.reduceEqDiff, List.reduceReplicate, reduceIte]; with_reducible refine hK4 _ ?_; clear hK4
    refine W.ret ⟨by simp, _, rfl, fun ρ w1 hb => ?_⟩
    simp only [den, validDs, h0, Bool.false_and]
  · skip
    have h0 : decide (ds.length ≤ 200) = true := by simp at hc ⊢; omega
    refine W.skip (hK2 _ ?_)
    refine W.seqK fun K5 hK5 => ?_
    refine W.pure (ds := []) rfl fun K6 hK6 => ?_
    simp only [sx, ty, Bool.false_eq_true, Int.reduceEq, Int.reduceLT, Nat.reduceAdd, Nat.reduceSub, Nat.reduceMul, Nat.reduceLT, Nat.reduceLeDiff, Nat.reduceEqDiff, List.reduceReplicate, reduceIte]; with_reducible refine hK6 _ ?_; clear hK6
    refine W.block ?_
    refine W.loopK (X := Nat) [0] (fun x => [(3, .val (.int .i64 x))]) (fun x => x ≤ ds.length ∧ (ds.take x).all validD = true ∧ ((ds.take x).map fun d : Dem => d.1).Nodup) (fun x => ds.length - x) 0 ?_ ?_ ?_
    · exact ⟨rfl, by simp [getE, bnd, keepE], ⟨[], by simp⟩, by simp [Own.bnd, bndL, bnd, boxO], by simp⟩
    · skip
      simp
    · rintro i ⟨hi, hall, hnd⟩
      simp only [sx, ty, Bool.false_eq_true, Int.reduceEq, Int.reduceLT, Nat.reduceAdd, Nat.reduceSub, Nat.reduceMul, Nat.reduceLT, Nat.reduceLeDiff, Nat.reduceEqDiff, List.reduceReplicate, reduceIte, sxk]
      refine W.seqK fun K7 hK7 => ?_
      refine W.pure (ds := []) rfl fun K8 hK8 => ?_
      simp only [sx, ty, Bool.false_eq_true, Int.reduceEq, Int.reduceLT, Nat.reduceAdd, Nat.reduceSub, Nat.reduceMul, Nat.reduceLT, Nat.reduceLeDiff, Nat.reduceEqDiff, List.reduceReplicate, reduceIte]; with_reducible refine hK8 _ ?_; clear hK8
      refine W.cond rfl rfl (fun hc => ?_) (fun hc => ?_)
      · skip
        have hlt : i < ds.length := by simpa using hc
        refine W.skip (hK7 _ ?_)
        refine W.seqK fun K9 hK9 => ?_
        refine W.block ?_
        refine W.seqK fun K10 hK10 => W.region ?_
        refine WO.go 2 (ds := []) rfl ?_
        simp only [sx, ty, Bool.false_eq_true, Int.reduceEq, Int.reduceLT, Nat.reduceAdd, Nat.reduceSub, Nat.reduceMul, Nat.reduceLT, Nat.reduceLeDiff, Nat.reduceEqDiff, List.reduceReplicate, reduceIte]
        refine WO.elem (y := ds[i]) hl (by simp [St.put]) (ds := []) rfl rfl rfl (by simp [St.put]) (fun _ => rfl) rfl rfl rfl rfl rfl el22 agg35 sz35 (.inl rfl) (by omega) (getIdx ds hlt) fun p ces hces => ?_
        obtain ⟨p2, c2, rfl, hed, hel⟩ := rDem_open hces
        simp only [sx, ty, Bool.false_eq_true, Int.reduceEq, Int.reduceLT, Nat.reduceAdd, Nat.reduceSub, Nat.reduceMul, Nat.reduceLT, Nat.reduceLeDiff, Nat.reduceEqDiff, List.reduceReplicate, reduceIte]
        refine WO.call (.bool (validD ds[i])) (ds := []) rfl rfl rfl rfl co18 (fun ρ w1 hb => by have := rdemand_spec (Rp.now hces (hb.first (by simp))); simpa [denL_eq, den, Function.comp_def] using this) ?_
        refine WO.go 1 (ds := []) rfl ?_
        simp only [sx, ty, Bool.false_eq_true, Int.reduceEq, Int.reduceLT, Nat.reduceAdd, Nat.reduceSub, Nat.reduceMul, Nat.reduceLT, Nat.reduceLeDiff, Nat.reduceEqDiff, List.reduceReplicate, reduceIte]
        with_reducible refine WO.nil ?_
        refine hK10 _ ?_; clear hK10
        refine W.seqK fun K11 hK11 => ?_
        refine W.pure (ds := []) rfl fun K12 hK12 => ?_
        simp only [sx, ty, Bool.false_eq_true, Int.reduceEq, Int.reduceLT, Nat.reduceAdd, Nat.reduceSub, Nat.reduceMul, Nat.reduceLT, Nat.reduceLeDiff, Nat.reduceEqDiff, List.reduceReplicate, reduceIte]; with_reducible refine hK12 _ ?_; clear hK12
        refine W.cond rfl rfl (fun hc => ?_) (fun hc => ?_)
        · skip
          have hx := all_not validD ds hlt (by rwa [Bool.not_eq_true'] at hc)
          refine W.pure (ds := []) rfl fun K13 hK13 => ?_
          simp only [sx, ty, Bool.false_eq_true, Int.reduceEq, Int.reduceLT, Nat.reduceAdd, Nat.reduceSub, Nat.reduceMul, Nat.reduceLT, Nat.reduceLeDiff, Nat.reduceEqDiff, List.reduceReplicate, reduceIte]; with_reducible refine hK13 _ ?_; clear hK13
          refine W.ret ⟨by simp, _, rfl, fun ρ w1 hb => ?_⟩
          simp only [den, validDs, hx, Bool.and_false, Bool.false_and]
        · skip
          rw [Bool.not_eq_false'] at hc
          have hxi := hc
          refine W.skip (hK11 _ ?_)
          refine W.pure (ds := []) rfl fun K14 hK14 => ?_
          simp only [sx, ty, Bool.false_eq_true, Int.reduceEq, Int.reduceLT, Nat.reduceAdd, Nat.reduceSub, Nat.reduceMul, Nat.reduceLT, Nat.reduceLeDiff, Nat.reduceEqDiff, List.reduceReplicate, reduceIte]; with_reducible refine hK14 _ ?_; clear hK14
          refine W.block ?_
          refine W.loopK (X := Nat) [0, 3] (fun x => [(5, .val (.int .i64 x))]) (fun x => x ≤ i ∧ ∀ (j : Nat) (hj : j < ds.length), j < x → ds[j].1 ≠ ds[i].1) (fun x => i - x) 0 ?_ ?_ ?_
          · exact ⟨rfl, by simp [getE, bnd, keepE], ⟨[], by simp⟩, by simp [Own.bnd, bndL, bnd, boxO], by simp⟩
          · skip
            exact ⟨Nat.zero_le _, fun j hj h => by omega⟩
          · rintro k ⟨hk, hno⟩
            simp only [sx, ty, Bool.false_eq_true, Int.reduceEq, Int.reduceLT, Nat.reduceAdd, Nat.reduceSub, Nat.reduceMul, Nat.reduceLT, Nat.reduceLeDiff, Nat.reduceEqDiff, List.reduceReplicate, reduceIte, sxk]
            refine W.seqK fun K15 hK15 => ?_
            refine W.pure (ds := []) rfl fun K16 hK16 => ?_
            simp only [sx, ty, Bool.false_eq_true, Int.reduceEq, Int.reduceLT, Nat.reduceAdd, Nat.reduceSub, Nat.reduceMul, Nat.reduceLT, Nat.reduceLeDiff, Nat.reduceEqDiff, List.reduceReplicate, reduceIte]; with_reducible refine hK16 _ ?_; clear hK16
            refine W.cond rfl rfl (fun hc => ?_) (fun hc => ?_)
            · skip
              have hkl : k < i := by simpa using hc
              refine W.skip (hK15 _ ?_)
              refine W.seqK fun K17 hK17 => ?_
              refine W.block ?_
              refine W.seqK fun K18 hK18 => ?_
              refine W.regionQ mixed (by kernel_rfl) ?_
              refine WQ.go 2 (ds := []) rfl ?_
              simp only [sx, ty, Bool.false_eq_true, Int.reduceEq, Int.reduceLT, Nat.reduceAdd, Nat.reduceSub, Nat.reduceMul, Nat.reduceLT, Nat.reduceLeDiff, Nat.reduceEqDiff, List.reduceReplicate, reduceIte, sxq, Bool.false_eq_true]
              refine WQ.elemF (y := ds[k]) hl (by simp [St.put]) (ds := []) rfl rfl rfl (by simp [St.put]) (fun _ => rfl) rfl (by simp [St.put]) (fun _ _ => rfl) rfl rfl rfl rfl rfl rfl el22 fo35_0 agg3 sz3 (by decide) (.inr rfl) (by omega) (getIdx ds (by omega)) fun p q ces hces => ?_
              obtain ⟨p3, c3, rfl, hed3, hel3⟩ := rDem_open hces
              clear hces
              refine WQ.go 2 (ds := []) rfl ?_
              simp only [sx, ty, Bool.false_eq_true, Int.reduceEq, Int.reduceLT, Nat.reduceAdd, Nat.reduceSub, Nat.reduceMul, Nat.reduceLT, Nat.reduceLeDiff, Nat.reduceEqDiff, List.reduceReplicate, reduceIte, sxq, Bool.false_eq_true]
              refine WQ.elemF (y := ds[i]) hl (by simp [St.put]) (ds := []) rfl rfl rfl (by simp [St.put]) (fun _ => rfl) rfl (by simp [St.put]) (fun _ _ => rfl) rfl rfl rfl rfl rfl rfl el22 fo35_0 agg3 sz3 (by decide) (.inr rfl) (by omega) (getIdx ds hlt) fun p q ces hces => ?_
              obtain ⟨p4, c4, rfl, hed4, hel4⟩ := rDem_open hces
              clear hces
              refine WQ.go 1 (ds := []) rfl ?_
              simp only [sx, ty, Bool.false_eq_true, Int.reduceEq, Int.reduceLT, Nat.reduceAdd, Nat.reduceSub, Nat.reduceMul, Nat.reduceLT, Nat.reduceLeDiff, Nat.reduceEqDiff, List.reduceReplicate, reduceIte, sxq, Bool.false_eq_true]
              with_reducible refine WQ.nil ?_
              refine hK18 _ ?_; clear hK18
              refine W.cond rfl rfl (fun hc => ?_) (fun hc => ?_)
              · skip
                have hx := nodup_not (fun d : Dem => d.1) ds hkl hlt (by simpa using hc)
                refine W.pure (ds := []) rfl fun K19 hK19 => ?_
                simp only [sx, ty, Bool.false_eq_true, Int.reduceEq, Int.reduceLT, Nat.reduceAdd, Nat.reduceSub, Nat.reduceMul, Nat.reduceLT, Nat.reduceLeDiff, Nat.reduceEqDiff, List.reduceReplicate, reduceIte]; with_reducible refine hK19 _ ?_; clear hK19
                refine W.ret ⟨by simp, _, rfl, fun ρ w1 hb => ?_⟩
                simp only [den, validDs, hx, Bool.and_false]
              · skip
                have hx : ds[k].1 ≠ ds[i].1 := by simpa using hc
                refine W.skip (hK17 _ ?_)
                refine W.region ?_
                refine WO.go 3 (ds := []) rfl ?_
                simp only [sx, ty, Bool.false_eq_true, Int.reduceEq, Int.reduceLT, Nat.reduceAdd, Nat.reduceSub, Nat.reduceMul, Nat.reduceLT, Nat.reduceLeDiff, Nat.reduceEqDiff, List.reduceReplicate, reduceIte]
                with_reducible refine WO.nil ?_
                refine ⟨k + 1, ?_, by first | omega | (simp; omega), rfl, by simp [getE, bnd, keepE, wrap_succ (show k + 1 ≤ 9223372036854775807 by omega)], ⟨_, rfl⟩, by simp [Own.bnd, bndL, bnd, boxO], by simp⟩
                refine ⟨hkl, fun j hj h => ?_⟩
                rcases Nat.lt_succ_iff_lt_or_eq.1 h with h | rfl
                · exact hno j hj h
                · exact hx
            · skip
              have hke : k = i := by have : ¬ k < i := by simpa using hc
                                     omega
              subst hke
              refine W.exit (hK9 _ ?_)
              refine W.region ?_
              refine WO.go 3 (ds := []) rfl ?_
              simp only [sx, ty, Bool.false_eq_true, Int.reduceEq, Int.reduceLT, Nat.reduceAdd, Nat.reduceSub, Nat.reduceMul, Nat.reduceLT, Nat.reduceLeDiff, Nat.reduceEqDiff, List.reduceReplicate, reduceIte]
              with_reducible refine WO.nil ?_
              refine ⟨k + 1, ?_, by first | omega | (simp; omega), rfl, by simp [getE, bnd, keepE, wrap_succ (show k + 1 ≤ 9223372036854775807 by omega)], ⟨_, rfl⟩, by simp [Own.bnd, bndL, bnd, boxO], by simp⟩
              exact ⟨hlt, all_take validD ds hlt hall hxi, nodup_take _ ds hlt hnd hno⟩
      · skip
        refine W.exit (hK5 _ ?_)
        refine W.pure (ds := []) rfl fun K20 hK20 => ?_
        simp only [sx, ty, Bool.false_eq_true, Int.reduceEq, Int.reduceLT, Nat.reduceAdd, Nat.reduceSub, Nat.reduceMul, Nat.reduceLT, Nat.reduceLeDiff, Nat.reduceEqDiff, List.reduceReplicate, reduceIte]; with_reducible refine hK20 _ ?_; clear hK20
        refine W.ret ⟨by simp, _, rfl, fun ρ w1 hb => ?_⟩
        have hge : ds.length ≤ i := by simpa using hc
        rw [List.take_of_length_le hge] at hall hnd
        simp only [den, validDs, h0, hall, hnd, decide_true, Bool.true_and]
/-- function 30 -/
theorem rcopies_spec {S : Nat → Prop} {w : World} {v : Value} {cs : List Cop} (hl : rCops.rd S w [v] cs) : Gives Try.prog 30 #[v] w fun r _ => r = .bool (validCs cs) := by
  obtain ⟨p, c, rfl, hc1, hc2⟩ := Rp.slice_val hl
  have hl : (Rp.slice rCop).rd (fun _ => True) w _ cs := Rp.any hl
  refine gives_of [.val (.slice p cs.length c)] 64 [.tmp 2] Try.func30 rfl rfl rfl (by simp) rfl rfl ?_
  refine W.pure (ds := []) rfl fun K1 hK1 => ?_
  simp only [sx, ty, Bool.false_eq_true, Int.reduceEq, Int.reduceLT, Nat.reduceAdd, Nat.reduceSub, Nat.reduceMul, Nat.reduceLT, Nat.reduceLeDiff, Nat.reduceEqDiff, List.reduceReplicate, reduceIte]; with_reducible refine hK1 _ ?_; clear hK1
  refine W.seqK fun K2 hK2 => ?_
  refine W.pure (ds := []) rfl fun K3 hK3 => ?_
  simp only [sx, ty, Bool.false_eq_true, Int.reduceEq, Int.reduceLT, Nat.reduceAdd, Nat.reduceSub, Nat.reduceMul, Nat.reduceLT, Nat.reduceLeDiff, Nat.reduceEqDiff, List.reduceReplicate, reduceIte]; with_reducible refine hK3 _ ?_; clear hK3
  refine W.cond rfl rfl (fun hc => ?_) (fun hc => ?_)
  · skip
    have h0 : decide (cs.length ≤ 200) = false := by simp at hc ⊢; omega
    refine W.pure (ds := []) rfl fun K4 hK4 => ?_
    simp only [sx, ty, Bool.false_eq_true, Int.reduceEq, Int.reduceLT, Nat.reduceAdd, Nat.reduceSub, Nat.reduceMul, Nat.reduceLT, Nat.reduceLeDiff, Nat.reduceEqDiff, List.reduceReplicate, reduceIte]; with_reducible refine hK4 _ ?_; clear hK4
    refine W.ret ⟨by simp, _, rfl, fun ρ w1 hb => ?_⟩
    simp only [den, validCs, h0, Bool.false_and]
  · skip
    have h0 : decide (cs.length ≤ 200) = true := by simp at hc ⊢; omega
    refine W.skip (hK2 _ ?_)
    refine W.seqK fun K5 hK5 => ?_
    refine W.pure (ds := []) rfl fun K6 hK6 => ?_
    simp only [sx, ty, Bool.false_eq_true, Int.reduceEq, Int.reduceLT, Nat.reduceAdd, Nat.reduceSub, Nat.reduceMul, Nat.reduceLT, Nat.reduceLeDiff, Nat.reduceEqDiff, List.reduceReplicate, reduceIte]; with_reducible refine hK6 _ ?_; clear hK6
    refine W.block ?_
    refine W.loopK (X := Nat) [0] (fun x => [(3, .val (.int .i64 x))]) (fun x => x ≤ cs.length ∧ (cs.take x).all validC = true ∧ ((cs.take x).map fun d : Cop => d.1).Nodup) (fun x => cs.length - x) 0 ?_ ?_ ?_
    · exact ⟨rfl, by simp [getE, bnd, keepE], ⟨[], by simp⟩, by simp [Own.bnd, bndL, bnd, boxO], by simp⟩
    · skip
      simp
    · rintro i ⟨hi, hall, hnd⟩
      simp only [sx, ty, Bool.false_eq_true, Int.reduceEq, Int.reduceLT, Nat.reduceAdd, Nat.reduceSub, Nat.reduceMul, Nat.reduceLT, Nat.reduceLeDiff, Nat.reduceEqDiff, List.reduceReplicate, reduceIte, sxk]
      refine W.seqK fun K7 hK7 => ?_
      refine W.pure (ds := []) rfl fun K8 hK8 => ?_
      simp only [sx, ty, Bool.false_eq_true, Int.reduceEq, Int.reduceLT, Nat.reduceAdd, Nat.reduceSub, Nat.reduceMul, Nat.reduceLT, Nat.reduceLeDiff, Nat.reduceEqDiff, List.reduceReplicate, reduceIte]; with_reducible refine hK8 _ ?_; clear hK8
      refine W.cond rfl rfl (fun hc => ?_) (fun hc => ?_)
      · skip
        have hlt : i < cs.length := by simpa using hc
        refine W.skip (hK7 _ ?_)
        refine W.seqK fun K9 hK9 => ?_
        refine W.block ?_
        refine W.seqK fun K10 hK10 => ?_
        refine W.join 47 (.val (.bool (!(within 1 1000000 cs[i].1 && within 1 1000000 cs[i].2.1 && within 1 1000000 cs[i].2.2.1 && within 0 99 cs[i].2.2.2)))) [0, 3] (W.region ?_) ?_
        · skip
          refine WO.go 2 (ds := [some 14, some 15, some 16, some 17, some 18, some 19, some 20, some 21, some 22, some 23, some 24, some 25, some 26, some 27, some 28, some 29, some 30, some 31, some 32, some 33, some 34, some 35, some 36, some 37, some 38, some 39, some 40, some 41, some 42, some 43, some 44, some 45, some 46, some 47]) rfl ?_
          simp only [sx, ty, Bool.false_eq_true, Int.reduceEq, Int.reduceLT, Nat.reduceAdd, Nat.reduceSub, Nat.reduceMul, Nat.reduceLT, Nat.reduceLeDiff, Nat.reduceEqDiff, List.reduceReplicate, reduceIte]
          refine WO.elemF (y := cs[i]) hl (by simp [St.put]) (ds := [some 14, some 15, some 16, some 17, some 18, some 19, some 20, some 21, some 22, some 23, some 24, some 25, some 26, some 27, some 28, some 29, some 30, some 31, some 32, some 33, some 34, some 35, some 36, some 37, some 38, some 39, some 40, some 41, some 42, some 43, some 44, some 45, some 46, some 47]) rfl rfl rfl (by simp [St.put]) (fun _ => rfl) rfl (by simp [St.put]) (fun _ _ => rfl) rfl rfl rfl rfl rfl rfl el23 fo37_0 agg3 sz3 (by decide) (.inr rfl) (by omega) (getIdx cs hlt) fun p q ces hces => ?_
          obtain rfl := rCop_open hces
          clear hces
          simp only [sx, ty, Bool.false_eq_true, Int.reduceEq, Int.reduceLT, Nat.reduceAdd, Nat.reduceSub, Nat.reduceMul, Nat.reduceLT, Nat.reduceLeDiff, Nat.reduceEqDiff, List.reduceReplicate, reduceIte]
          refine WO.call (.bool (within 1 1000000 cs[i].1)) (ds := [some 14, some 15, some 16, some 17, some 18, some 19, some 20, some 21, some 22, some 23, some 24, some 25, some 26, some 27, some 28, some 29, some 30, some 31, some 32, some 33, some 34, some 35, some 36, some 37, some 38, some 39, some 40, some 41, some 42, some 43, some 44, some 45, some 46, some 47]) rfl rfl rfl rfl co21 (fun ρ w1 hb => in_spec w1 _ _ _) ?_
          refine WO.go 2 (ds := [some 14, some 15, some 16, some 17, some 18, some 19, some 20, some 21, some 22, some 23, some 24, some 25, some 26, some 27, some 28, some 29, some 30, some 31, some 32, some 33, some 34, some 35, some 36, some 37, some 38, some 39, some 40, some 41, some 42, some 43, some 44, some 45, some 46, some 47]) rfl ?_
          simp only [sx, ty, Bool.false_eq_true, Int.reduceEq, Int.reduceLT, Nat.reduceAdd, Nat.reduceSub, Nat.reduceMul, Nat.reduceLT, Nat.reduceLeDiff, Nat.reduceEqDiff, List.reduceReplicate, reduceIte]
          refine WO.cases 21 _ rfl (fun hg21 => ?_) (fun hg21 => ?_)
          · skip
            have hg21 : within 1 1000000 cs[i].1 = false := by simpa using hg21
            refine WO.go 26 (ds := [some 14, some 15, some 16, some 17, some 18, some 19, some 20, some 21, some 22, some 23, some 24, some 25, some 26, some 27, some 28, some 29, some 30, some 31, some 32, some 33, some 34, some 35, some 36, some 37, some 38, some 39, some 40, some 41, some 42, some 43, some 44, some 45, some 46, some 47]) rfl ?_
            simp only [sx, ty, Bool.false_eq_true, Int.reduceEq, Int.reduceLT, Nat.reduceAdd, Nat.reduceSub, Nat.reduceMul, Nat.reduceLT, Nat.reduceLeDiff, Nat.reduceEqDiff, List.reduceReplicate, reduceIte]
            with_reducible refine WO.nil ?_
            refine ⟨rfl, ?_, ⟨_, rfl⟩, by simp [Own.bnd, bndL, bnd, boxO], by simp⟩
            try rw [hg21]
            try rw [hg30]
            try rw [hg39]
            simp [getE, bnd, keepE]
          · skip
            have hg21 : within 1 1000000 cs[i].1 = true := by simpa using hg21
            refine WO.go 2 (ds := [some 14, some 15, some 16, some 17, some 18, some 19, some 20, some 21, some 22, some 23, some 24, some 25, some 26, some 27, some 28, some 29, some 30, some 31, some 32, some 33, some 34, some 35, some 36, some 37, some 38, some 39, some 40, some 41, some 42, some 43, some 44, some 45, some 46, some 47]) rfl ?_
            simp only [sx, ty, Bool.false_eq_true, Int.reduceEq, Int.reduceLT, Nat.reduceAdd, Nat.reduceSub, Nat.reduceMul, Nat.reduceLT, Nat.reduceLeDiff, Nat.reduceEqDiff, List.reduceReplicate, reduceIte]
            refine WO.elemF (y := cs[i]) hl (by simp [St.put]) (ds := [some 14, some 15, some 16, some 17, some 18, some 19, some 20, some 21, some 22, some 23, some 24, some 25, some 26, some 27, some 28, some 29, some 30, some 31, some 32, some 33, some 34, some 35, some 36, some 37, some 38, some 39, some 40, some 41, some 42, some 43, some 44, some 45, some 46, some 47]) rfl rfl rfl (by simp [St.put]) (fun _ => rfl) rfl (by simp [St.put]) (fun _ _ => rfl) rfl rfl rfl rfl rfl rfl el23 fo37_1 agg3 sz3 (by decide) (.inr rfl) (by omega) (getIdx cs hlt) fun p q ces hces => ?_
            obtain rfl := rCop_open hces
            clear hces
            simp only [sx, ty, Bool.false_eq_true, Int.reduceEq, Int.reduceLT, Nat.reduceAdd, Nat.reduceSub, Nat.reduceMul, Nat.reduceLT, Nat.reduceLeDiff, Nat.reduceEqDiff, List.reduceReplicate, reduceIte]
            refine WO.call (.bool (within 1 1000000 cs[i].2.1)) (ds := [some 14, some 15, some 16, some 17, some 18, some 19, some 20, some 21, some 22, some 23, some 24, some 25, some 26, some 27, some 28, some 29, some 30, some 31, some 32, some 33, some 34, some 35, some 36, some 37, some 38, some 39, some 40, some 41, some 42, some 43, some 44, some 45, some 46, some 47]) rfl rfl rfl rfl co21 (fun ρ w1 hb => in_spec w1 _ _ _) ?_
            refine WO.go 3 (ds := [some 14, some 15, some 16, some 17, some 18, some 19, some 20, some 21, some 22, some 23, some 24, some 25, some 26, some 27, some 28, some 29, some 30, some 31, some 32, some 33, some 34, some 35, some 36, some 37, some 38, some 39, some 40, some 41, some 42, some 43, some 44, some 45, some 46, some 47]) rfl ?_
            simp only [sx, ty, Bool.false_eq_true, Int.reduceEq, Int.reduceLT, Nat.reduceAdd, Nat.reduceSub, Nat.reduceMul, Nat.reduceLT, Nat.reduceLeDiff, Nat.reduceEqDiff, List.reduceReplicate, reduceIte]
            refine WO.cases 30 _ rfl (fun hg30 => ?_) (fun hg30 => ?_)
            · skip
              have hg30 : within 1 1000000 cs[i].2.1 = false := by simpa using hg30
              refine WO.go 17 (ds := [some 14, some 15, some 16, some 17, some 18, some 19, some 20, some 21, some 22, some 23, some 24, some 25, some 26, some 27, some 28, some 29, some 30, some 31, some 32, some 33, some 34, some 35, some 36, some 37, some 38, some 39, some 40, some 41, some 42, some 43, some 44, some 45, some 46, some 47]) rfl ?_
              simp only [sx, ty, Bool.false_eq_true, Int.reduceEq, Int.reduceLT, Nat.reduceAdd, Nat.reduceSub, Nat.reduceMul, Nat.reduceLT, Nat.reduceLeDiff, Nat.reduceEqDiff, List.reduceReplicate, reduceIte]
              with_reducible refine WO.nil ?_
              refine ⟨rfl, ?_, ⟨_, rfl⟩, by simp [Own.bnd, bndL, bnd, boxO], by simp⟩
              try rw [hg21]
              try rw [hg30]
              try rw [hg39]
              simp [getE, bnd, keepE]
            · skip
              have hg30 : within 1 1000000 cs[i].2.1 = true := by simpa using hg30
              refine WO.go 2 (ds := [some 14, some 15, some 16, some 17, some 18, some 19, some 20, some 21, some 22, some 23, some 24, some 25, some 26, some 27, some 28, some 29, some 30, some 31, some 32, some 33, some 34, some 35, some 36, some 37, some 38, some 39, some 40, some 41, some 42, some 43, some 44, some 45, some 46, some 47]) rfl ?_
              simp only [sx, ty, Bool.false_eq_true, Int.reduceEq, Int.reduceLT, Nat.reduceAdd, Nat.reduceSub, Nat.reduceMul, Nat.reduceLT, Nat.reduceLeDiff, Nat.reduceEqDiff, List.reduceReplicate, reduceIte]
              refine WO.elemF (y := cs[i]) hl (by simp [St.put]) (ds := [some 14, some 15, some 16, some 17, some 18, some 19, some 20, some 21, some 22, some 23, some 24, some 25, some 26, some 27, some 28, some 29, some 30, some 31, some 32, some 33, some 34, some 35, some 36, some 37, some 38, some 39, some 40, some 41, some 42, some 43, some 44, some 45, some 46, some 47]) rfl rfl rfl (by simp [St.put]) (fun _ => rfl) rfl (by simp [St.put]) (fun _ _ => rfl) rfl rfl rfl rfl rfl rfl el23 fo37_2 agg3 sz3 (by decide) (.inr rfl) (by omega) (getIdx cs hlt) fun p q ces hces => ?_
              obtain rfl := rCop_open hces
              clear hces
              simp only [sx, ty, Bool.false_eq_true, Int.reduceEq, Int.reduceLT, Nat.reduceAdd, Nat.reduceSub, Nat.reduceMul, Nat.reduceLT, Nat.reduceLeDiff, Nat.reduceEqDiff, List.reduceReplicate, reduceIte]
              refine WO.call (.bool (within 1 1000000 cs[i].2.2.1)) (ds := [some 14, some 15, some 16, some 17, some 18, some 19, some 20, some 21, some 22, some 23, some 24, some 25, some 26, some 27, some 28, some 29, some 30, some 31, some 32, some 33, some 34, some 35, some 36, some 37, some 38, some 39, some 40, some 41, some 42, some 43, some 44, some 45, some 46, some 47]) rfl rfl rfl rfl co21 (fun ρ w1 hb => in_spec w1 _ _ _) ?_
              refine WO.go 3 (ds := [some 14, some 15, some 16, some 17, some 18, some 19, some 20, some 21, some 22, some 23, some 24, some 25, some 26, some 27, some 28, some 29, some 30, some 31, some 32, some 33, some 34, some 35, some 36, some 37, some 38, some 39, some 40, some 41, some 42, some 43, some 44, some 45, some 46, some 47]) rfl ?_
              simp only [sx, ty, Bool.false_eq_true, Int.reduceEq, Int.reduceLT, Nat.reduceAdd, Nat.reduceSub, Nat.reduceMul, Nat.reduceLT, Nat.reduceLeDiff, Nat.reduceEqDiff, List.reduceReplicate, reduceIte]
              refine WO.cases 39 _ rfl (fun hg39 => ?_) (fun hg39 => ?_)
              · skip
                have hg39 : within 1 1000000 cs[i].2.2.1 = false := by simpa using hg39
                refine WO.go 8 (ds := [some 14, some 15, some 16, some 17, some 18, some 19, some 20, some 21, some 22, some 23, some 24, some 25, some 26, some 27, some 28, some 29, some 30, some 31, some 32, some 33, some 34, some 35, some 36, some 37, some 38, some 39, some 40, some 41, some 42, some 43, some 44, some 45, some 46, some 47]) rfl ?_
                simp only [sx, ty, Bool.false_eq_true, Int.reduceEq, Int.reduceLT, Nat.reduceAdd, Nat.reduceSub, Nat.reduceMul, Nat.reduceLT, Nat.reduceLeDiff, Nat.reduceEqDiff, List.reduceReplicate, reduceIte]
                with_reducible refine WO.nil ?_
                refine ⟨rfl, ?_, ⟨_, rfl⟩, by simp [Own.bnd, bndL, bnd, boxO], by simp⟩
                try rw [hg21]
                try rw [hg30]
                try rw [hg39]
                simp [getE, bnd, keepE]
              · skip
                have hg39 : within 1 1000000 cs[i].2.2.1 = true := by simpa using hg39
                refine WO.go 2 (ds := [some 14, some 15, some 16, some 17, some 18, some 19, some 20, some 21, some 22, some 23, some 24, some 25, some 26, some 27, some 28, some 29, some 30, some 31, some 32, some 33, some 34, some 35, some 36, some 37, some 38, some 39, some 40, some 41, some 42, some 43, some 44, some 45, some 46, some 47]) rfl ?_
                simp only [sx, ty, Bool.false_eq_true, Int.reduceEq, Int.reduceLT, Nat.reduceAdd, Nat.reduceSub, Nat.reduceMul, Nat.reduceLT, Nat.reduceLeDiff, Nat.reduceEqDiff, List.reduceReplicate, reduceIte]
                refine WO.elemF (y := cs[i]) hl (by simp [St.put]) (ds := [some 14, some 15, some 16, some 17, some 18, some 19, some 20, some 21, some 22, some 23, some 24, some 25, some 26, some 27, some 28, some 29, some 30, some 31, some 32, some 33, some 34, some 35, some 36, some 37, some 38, some 39, some 40, some 41, some 42, some 43, some 44, some 45, some 46, some 47]) rfl rfl rfl (by simp [St.put]) (fun _ => rfl) rfl (by simp [St.put]) (fun _ _ => rfl) rfl rfl rfl rfl rfl rfl el23 fo37_3 agg3 sz3 (by decide) (.inr rfl) (by omega) (getIdx cs hlt) fun p q ces hces => ?_
                obtain rfl := rCop_open hces
                clear hces
                simp only [sx, ty, Bool.false_eq_true, Int.reduceEq, Int.reduceLT, Nat.reduceAdd, Nat.reduceSub, Nat.reduceMul, Nat.reduceLT, Nat.reduceLeDiff, Nat.reduceEqDiff, List.reduceReplicate, reduceIte]
                refine WO.call (.bool (within 0 99 cs[i].2.2.2)) (ds := [some 14, some 15, some 16, some 17, some 18, some 19, some 20, some 21, some 22, some 23, some 24, some 25, some 26, some 27, some 28, some 29, some 30, some 31, some 32, some 33, some 34, some 35, some 36, some 37, some 38, some 39, some 40, some 41, some 42, some 43, some 44, some 45, some 46, some 47]) rfl rfl rfl rfl co21 (fun ρ w1 hb => in_spec w1 _ _ _) ?_
                refine WO.go 2 (ds := [some 14, some 15, some 16, some 17, some 18, some 19, some 20, some 21, some 22, some 23, some 24, some 25, some 26, some 27, some 28, some 29, some 30, some 31, some 32, some 33, some 34, some 35, some 36, some 37, some 38, some 39, some 40, some 41, some 42, some 43, some 44, some 45, some 46, some 47]) rfl ?_
                simp only [sx, ty, Bool.false_eq_true, Int.reduceEq, Int.reduceLT, Nat.reduceAdd, Nat.reduceSub, Nat.reduceMul, Nat.reduceLT, Nat.reduceLeDiff, Nat.reduceEqDiff, List.reduceReplicate, reduceIte]
                with_reducible refine WO.nil ?_
                refine ⟨rfl, ?_, ⟨_, rfl⟩, by simp [Own.bnd, bndL, bnd, boxO], by simp⟩
                try rw [hg21]
                try rw [hg30]
                try rw [hg39]
                simp [getE, bnd, keepE]
        · simp only [sx, ty, Bool.false_eq_true, Int.reduceEq, Int.reduceLT, Nat.reduceAdd, Nat.reduceSub, Nat.reduceMul, Nat.reduceLT, Nat.reduceLeDiff, Nat.reduceEqDiff, List.reduceReplicate, reduceIte, sxk]
          refine W.cond rfl rfl (fun hc => ?_) (fun hc => ?_)
          · skip
            have hx := all_not validC cs hlt (by rwa [Bool.not_eq_true'] at hc)
            refine W.pure (ds := []) rfl fun K12 hK12 => ?_
            simp only [sx, ty, Bool.false_eq_true, Int.reduceEq, Int.reduceLT, Nat.reduceAdd, Nat.reduceSub, Nat.reduceMul, Nat.reduceLT, Nat.reduceLeDiff, Nat.reduceEqDiff, List.reduceReplicate, reduceIte]; with_reducible refine hK12 _ ?_; clear hK12
            refine W.ret ⟨by simp, _, rfl, fun ρ w1 hb => ?_⟩
            simp only [den, validCs, hx, Bool.and_false, Bool.false_and]
          · skip
            rw [Bool.not_eq_false'] at hc
            have hxi : validC cs[i] = true := hc
            refine W.skip (hK10 _ ?_)
            refine W.pure (ds := []) rfl fun K13 hK13 => ?_
            simp only [sx, ty, Bool.false_eq_true, Int.reduceEq, Int.reduceLT, Nat.reduceAdd, Nat.reduceSub, Nat.reduceMul, Nat.reduceLT, Nat.reduceLeDiff, Nat.reduceEqDiff, List.reduceReplicate, reduceIte]; with_reducible refine hK13 _ ?_; clear hK13
            refine W.block ?_
            refine W.loopK (X := Nat) [0, 3] (fun x => [(4, .val (.int .i64 x))]) (fun x => x ≤ i ∧ ∀ (j : Nat) (hj : j < cs.length), j < x → cs[j].1 ≠ cs[i].1) (fun x => i - x) 0 ?_ ?_ ?_
            · exact ⟨rfl, by simp [getE, bnd, keepE], ⟨[], by simp⟩, by simp [Own.bnd, bndL, bnd, boxO], by simp⟩
            · skip
              exact ⟨Nat.zero_le _, fun j hj h => by omega⟩
            · rintro k ⟨hk, hno⟩
              simp only [sx, ty, Bool.false_eq_true, Int.reduceEq, Int.reduceLT, Nat.reduceAdd, Nat.reduceSub, Nat.reduceMul, Nat.reduceLT, Nat.reduceLeDiff, Nat.reduceEqDiff, List.reduceReplicate, reduceIte, sxk]
              refine W.seqK fun K14 hK14 => ?_
              refine W.pure (ds := []) rfl fun K15 hK15 => ?_
              simp only [sx, ty, Bool.false_eq_true, Int.reduceEq, Int.reduceLT, Nat.reduceAdd, Nat.reduceSub, Nat.reduceMul, Nat.reduceLT, Nat.reduceLeDiff, Nat.reduceEqDiff, List.reduceReplicate, reduceIte]; with_reducible refine hK15 _ ?_; clear hK15
              refine W.cond rfl rfl (fun hc => ?_) (fun hc => ?_)
              · skip
                have hkl : k < i := by simpa using hc
                refine W.skip (hK14 _ ?_)
                refine W.seqK fun K16 hK16 => ?_
                refine W.block ?_
                refine W.seqK fun K17 hK17 => ?_
                refine W.regionQ mixed (by kernel_rfl) ?_
                refine WQ.go 2 (ds := []) rfl ?_
                simp only [sx, ty, Bool.false_eq_true, Int.reduceEq, Int.reduceLT, Nat.reduceAdd, Nat.reduceSub, Nat.reduceMul, Nat.reduceLT, Nat.reduceLeDiff, Nat.reduceEqDiff, List.reduceReplicate, reduceIte, sxq, Bool.false_eq_true]
                refine WQ.elemF (y := cs[k]) hl (by simp [St.put]) (ds := []) rfl rfl rfl (by simp [St.put]) (fun _ => rfl) rfl (by simp [St.put]) (fun _ _ => rfl) rfl rfl rfl rfl rfl rfl el23 fo37_0 agg3 sz3 (by decide) (.inr rfl) (by omega) (getIdx cs (by omega)) fun p q ces hces => ?_
                obtain rfl := rCop_open hces
                clear hces
                refine WQ.go 2 (ds := []) rfl ?_
                simp only [sx, ty, Bool.false_eq_true, Int.reduceEq, Int.reduceLT, Nat.reduceAdd, Nat.reduceSub, Nat.reduceMul, Nat.reduceLT, Nat.reduceLeDiff, Nat.reduceEqDiff, List.reduceReplicate, reduceIte, sxq, Bool.false_eq_true]
                refine WQ.elemF (y := cs[i]) hl (by simp [St.put]) (ds := []) rfl rfl rfl (by simp [St.put]) (fun _ => rfl) rfl (by simp [St.put]) (fun _ _ => rfl) rfl rfl rfl rfl rfl rfl el23 fo37_0 agg3 sz3 (by decide) (.inr rfl) (by omega) (getIdx cs hlt) fun p q ces hces => ?_
                obtain rfl := rCop_open hces
                clear hces
                refine WQ.go 1 (ds := []) rfl ?_
                simp only [sx, ty, Bool.false_eq_true, Int.reduceEq, Int.reduceLT, Nat.reduceAdd, Nat.reduceSub, Nat.reduceMul, Nat.reduceLT, Nat.reduceLeDiff, Nat.reduceEqDiff, List.reduceReplicate, reduceIte, sxq, Bool.false_eq_true]
                with_reducible refine WQ.nil ?_
                refine hK17 _ ?_; clear hK17
                refine W.cond rfl rfl (fun hc => ?_) (fun hc => ?_)
                · skip
                  have hx := nodup_not (fun d : Cop => d.1) cs hkl hlt (by simpa using hc)
                  refine W.pure (ds := []) rfl fun K18 hK18 => ?_
                  simp only [sx, ty, Bool.false_eq_true, Int.reduceEq, Int.reduceLT, Nat.reduceAdd, Nat.reduceSub, Nat.reduceMul, Nat.reduceLT, Nat.reduceLeDiff, Nat.reduceEqDiff, List.reduceReplicate, reduceIte]; with_reducible refine hK18 _ ?_; clear hK18
                  refine W.ret ⟨by simp, _, rfl, fun ρ w1 hb => ?_⟩
                  simp only [den, validCs, hx, Bool.and_false]
                · skip
                  have hx : cs[k].1 ≠ cs[i].1 := by simpa using hc
                  refine W.skip (hK16 _ ?_)
                  refine W.region ?_
                  refine WO.go 3 (ds := []) rfl ?_
                  simp only [sx, ty, Bool.false_eq_true, Int.reduceEq, Int.reduceLT, Nat.reduceAdd, Nat.reduceSub, Nat.reduceMul, Nat.reduceLT, Nat.reduceLeDiff, Nat.reduceEqDiff, List.reduceReplicate, reduceIte]
                  with_reducible refine WO.nil ?_
                  refine ⟨k + 1, ?_, by first | omega | (simp; omega), rfl, by simp [getE, bnd, keepE, wrap_succ (show k + 1 ≤ 9223372036854775807 by omega)], ⟨_, rfl⟩, by simp [Own.bnd, bndL, bnd, boxO], by simp⟩
                  refine ⟨hkl, fun j hj h => ?_⟩
                  rcases Nat.lt_succ_iff_lt_or_eq.1 h with h | rfl
                  · exact hno j hj h
                  · exact hx
              · skip
                have hke : k = i := by have : ¬ k < i := by simpa using hc
                                       omega
                subst hke
                refine W.exit (hK9 _ ?_)
                refine W.region ?_
                refine WO.go 3 (ds := []) rfl ?_
                simp only [sx, ty, Bool.false_eq_true, Int.reduceEq, Int.reduceLT, Nat.reduceAdd, Nat.reduceSub, Nat.reduceMul, Nat.reduceLT, Nat.reduceLeDiff, Nat.reduceEqDiff, List.reduceReplicate, reduceIte]
                with_reducible refine WO.nil ?_
                refine ⟨k + 1, ?_, by first | omega | (simp; omega), rfl, by simp [getE, bnd, keepE, wrap_succ (show k + 1 ≤ 9223372036854775807 by omega)], ⟨_, rfl⟩, by simp [Own.bnd, bndL, bnd, boxO], by simp⟩
                exact ⟨hlt, all_take validC cs hlt hall hxi, nodup_take _ cs hlt hnd hno⟩
      · skip
        refine W.exit (hK5 _ ?_)
        refine W.pure (ds := []) rfl fun K19 hK19 => ?_
        simp only [sx, ty, Bool.false_eq_true, Int.reduceEq, Int.reduceLT, Nat.reduceAdd, Nat.reduceSub, Nat.reduceMul, Nat.reduceLT, Nat.reduceLeDiff, Nat.reduceEqDiff, List.reduceReplicate, reduceIte]; with_reducible refine hK19 _ ?_; clear hK19
        refine W.ret ⟨by simp, _, rfl, fun ρ w1 hb => ?_⟩
        have hge : cs.length ≤ i := by simpa using hc
        rw [List.take_of_length_le hge] at hall hnd
        simp only [den, validCs, h0, hall, hnd, decide_true, Bool.true_and]
/-- function 13 -/
theorem rvalid_spec {S S2 : Nat → Prop} {w : World} {v u : Value} {ds : List Dem} {cs : List Cop} (hl : rDems.rd S w [v] ds) (hl2 : rCops.rd S2 w [u] cs) : Gives Try.prog 13 #[v, u] w fun r _ => r = .bool (valid ds cs) := by
  obtain ⟨p, c, rfl, hc1, hc2⟩ := Rp.slice_val hl
  obtain ⟨p2, c2, rfl, hc3, hc4⟩ := Rp.slice_val hl2
  have hl : (Rp.slice rDem).rd (fun _ => True) w _ ds := Rp.any hl
  have hl2 : (Rp.slice rCop).rd (fun _ => True) w _ cs := Rp.any hl2
  refine gives_of [.val (.slice p ds.length c), .val (.slice p2 cs.length c2)] 15 [.tmp 4] Try.func13 rfl rfl rfl (by simp) rfl rfl ?_
  refine W.pure (ds := []) rfl fun K1 hK1 => ?_
  simp only [sx, ty, Bool.false_eq_true, Int.reduceEq, Int.reduceLT, Nat.reduceAdd, Nat.reduceSub, Nat.reduceMul, Nat.reduceLT, Nat.reduceLeDiff, Nat.reduceEqDiff, List.reduceReplicate, reduceIte]; with_reducible refine hK1 _ ?_; clear hK1
  refine W.seqK fun K2 hK2 => W.region ?_
  refine WO.go 1 (ds := []) rfl ?_
  simp only [sx, ty, Bool.false_eq_true, Int.reduceEq, Int.reduceLT, Nat.reduceAdd, Nat.reduceSub, Nat.reduceMul, Nat.reduceLT, Nat.reduceLeDiff, Nat.reduceEqDiff, List.reduceReplicate, reduceIte]
  refine WO.call (.bool (validDs ds)) (ds := []) rfl rfl rfl rfl co29 (fun ρ w1 hb => rdemands_spec (Rp.now hl (hb.first (by simp)))) ?_
  refine WO.go 1 (ds := []) rfl ?_
  simp only [sx, ty, Bool.false_eq_true, Int.reduceEq, Int.reduceLT, Nat.reduceAdd, Nat.reduceSub, Nat.reduceMul, Nat.reduceLT, Nat.reduceLeDiff, Nat.reduceEqDiff, List.reduceReplicate, reduceIte]
  with_reducible refine WO.nil ?_
  refine hK2 _ ?_; clear hK2
  refine W.seqK fun K3 hK3 => W.region ?_
  refine WO.go 1 (ds := []) rfl ?_
  simp only [sx, ty, Bool.false_eq_true, Int.reduceEq, Int.reduceLT, Nat.reduceAdd, Nat.reduceSub, Nat.reduceMul, Nat.reduceLT, Nat.reduceLeDiff, Nat.reduceEqDiff, List.reduceReplicate, reduceIte]
  refine WO.call (.bool (validCs cs)) (ds := []) rfl rfl rfl rfl co30 (fun ρ w1 hb => rcopies_spec (Rp.now hl2 (hb.first (by simp)))) ?_
  refine WO.go 1 (ds := []) rfl ?_
  simp only [sx, ty, Bool.false_eq_true, Int.reduceEq, Int.reduceLT, Nat.reduceAdd, Nat.reduceSub, Nat.reduceMul, Nat.reduceLT, Nat.reduceLeDiff, Nat.reduceEqDiff, List.reduceReplicate, reduceIte]
  with_reducible refine WO.nil ?_
  refine hK3 _ ?_; clear hK3
  refine W.join 4 (.val (.bool (validDs ds && validCs cs))) [] (W.region ?_) ?_
  · skip
    refine WO.go 2 (ds := [some 11, some 12, some 13, some 14, some 4]) rfl ?_
    simp only [sx, ty, Bool.false_eq_true, Int.reduceEq, Int.reduceLT, Nat.reduceAdd, Nat.reduceSub, Nat.reduceMul, Nat.reduceLT, Nat.reduceLeDiff, Nat.reduceEqDiff, List.reduceReplicate, reduceIte]
    refine WO.cases 12 _ rfl (fun hg12 => ?_) (fun hg12 => ?_)
    · skip
      refine WO.go 3 (ds := [some 11, some 12, some 13, some 14, some 4]) rfl ?_
      simp only [sx, ty, Bool.false_eq_true, Int.reduceEq, Int.reduceLT, Nat.reduceAdd, Nat.reduceSub, Nat.reduceMul, Nat.reduceLT, Nat.reduceLeDiff, Nat.reduceEqDiff, List.reduceReplicate, reduceIte]
      with_reducible refine WO.nil ?_
      refine ⟨rfl, ?_, ⟨_, rfl⟩, by simp [Own.bnd, bndL, bnd, boxO], by simp⟩
      try rw [hg12]
      simp [getE, bnd, keepE]
    · skip
      refine WO.go 3 (ds := [some 11, some 12, some 13, some 14, some 4]) rfl ?_
      simp only [sx, ty, Bool.false_eq_true, Int.reduceEq, Int.reduceLT, Nat.reduceAdd, Nat.reduceSub, Nat.reduceMul, Nat.reduceLT, Nat.reduceLeDiff, Nat.reduceEqDiff, List.reduceReplicate, reduceIte]
      with_reducible refine WO.nil ?_
      refine ⟨rfl, ?_, ⟨_, rfl⟩, by simp [Own.bnd, bndL, bnd, boxO], by simp⟩
      try rw [hg12]
      simp [getE, bnd, keepE]
  · simp only [sx, ty, Bool.false_eq_true, Int.reduceEq, Int.reduceLT, Nat.reduceAdd, Nat.reduceSub, Nat.reduceMul, Nat.reduceLT, Nat.reduceLeDiff, Nat.reduceEqDiff, List.reduceReplicate, reduceIte, sxk]
    refine W.ret ⟨by simp, _, rfl, fun ρ w1 hb => ?_⟩
    rfl

def few (ds : List Dem) (cs : List Cop) : Bool := (ds.take 210).all (fun d => decide (d.2.2.2.length ≤ 20)) && decide (ds.length ≤ 210) && decide (cs.length ≤ 210)
/-- function 9 -/
theorem few_spec {S S2 : Nat → Prop} {w : World} {v u : Value} {ds : List Dem} {cs : List Cop} (hl : rDems.rd S w [v] ds) (hl2 : rCops.rd S2 w [u] cs) : Gives Try.prog 9 #[v, u] w fun r _ => r = .bool (few ds cs) := by
  obtain ⟨p, c, rfl, hc1, hc2⟩ := Rp.slice_val hl
  obtain ⟨p2, c2, rfl, hc3, hc4⟩ := Rp.slice_val hl2
  have hl : (Rp.slice rDem).rd (fun _ => True) w _ ds := Rp.any hl
  have hl2 : (Rp.slice rCop).rd (fun _ => True) w _ cs := Rp.any hl2
  refine gives_of [.val (.slice p ds.length c), .val (.slice p2 cs.length c2)] 31 [.tmp 4] Try.func9 rfl rfl rfl (by simp) rfl rfl ?_
  refine W.pure (ds := []) rfl fun K1 hK1 => ?_
  simp only [sx, ty, Bool.false_eq_true, Int.reduceEq, Int.reduceLT, Nat.reduceAdd, Nat.reduceSub, Nat.reduceMul, Nat.reduceLT, Nat.reduceLeDiff, Nat.reduceEqDiff, List.reduceReplicate, reduceIte]; with_reducible refine hK1 _ ?_; clear hK1
  refine W.seqK fun K2 hK2 => ?_
  refine W.pure (ds := []) rfl fun K3 hK3 => ?_
  simp only [sx, ty, Bool.false_eq_true, Int.reduceEq, Int.reduceLT, Nat.reduceAdd, Nat.reduceSub, Nat.reduceMul, Nat.reduceLT, Nat.reduceLeDiff, Nat.reduceEqDiff, List.reduceReplicate, reduceIte]; with_reducible refine hK3 _ ?_; clear hK3
  refine W.block ?_
  refine W.loopK (X := Nat) [0, 1] (fun x => [(5, .val (.int .i64 x))]) (fun x => x ≤ ds.length ∧ x ≤ 210 ∧ (ds.take x).all (fun d => decide (d.2.2.2.length ≤ 20)) = true) (fun x => ds.length - x) 0 ?_ ?_ ?_
  · exact ⟨rfl, by simp [getE, bnd, keepE], ⟨[], by simp⟩, by simp [Own.bnd, bndL, bnd, boxO], by simp⟩
  · skip
    simp
  · rintro i ⟨hi, hi2, hall⟩
    simp only [sx, ty, Bool.false_eq_true, Int.reduceEq, Int.reduceLT, Nat.reduceAdd, Nat.reduceSub, Nat.reduceMul, Nat.reduceLT, Nat.reduceLeDiff, Nat.reduceEqDiff, List.reduceReplicate, reduceIte, sxk]
    refine W.seqK fun K4 hK4 => ?_
    refine W.join 13 (.val (.bool (decide ((i : Int) < (ds.length : Int)) && decide ((i : Int) < 210)))) [0, 1, 5] (W.region ?_) ?_
    · skip
      refine WO.go 5 (ds := [some 6, some 7, some 8, some 9, some 10, some 11, some 12, some 13]) rfl ?_
      simp only [sx, ty, Bool.false_eq_true, Int.reduceEq, Int.reduceLT, Nat.reduceAdd, Nat.reduceSub, Nat.reduceMul, Nat.reduceLT, Nat.reduceLeDiff, Nat.reduceEqDiff, List.reduceReplicate, reduceIte]
      refine WO.cases 10 _ rfl (fun hg10 => ?_) (fun hg10 => ?_)
      · skip
        refine WO.go 3 (ds := [some 6, some 7, some 8, some 9, some 10, some 11, some 12, some 13]) rfl ?_
        simp only [sx, ty, Bool.false_eq_true, Int.reduceEq, Int.reduceLT, Nat.reduceAdd, Nat.reduceSub, Nat.reduceMul, Nat.reduceLT, Nat.reduceLeDiff, Nat.reduceEqDiff, List.reduceReplicate, reduceIte]
        with_reducible refine WO.nil ?_
        refine ⟨rfl, ?_, ⟨_, rfl⟩, by simp [Own.bnd, bndL, bnd, boxO], by simp⟩
        try rw [hg10]
        simp [getE, bnd, keepE]
      · skip
        refine WO.go 3 (ds := [some 6, some 7, some 8, some 9, some 10, some 11, some 12, some 13]) rfl ?_
        simp only [sx, ty, Bool.false_eq_true, Int.reduceEq, Int.reduceLT, Nat.reduceAdd, Nat.reduceSub, Nat.reduceMul, Nat.reduceLT, Nat.reduceLeDiff, Nat.reduceEqDiff, List.reduceReplicate, reduceIte]
        with_reducible refine WO.nil ?_
        refine ⟨rfl, ?_, ⟨_, rfl⟩, by simp [Own.bnd, bndL, bnd, boxO], by simp⟩
        try rw [hg10]
        simp [getE, bnd, keepE]
    · simp only [sx, ty, Bool.false_eq_true, Int.reduceEq, Int.reduceLT, Nat.reduceAdd, Nat.reduceSub, Nat.reduceMul, Nat.reduceLT, Nat.reduceLeDiff, Nat.reduceEqDiff, List.reduceReplicate, reduceIte, sxk]
      refine W.cond rfl rfl (fun hc => ?_) (fun hc => ?_)
      · skip
        simp only [Bool.and_eq_true, decide_eq_true_eq] at hc
        have hlt : i < ds.length := by omega
        have hlt2 : i < 210 := by omega
        refine W.skip (hK4 _ ?_)
        refine W.seqK fun K6 hK6 => ?_
        refine W.block ?_
        refine W.seqK fun K7 hK7 => W.region ?_
        refine WO.go 2 (ds := []) rfl ?_
        simp only [sx, ty, Bool.false_eq_true, Int.reduceEq, Int.reduceLT, Nat.reduceAdd, Nat.reduceSub, Nat.reduceMul, Nat.reduceLT, Nat.reduceLeDiff, Nat.reduceEqDiff, List.reduceReplicate, reduceIte]
        refine WO.elemF (y := ds[i]) hl (by simp [St.put]) (ds := []) rfl rfl rfl (by simp [St.put]) (fun _ => rfl) rfl (by simp [St.put]) (fun _ _ => rfl) rfl rfl rfl rfl rfl rfl el22 fo35_3 agg33 sz33 (by decide) (.inr rfl) (by omega) (getIdx ds hlt) fun p q ces hces => ?_
        obtain ⟨p2, c2, rfl, hed, hel⟩ := rDem_open hces
        refine WO.go 2 (ds := []) rfl ?_
        simp only [sx, ty, Bool.false_eq_true, Int.reduceEq, Int.reduceLT, Nat.reduceAdd, Nat.reduceSub, Nat.reduceMul, Nat.reduceLT, Nat.reduceLeDiff, Nat.reduceEqDiff, List.reduceReplicate, reduceIte]
        with_reducible refine WO.nil ?_
        refine hK7 _ ?_; clear hK7
        refine W.cond rfl rfl (fun hc => ?_) (fun hc => ?_)
        · skip
          have hx : (ds.take 210).all (fun d => decide (d.2.2.2.length ≤ 20)) = false := by
            rw [List.all_eq_false]
            exact ⟨ds[i], by rw [List.mem_take_iff_getElem]; exact ⟨i, by omega, rfl⟩, by simp at hc ⊢; omega⟩
          refine W.pure (ds := []) rfl fun K8 hK8 => ?_
          simp only [sx, ty, Bool.false_eq_true, Int.reduceEq, Int.reduceLT, Nat.reduceAdd, Nat.reduceSub, Nat.reduceMul, Nat.reduceLT, Nat.reduceLeDiff, Nat.reduceEqDiff, List.reduceReplicate, reduceIte]; with_reducible refine hK8 _ ?_; clear hK8
          refine W.ret ⟨by simp, _, rfl, fun ρ w1 hb => ?_⟩
          simp only [den, few, hx, Bool.false_and]
        · skip
          have hx : decide (ds[i].2.2.2.length ≤ 20) = true := by simp at hc ⊢; omega
          refine W.skip (hK6 _ ?_)
          refine W.region ?_
          refine WO.go 3 (ds := []) rfl ?_
          simp only [sx, ty, Bool.false_eq_true, Int.reduceEq, Int.reduceLT, Nat.reduceAdd, Nat.reduceSub, Nat.reduceMul, Nat.reduceLT, Nat.reduceLeDiff, Nat.reduceEqDiff, List.reduceReplicate, reduceIte]
          with_reducible refine WO.nil ?_
          refine ⟨i + 1, ?_, by first | omega | (simp; omega), rfl, by simp [getE, bnd, keepE, wrap_succ (show i + 1 ≤ 9223372036854775807 by omega)], ⟨_, rfl⟩, by simp [Own.bnd, bndL, bnd, boxO], by simp⟩
          exact ⟨hlt, hlt2, all_take _ ds hlt hall hx⟩
      · skip
        have hend : ds.take 210 = ds.take i := by
          simp only [Bool.and_eq_false_iff, decide_eq_false_iff_not] at hc
          by_cases h : i = 210
          · rw [h]
          · rw [List.take_of_length_le (show ds.length ≤ 210 by omega), List.take_of_length_le (show ds.length ≤ i by omega)]
        rw [← hend] at hall
        refine W.exit (hK2 _ ?_)
        refine W.join 4 (.val (.bool (decide ((ds.length : Int) ≤ 210) && decide ((cs.length : Int) ≤ 210)))) [] (W.region ?_) ?_
        · skip
          refine WO.go 4 (ds := [some 23, some 24, some 25, some 26, some 27, some 28, some 29, some 30, some 4]) rfl ?_
          simp only [sx, ty, Bool.false_eq_true, Int.reduceEq, Int.reduceLT, Nat.reduceAdd, Nat.reduceSub, Nat.reduceMul, Nat.reduceLT, Nat.reduceLeDiff, Nat.reduceEqDiff, List.reduceReplicate, reduceIte]
          refine WO.cases 26 _ rfl (fun hg26 => ?_) (fun hg26 => ?_)
          · skip
            refine WO.go 5 (ds := [some 23, some 24, some 25, some 26, some 27, some 28, some 29, some 30, some 4]) rfl ?_
            simp only [sx, ty, Bool.false_eq_true, Int.reduceEq, Int.reduceLT, Nat.reduceAdd, Nat.reduceSub, Nat.reduceMul, Nat.reduceLT, Nat.reduceLeDiff, Nat.reduceEqDiff, List.reduceReplicate, reduceIte]
            with_reducible refine WO.nil ?_
            refine ⟨rfl, ?_, ⟨_, rfl⟩, by simp [Own.bnd, bndL, bnd, boxO], by simp⟩
            try rw [hg26]
            simp [getE, bnd, keepE]
          · skip
            refine WO.go 5 (ds := [some 23, some 24, some 25, some 26, some 27, some 28, some 29, some 30, some 4]) rfl ?_
            simp only [sx, ty, Bool.false_eq_true, Int.reduceEq, Int.reduceLT, Nat.reduceAdd, Nat.reduceSub, Nat.reduceMul, Nat.reduceLT, Nat.reduceLeDiff, Nat.reduceEqDiff, List.reduceReplicate, reduceIte]
            with_reducible refine WO.nil ?_
            refine ⟨rfl, ?_, ⟨_, rfl⟩, by simp [Own.bnd, bndL, bnd, boxO], by simp⟩
            try rw [hg26]
            simp [getE, bnd, keepE]
        · simp only [sx, ty, Bool.false_eq_true, Int.reduceEq, Int.reduceLT, Nat.reduceAdd, Nat.reduceSub, Nat.reduceMul, Nat.reduceLT, Nat.reduceLeDiff, Nat.reduceEqDiff, List.reduceReplicate, reduceIte, sxk]
          refine W.ret ⟨by simp, _, rfl, fun ρ w1 hb => ?_⟩
          simp only [den, few, hall, Bool.true_and, Value.bool.injEq]
          congr 1 <;> (apply decide_eq_decide.2; omega)
end Go.Proofs.Ytblagioibffgcaa
