/-
  Holdings: holdings.Costs: walk.
-/
import Derived.Test.YtblagioibffgcaaW2
set_option linter.unusedVariables false
set_option linter.unusedSimpArgs false
set_option maxHeartbeats 400000
namespace Go.Proofs.Ytblagioibffgcaa
open Go Go.SX Go.RowKit

/-- what Costs returns: the costs, and whether its arguments are right -/
def costsR (ds : List Dem) (cs : List Cop) (hall : Int) : List (List Int) × Int := if (valid ds cs && within 0 99 hall) = true then (costsF ds cs hall, 0) else ([], 1)
theorem costsR_bad {ds : List Dem} {cs : List Cop} {hall : Int} (h : (valid ds cs && within 0 99 hall) = false) : costsR ds cs hall = ([], 1) := by unfold costsR; rw [h]; rfl
theorem costsR_good {ds : List Dem} {cs : List Cop} {hall : Int} (h : (valid ds cs && within 0 99 hall) = true) : costsR ds cs hall = (costsF ds cs hall, 0) := by unfold costsR; rw [h]; rfl
theorem valid_lens {ds : List Dem} {cs : List Cop} (h : valid ds cs = true) : ds.length ≤ 200 ∧ cs.length ≤ 200 ∧ ∀ d, d ∈ ds → d.2.2.2.length ≤ 12 := by
  simp only [valid, validDs, validCs, Bool.and_eq_true, decide_eq_true_eq] at h
  refine ⟨h.1.1.1, h.2.1.1, fun d hd => ?_⟩
  have := List.all_eq_true.1 h.1.1.2 d hd
  simp only [validD, within, Bool.and_eq_true, decide_eq_true_eq] at this
  omega
/-- the rows that are there after i rounds -/
def RowsAt (S : Nat → Prop) (s : World) (ds : List Dem) (cs : List Cop) (hall : Int) (xs : List Value) : Prop :=
  ∀ (j : Nat) x, xs[j]? = some x → ∃ d, ds[j]? = some d ∧ rInts.rd S s [x] (cs.map fun c => costF d c hall)
set_option maxHeartbeats 1000000 in
/-- function 10 -/
theorem costs_spec {S S2 : Nat → Prop} {w : World} {v u : Value} {ds : List Dem} {cs : List Cop} (hl : rDems.rd S w [v] ds) (hl2 : rCops.rd S2 w [u] cs) (hall : Int) : Gives Try.prog 10 #[v, u, .int .i64 hall] w fun r w' =>
    ∃ p c, r = .tuple #[.slice p (costsR ds cs hall).1.length c, .int .i64 (costsR ds cs hall).2] ∧ rRows.rd (fun b => w.heap.size ≤ b) w' [.slice p (costsR ds cs hall).1.length c] (costsR ds cs hall).1 := by
  obtain ⟨p, c, rfl, hc1, hc2⟩ := Rp.slice_val hl
  obtain ⟨p2, c2, rfl, hc3, hc4⟩ := Rp.slice_val hl2
  have hl : (Rp.slice rDem).rd (fun _ => True) w _ ds := Rp.any hl
  have hl2 : (Rp.slice rCop).rd (fun _ => True) w _ cs := Rp.any hl2
  refine gives_of [.val (.slice p ds.length c), .val (.slice p2 cs.length c2), .val (.int .i64 hall)] 54 [.tmp 6, .tmp 7] Try.func10 rfl rfl rfl (by simp) rfl rfl ?_
  refine W.pure (ds := []) rfl fun K1 hK1 => ?_
  simp only [sx, ty, Bool.false_eq_true, Int.reduceEq, Int.reduceLT, Nat.reduceAdd, Nat.reduceSub, Nat.reduceMul, Nat.reduceLT, Nat.reduceLeDiff, Nat.reduceEqDiff, List.reduceReplicate, reduceIte]; with_reducible refine hK1 _ ?_; clear hK1
  refine W.seqK fun K2 hK2 => ?_
  refine W.join 23 (.val (.bool (!valid ds cs || ![hall].all (within 0 99)))) [0, 1, 2] (W.region ?_) ?_
  · skip
    refine WO.go 2 (ds := [some 14, some 15, some 16, some 17, some 18, some 19, some 20, some 21, some 22, some 23]) rfl ?_
    simp only [sx, ty, Bool.false_eq_true, Int.reduceEq, Int.reduceLT, Nat.reduceAdd, Nat.reduceSub, Nat.reduceMul, Nat.reduceLT, Nat.reduceLeDiff, Nat.reduceEqDiff, List.reduceReplicate, reduceIte]
    refine WO.call (.bool (valid ds cs)) (ds := [some 14, some 15, some 16, some 17, some 18, some 19, some 20, some 21, some 22, some 23]) rfl rfl rfl rfl co12 (fun ρ w1 hb => valid_spec (Rp.now hl (hb.first (by simp))) (Rp.now hl2 (hb.first (by simp)))) ?_
    refine WO.go 2 (ds := [some 14, some 15, some 16, some 17, some 18, some 19, some 20, some 21, some 22, some 23]) rfl ?_
    simp only [sx, ty, Bool.false_eq_true, Int.reduceEq, Int.reduceLT, Nat.reduceAdd, Nat.reduceSub, Nat.reduceMul, Nat.reduceLT, Nat.reduceLeDiff, Nat.reduceEqDiff, List.reduceReplicate, reduceIte]
    refine WO.cases 18 _ rfl (fun hg18 => ?_) (fun hg18 => ?_)
    · skip
      refine WO.go 5 (ds := [some 14, some 15, some 16, some 17, some 18, some 19, some 20, some 21, some 22, some 23]) rfl ?_
      simp only [sx, ty, Bool.false_eq_true, Int.reduceEq, Int.reduceLT, Nat.reduceAdd, Nat.reduceSub, Nat.reduceMul, Nat.reduceLT, Nat.reduceLeDiff, Nat.reduceEqDiff, List.reduceReplicate, reduceIte]
      with_reducible refine WO.nil ?_
      refine ⟨rfl, ?_, ⟨_, rfl⟩, by simp [Own.bnd, bndL, bnd, boxO], by simp⟩
      try rw [hg18]
      simp [getE, bnd, keepE]
    · skip
      refine WO.go 2 (ds := [some 14, some 15, some 16, some 17, some 18, some 19, some 20, some 21, some 22, some 23]) rfl ?_
      simp only [sx, ty, Bool.false_eq_true, Int.reduceEq, Int.reduceLT, Nat.reduceAdd, Nat.reduceSub, Nat.reduceMul, Nat.reduceLT, Nat.reduceLeDiff, Nat.reduceEqDiff, List.reduceReplicate, reduceIte]
      refine WO.call (.bool ([hall].all (within 0 99))) (ds := [some 14, some 15, some 16, some 17, some 18, some 19, some 20, some 21, some 22, some 23]) rfl rfl rfl rfl co19 (fun ρ w1 hb => within_spec (own_ints (xs := [hall]) hb rfl rfl rfl (by simp)) _ _) ?_
      refine WO.go 2 (ds := [some 14, some 15, some 16, some 17, some 18, some 19, some 20, some 21, some 22, some 23]) rfl ?_
      simp only [sx, ty, Bool.false_eq_true, Int.reduceEq, Int.reduceLT, Nat.reduceAdd, Nat.reduceSub, Nat.reduceMul, Nat.reduceLT, Nat.reduceLeDiff, Nat.reduceEqDiff, List.reduceReplicate, reduceIte]
      with_reducible refine WO.nil ?_
      refine ⟨rfl, ?_, ⟨_, rfl⟩, by simp [Own.bnd, bndL, bnd, boxO], by simp⟩
      try rw [hg18]
      simp [getE, bnd, keepE]
  · simp only [sx, ty, Bool.false_eq_true, Int.reduceEq, Int.reduceLT, Nat.reduceAdd, Nat.reduceSub, Nat.reduceMul, Nat.reduceLT, Nat.reduceLeDiff, Nat.reduceEqDiff, List.reduceReplicate, reduceIte, sxk]
    refine W.cond rfl rfl (fun hc => ?_) (fun hc => ?_)
    · skip
      have hbad : (valid ds cs && within 0 99 hall) = false := by simpa [← Bool.not_and] using hc
      refine W.pure (ds := []) rfl fun K4 hK4 => ?_
      simp only [sx, ty, Bool.false_eq_true, Int.reduceEq, Int.reduceLT, Nat.reduceAdd, Nat.reduceSub, Nat.reduceMul, Nat.reduceLT, Nat.reduceLeDiff, Nat.reduceEqDiff, List.reduceReplicate, reduceIte]; with_reducible refine hK4 _ ?_; clear hK4
      refine W.ret ⟨by simp, _, rfl, fun ρ w1 hb => ?_⟩
      rw [costsR_bad hbad]
      exact ⟨none, 0, rfl, Rp.slice_nil (by omega)⟩
    · skip
      have hgood : (valid ds cs && within 0 99 hall) = true := by simpa using hc
      have hv : valid ds cs = true := by simp only [Bool.and_eq_true] at hgood; exact hgood.1
      obtain ⟨hds, hcs, heds⟩ := valid_lens hv
      refine W.skip (hK2 _ ?_)
      refine W.pure (ds := []) rfl fun K5 hK5 => ?_
      simp only [sx, ty, Bool.false_eq_true, Int.reduceEq, Int.reduceLT, Nat.reduceAdd, Nat.reduceSub, Nat.reduceMul, Nat.reduceLT, Nat.reduceLeDiff, Nat.reduceEqDiff, List.reduceReplicate, reduceIte]; with_reducible refine hK5 _ ?_; clear hK5
      refine W.seqK fun K6 hK6 => ?_
      refine W.pure (ds := []) rfl fun K7 hK7 => ?_
      simp only [sx, ty, Bool.false_eq_true, Int.reduceEq, Int.reduceLT, Nat.reduceAdd, Nat.reduceSub, Nat.reduceMul, Nat.reduceLT, Nat.reduceLeDiff, Nat.reduceEqDiff, List.reduceReplicate, reduceIte]; with_reducible refine hK7 _ ?_; clear hK7
      refine W.block ?_
      refine W.ownNil 33 1 ?_
      refine W.snapE (S := fun _ => True) (s := w) (fun _ => False) (by simp [St.pushO]) (fun _ h => h.elim) ?_
      simp only [sx, ty, Bool.false_eq_true, Int.reduceEq, Int.reduceLT, Nat.reduceAdd, Nat.reduceSub, Nat.reduceMul, Nat.reduceLT, Nat.reduceLeDiff, Nat.reduceEqDiff, List.reduceReplicate, reduceIte]
      refine W.loopO (X := Nat × Option Addr × Nat × List Value × (Nat → Prop) × World) [1, 2, 24, 25] (fun x => [(8, .val (.slice x.2.1 x.1 x.2.2.1)), (26, .val (.int .i64 x.1))]) (fun x => [.slice 33 1 (.slice x.2.1 x.1 x.2.2.1) x.1 x.2.2.2.1]) (fun x => [(x.2.2.2.2.1, x.2.2.2.2.2), ((fun _ => True), w)]) (fun x => x.1 ≤ ds.length ∧ x.2.2.2.1.length = x.1 ∧ RowsAt x.2.2.2.2.1 x.2.2.2.2.2 ds cs hall x.2.2.2.1 ∧ (∀ b, x.2.2.2.2.1 b → w.heap.size ≤ b)) (fun x => ds.length - x.1) (0, none, 0, [], (fun _ => False), w) ?_ ?_ ?_
      · exact ⟨rfl, by simp [getE, bnd, keepE], ⟨[], by simp⟩, by simp [Own.bnd, bndL, bnd, boxO], by simp⟩
      · skip
        exact ⟨Nat.zero_le _, rfl, fun j x h => by simp at h, fun b h => h.elim⟩
      · rintro ⟨i, p3, c3, xs, S4, s4⟩ ⟨hi, hxl, hrows, hnew⟩
        simp only at hi hxl hrows hnew
        simp only [sx, ty, Bool.false_eq_true, Int.reduceEq, Int.reduceLT, Nat.reduceAdd, Nat.reduceSub, Nat.reduceMul, Nat.reduceLT, Nat.reduceLeDiff, Nat.reduceEqDiff, List.reduceReplicate, reduceIte, sxk]
        refine W.pure (ds := []) rfl fun K8 hK8 => ?_
        simp only [sx, ty, Bool.false_eq_true, Int.reduceEq, Int.reduceLT, Nat.reduceAdd, Nat.reduceSub, Nat.reduceMul, Nat.reduceLT, Nat.reduceLeDiff, Nat.reduceEqDiff, List.reduceReplicate, reduceIte]; with_reducible refine hK8 _ ?_; clear hK8
        refine W.seqK fun K9 hK9 => ?_
        refine W.cond rfl rfl (fun hc => ?_) (fun hc => ?_)
        · skip
          have hlt : i < ds.length := by simpa using hc
          have hle5 := heds _ (List.getElem_mem hlt)
          refine W.skip (hK9 _ ?_)
          refine W.seqK fun K10 hK10 => ?_
          refine W.block ?_
          refine W.seqK fun K11 hK11 => W.region ?_
          refine WO.elem (y := ds[i]) hl (by simp [St.put]) (ds := []) rfl rfl rfl (by simp [St.put]) (fun _ => rfl) rfl rfl rfl rfl rfl el22 agg35 sz35 (.inl rfl) (by omega) (getIdx ds hlt) fun p ces hces => ?_
          obtain ⟨p5, c5, rfl, hed, hel⟩ := rDem_open hces
          have hd5 := hces
          clear hces
          refine WO.go 2 (ds := []) rfl ?_
          simp only [sx, ty, Bool.false_eq_true, Int.reduceEq, Int.reduceLT, Nat.reduceAdd, Nat.reduceSub, Nat.reduceMul, Nat.reduceLT, Nat.reduceLeDiff, Nat.reduceEqDiff, List.reduceReplicate, reduceIte]
          with_reducible refine WO.nil ?_
          refine hK11 _ ?_; clear hK11
          refine W.seqK fun K12 hK12 => W.region ?_
          refine WO.go 2 (ds := []) rfl ?_
          simp only [sx, ty, Bool.false_eq_true, Int.reduceEq, Int.reduceLT, Nat.reduceAdd, Nat.reduceSub, Nat.reduceMul, Nat.reduceLT, Nat.reduceLeDiff, Nat.reduceEqDiff, List.reduceReplicate, reduceIte]
          refine WO.make (ds := []) rfl rfl rfl rfl rfl rfl ek33 (Nat.le_refl _) (by rw [maxLen_eq]; omega) (by omega) fun b => ?_
          rw [fillL_zero (fun j => Value.int .i64 (costF ds[i] (cs[j]?.getD default) hall))]
          refine WO.go 1 (ds := []) rfl ?_
          simp only [sx, ty, Bool.false_eq_true, Int.reduceEq, Int.reduceLT, Nat.reduceAdd, Nat.reduceSub, Nat.reduceMul, Nat.reduceLT, Nat.reduceLeDiff, Nat.reduceEqDiff, List.reduceReplicate, reduceIte]
          with_reducible refine WO.nil ?_
          refine hK12 _ ?_; clear hK12
          refine W.seqK fun K13 hK13 => ?_
          refine W.pure (ds := []) rfl fun K14 hK14 => ?_
          simp only [sx, ty, Bool.false_eq_true, Int.reduceEq, Int.reduceLT, Nat.reduceAdd, Nat.reduceSub, Nat.reduceMul, Nat.reduceLT, Nat.reduceLeDiff, Nat.reduceEqDiff, List.reduceReplicate, reduceIte]; with_reducible refine hK14 _ ?_; clear hK14
          refine W.block ?_
          refine W.loopO (X := Nat) [1, 2, 8, 10, 11, 24, 25, 26, 33, 34] (fun x => [(35, .val (.int .i64 x))]) (fun x => [.slice 33 1 (.slice p3 i c3) i xs, .cells 35 [.val (.int .i64 ds[i].1), .val (.int .i64 ds[i].2.1), .val (.int .i64 ds[i].2.2.1), .val (.slice p5 ds[i].2.2.2.length c5)], .slice 3 1 (.slice (some ⟨b, 0, none⟩) cs.length cs.length) cs.length (fillL (fun j => Value.int .i64 (costF ds[i] (cs[j]?.getD default) hall)) (.int .i64 0) cs.length x)]) (fun x => [(S4, s4), ((fun _ => True), w)]) (fun x => x ≤ cs.length) (fun x => cs.length - x) 0 ?_ ?_ ?_
          · exact ⟨rfl, by simp [getE, bnd, keepE], ⟨[], by simp⟩, by simp [Own.bnd, bndL, bnd, boxO], by simp⟩
          · skip
            exact Nat.zero_le _
          · rintro k hkl
            simp only [sx, ty, Bool.false_eq_true, Int.reduceEq, Int.reduceLT, Nat.reduceAdd, Nat.reduceSub, Nat.reduceMul, Nat.reduceLT, Nat.reduceLeDiff, Nat.reduceEqDiff, List.reduceReplicate, reduceIte, sxk]
            refine W.pure (ds := []) rfl fun K15 hK15 => ?_
            simp only [sx, ty, Bool.false_eq_true, Int.reduceEq, Int.reduceLT, Nat.reduceAdd, Nat.reduceSub, Nat.reduceMul, Nat.reduceLT, Nat.reduceLeDiff, Nat.reduceEqDiff, List.reduceReplicate, reduceIte]; with_reducible refine hK15 _ ?_; clear hK15
            refine W.seqK fun K16 hK16 => ?_
            refine W.cond rfl rfl (fun hc => ?_) (fun hc => ?_)
            · skip
              have hk : k < cs.length := by simpa using hc
              refine W.skip (hK16 _ ?_)
              refine W.seqK fun K17 hK17 => ?_
              refine W.block ?_
              refine W.seqK fun K18 hK18 => W.region ?_
              refine WO.go 1 (ds := []) rfl ?_
              simp only [sx, ty, Bool.false_eq_true, Int.reduceEq, Int.reduceLT, Nat.reduceAdd, Nat.reduceSub, Nat.reduceMul, Nat.reduceLT, Nat.reduceLeDiff, Nat.reduceEqDiff, List.reduceReplicate, reduceIte]
              refine WO.elem (y := cs[k]) hl2 (by simp [St.put]) (ds := []) rfl rfl rfl (by simp [St.put]) (fun _ => rfl) rfl rfl rfl rfl rfl el23 agg37 sz37 (.inl rfl) (by omega) (getIdx cs hk) fun p ces hces => ?_
              obtain rfl := rCop_open hces
              refine WO.go 3 (ds := []) rfl ?_
              simp only [sx, ty, Bool.false_eq_true, Int.reduceEq, Int.reduceLT, Nat.reduceAdd, Nat.reduceSub, Nat.reduceMul, Nat.reduceLT, Nat.reduceLeDiff, Nat.reduceEqDiff, List.reduceReplicate, reduceIte]
              with_reducible refine WO.nil ?_
              refine hK18 _ ?_; clear hK18
              refine W.region ?_
              refine WO.go 5 (ds := []) rfl ?_
              simp only [sx, ty, Bool.false_eq_true, Int.reduceEq, Int.reduceLT, Nat.reduceAdd, Nat.reduceSub, Nat.reduceMul, Nat.reduceLT, Nat.reduceLeDiff, Nat.reduceEqDiff, List.reduceReplicate, reduceIte]
              refine WO.call (.int .i64 (costF ds[i] cs[k] hall)) (ds := []) rfl rfl rfl rfl co20 (fun ρ w1 hb => by have := cost_spec (Rp.now hd5 (hb.first (by simp))) (Rp.now hces (hb.first (by simp))) hall (by omega); simpa [denL_eq, den, Function.comp_def] using this) ?_
              simp only [sx, ty, Bool.false_eq_true, Int.reduceEq, Int.reduceLT, Nat.reduceAdd, Nat.reduceSub, Nat.reduceMul, Nat.reduceLT, Nat.reduceLeDiff, Nat.reduceEqDiff, List.reduceReplicate, reduceIte]
              refine WO.index (ds := []) rfl rfl rfl rfl rfl rfl el33 (by omega) (by omega) ?_
              simp only [sx, ty, Bool.false_eq_true, Int.reduceEq, Int.reduceLT, Nat.reduceAdd, Nat.reduceSub, Nat.reduceMul, Nat.reduceLT, Nat.reduceLeDiff, Nat.reduceEqDiff, List.reduceReplicate, reduceIte]
              refine WO.storeOwn (k := 2) (i := k) (ds := []) rfl rfl rfl rfl rfl rfl rfl hk rfl rfl sz3 ?_
              rw [show (fillL (fun j => Value.int .i64 (costF ds[i] (cs[j]?.getD default) hall)) (.int .i64 0) cs.length k).set k (.int .i64 (costF ds[i] cs[k] hall)) = fillL (fun j => Value.int .i64 (costF ds[i] (cs[j]?.getD default) hall)) (.int .i64 0) cs.length (k + 1) by rw [← fillL_set]; simp only [getIdx cs hk, Option.getD_some]]
              simp only [sx, ty, Bool.false_eq_true, Int.reduceEq, Int.reduceLT, Nat.reduceAdd, Nat.reduceSub, Nat.reduceMul, Nat.reduceLT, Nat.reduceLeDiff, Nat.reduceEqDiff, List.reduceReplicate, reduceIte]
              with_reducible refine WO.nil ?_
              refine hK17 _ ?_
              refine W.region ?_
              refine WO.go 2 (ds := []) rfl ?_
              simp only [sx, ty, Bool.false_eq_true, Int.reduceEq, Int.reduceLT, Nat.reduceAdd, Nat.reduceSub, Nat.reduceMul, Nat.reduceLT, Nat.reduceLeDiff, Nat.reduceEqDiff, List.reduceReplicate, reduceIte]
              with_reducible refine WO.nil ?_
              refine ⟨k + 1, ?_, by first | omega | (simp; omega), rfl, by simp [getE, bnd, keepE, wrap_succ (show k + 1 ≤ 9223372036854775807 by omega)], ⟨_, rfl⟩, by simp [Own.bnd, bndL, bnd, boxO], by simp⟩
              exact hk
            · skip
              have hke : k = cs.length := by have : cs.length ≤ k := by simpa using hc
                                             omega
              subst hke
              refine W.exit (hK13 _ ?_)
              refine W.region ?_
              refine WO.go 3 (ds := []) rfl ?_
              simp only [sx, ty, Bool.false_eq_true, Int.reduceEq, Int.reduceLT, Nat.reduceAdd, Nat.reduceSub, Nat.reduceMul, Nat.reduceLT, Nat.reduceLeDiff, Nat.reduceEqDiff, List.reduceReplicate, reduceIte]
              refine WO.append (k := 0) (m := 1) [.slice (some ⟨b, 0, none⟩) cs.length cs.length] (ds := []) rfl rfl rfl rfl rfl rfl rfl ek26 (news_own (k2 := 3) rfl fun _ => rfl) rfl (by simp [Value.oneCell']) (by rw [maxLen_eq]; omega) (by omega) fun p6 c6 => ?_
              refine WO.go 1 (ds := []) rfl ?_
              simp only [sx, ty, Bool.false_eq_true, Int.reduceEq, Int.reduceLT, Nat.reduceAdd, Nat.reduceSub, Nat.reduceMul, Nat.reduceLT, Nat.reduceLeDiff, Nat.reduceEqDiff, List.reduceReplicate, reduceIte]
              with_reducible refine WO.nil ?_
              refine hK10 _ ?_
              refine W.region ?_
              refine WO.go 2 (ds := []) rfl ?_
              simp only [sx, ty, Bool.false_eq_true, Int.reduceEq, Int.reduceLT, Nat.reduceAdd, Nat.reduceSub, Nat.reduceMul, Nat.reduceLT, Nat.reduceLeDiff, Nat.reduceEqDiff, List.reduceReplicate, reduceIte]
              refine WO.snapK [2] (fun S s => RowsAt S s ds cs hall (xs ++ [.slice (some ⟨b, 0, none⟩) cs.length cs.length]) ∧ ∀ b, S b → w.heap.size ≤ b) (fun ρ w1 hb => ?_) (fun S s hSs => ?_)
              · refine ⟨joinS S4 s4 ρ _ [2], ⟨fun j x hx => ?_, ?_⟩, joinS_apart hb (by simp) [2]⟩
                · rcases Nat.lt_or_ge j xs.length with hj | hj
                  · rw [List.getElem?_append_left hj] at hx
                    obtain ⟨d, h1, h2⟩ := hrows j x hx
                    exact ⟨d, h1, Rp.joinS h2 hb (by simp) [2]⟩
                  · rw [List.getElem?_append_right hj] at hx
                    have hj0 := (List.getElem?_eq_some_iff.1 hx).1
                    simp only [List.length_cons, List.length_nil] at hj0
                    obtain rfl : j = xs.length := by omega
                    simp only [Nat.sub_self, List.getElem?_cons_zero, Option.some.injEq] at hx
                    subst hx
                    rw [hxl]
                    refine ⟨ds[i], getIdx ds hlt, own_slice (A := rInt) (k := 2) hb rfl (by simp) (fun b hb' => .inr ⟨2, _, by simp, rfl, hb'⟩) fun j y hy => ?_⟩
                    rw [List.getElem?_map] at hy
                    have hjl : j < cs.length := by
                      by_cases h : j < cs.length
                      · exact h
                      · rw [List.getElem?_eq_none (by omega)] at hy; cases hy
                    rw [getIdx cs hjl] at hy
                    obtain rfl := Option.some.inj hy
                    rw [show rInt.sz = 1 from rfl, take_one _ j _ (fillL_get _ _ _ j hjl), getIdx cs hjl]
                    rfl
                · rintro b (⟨h1, _⟩ | ⟨k, o, h1, h2, h3⟩)
                  · exact hnew b h1
                  · exact own_new hb (by simp) (by rw [nth_eq]; exact h2) h3
              · simp only [sx, ty, Bool.false_eq_true, Int.reduceEq, Int.reduceLT, Nat.reduceAdd, Nat.reduceSub, Nat.reduceMul, Nat.reduceLT, Nat.reduceLeDiff, Nat.reduceEqDiff, List.reduceReplicate, reduceIte, sxd]
                with_reducible refine WO.nil ?_
                refine ⟨(i + 1, p6, c6, xs ++ [.slice (some ⟨b, 0, none⟩) cs.length cs.length], S, s), ⟨hlt, by simp [hxl], hSs.1, hSs.2⟩, by show ds.length - (i + 1) < ds.length - i; omega, rfl, by simp [getE, bnd, keepE, wrap_succ (show i + 1 ≤ 9223372036854775807 by omega)], ⟨_, rfl⟩, by simp [Own.bnd, bndL, bnd], by simp⟩
        · skip
          have hie : i = ds.length := by have : ds.length ≤ i := by simpa using hc
                                         omega
          subst hie
          refine W.exit (hK6 _ ?_)
          refine W.pure (ds := []) rfl fun K19 hK19 => ?_
          simp only [sx, ty, Bool.false_eq_true, Int.reduceEq, Int.reduceLT, Nat.reduceAdd, Nat.reduceSub, Nat.reduceMul, Nat.reduceLT, Nat.reduceLeDiff, Nat.reduceEqDiff, List.reduceReplicate, reduceIte]; with_reducible refine hK19 _ ?_; clear hK19
          refine W.ret ⟨by simp, _, rfl, fun ρ w1 hb => ?_⟩
          rw [costsR_good hgood]
          simp only [costsF, List.length_map]
          refine ⟨p3, c3, rfl, own_slice (A := rInts) (k := 0) hb rfl (by simp) (fun b hb' => own_new hb (by simp) (k := 0) rfl hb') fun j y hy => ?_⟩
          rw [List.getElem?_map] at hy
          have hjl : j < ds.length := by
            by_cases h : j < ds.length
            · exact h
            · rw [List.getElem?_eq_none (by omega)] at hy; cases hy
          rw [getIdx ds hjl] at hy
          obtain rfl := Option.some.inj hy
          obtain ⟨d, h1, h2⟩ := hrows j xs[j] (getIdx xs (by omega))
          rw [getIdx ds hjl] at h1
          obtain rfl := Option.some.inj h1
          rw [show rInts.sz = 1 from rfl, take_one _ j _ (getIdx xs (by omega))]
          exact Rp.mono _ (Rp.keep h2 (hb.at (by simp))) fun b hb' _ => hnew b hb'
end Go.Proofs.Ytblagioibffgcaa
