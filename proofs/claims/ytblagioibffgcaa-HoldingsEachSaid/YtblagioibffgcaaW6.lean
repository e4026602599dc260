/-
  Holdings: the reference's Costs and Same, and the law's helpers: walks.
-/
import Derived.Test.YtblagioibffgcaaW5
set_option linter.unusedVariables false
set_option linter.unusedSimpArgs false
set_option maxHeartbeats 1000000
namespace Go.Proofs.Ytblagioibffgcaa
open Go Go.SX Go.RowKit
/-- function 11 -/
theorem rcosts_spec {S S2 : Nat → Prop} {w : World} {v u : Value} {ds : List Dem} {cs : List Cop} (hl : rDems.rd S w [v] ds) (hl2 : rCops.rd S2 w [u] cs) (hall : Int) : Gives Try.prog 11 #[v, u, .int .i64 hall] w fun r w' =>
    ∃ p c, r = .tuple #[.slice p (costsR ds cs hall).1.length c, .int .i64 (costsR ds cs hall).2] ∧ rRows.rd (fun b => w.heap.size ≤ b) w' [.slice p (costsR ds cs hall).1.length c] (costsR ds cs hall).1 := by
  obtain ⟨p, c, rfl, hc1, hc2⟩ := Rp.slice_val hl
  obtain ⟨p2, c2, rfl, hc3, hc4⟩ := Rp.slice_val hl2
  have hl : (Rp.slice rDem).rd (fun _ => True) w _ ds := Rp.any hl
  have hl2 : (Rp.slice rCop).rd (fun _ => True) w _ cs := Rp.any hl2
  refine gives_of [.val (.slice p ds.length c), .val (.slice p2 cs.length c2), .val (.int .i64 hall)] 53 [.tmp 6, .tmp 7] Try.func11 rfl rfl rfl (by simp) rfl rfl ?_
  refine W.pure (ds := []) rfl fun K1 hK1 => ?_
  simp only [sx, ty, Bool.false_eq_true, Int.reduceEq, Int.reduceLT, Nat.reduceAdd, Nat.reduceSub, Nat.reduceMul, Nat.reduceLT, Nat.reduceLeDiff, Nat.reduceEqDiff, List.reduceReplicate, reduceIte]; with_reducible refine hK1 _ ?_; clear hK1
  refine W.seqK fun K2 hK2 => W.region ?_
  refine WO.go 2 (ds := []) rfl ?_
  simp only [sx, ty, Bool.false_eq_true, Int.reduceEq, Int.reduceLT, Nat.reduceAdd, Nat.reduceSub, Nat.reduceMul, Nat.reduceLT, Nat.reduceLeDiff, Nat.reduceEqDiff, List.reduceReplicate, reduceIte]
  refine WO.call (.bool (valid ds cs)) (ds := []) rfl rfl rfl rfl co13 (fun ρ w1 hb => rvalid_spec (Rp.now hl (hb.first (by simp))) (Rp.now hl2 (hb.first (by simp)))) ?_
  refine WO.go 1 (ds := []) rfl ?_
  simp only [sx, ty, Bool.false_eq_true, Int.reduceEq, Int.reduceLT, Nat.reduceAdd, Nat.reduceSub, Nat.reduceMul, Nat.reduceLT, Nat.reduceLeDiff, Nat.reduceEqDiff, List.reduceReplicate, reduceIte]
  with_reducible refine WO.nil ?_
  refine hK2 _ ?_; clear hK2
  refine W.seqK fun K3 hK3 => ?_
  refine W.join 22 (.val (.bool (!valid ds cs || !within 0 99 hall))) [0, 1, 2] (W.region ?_) ?_
  · skip
    refine WO.go 3 (ds := [some 16, some 17, some 18, some 19, some 20, some 21, some 22]) rfl ?_
    simp only [sx, ty, Bool.false_eq_true, Int.reduceEq, Int.reduceLT, Nat.reduceAdd, Nat.reduceSub, Nat.reduceMul, Nat.reduceLT, Nat.reduceLeDiff, Nat.reduceEqDiff, List.reduceReplicate, reduceIte]
    refine WO.cases 18 _ rfl (fun hg18 => ?_) (fun hg18 => ?_)
    · skip
      refine WO.go 4 (ds := [some 16, some 17, some 18, some 19, some 20, some 21, some 22]) rfl ?_
      simp only [sx, ty, Bool.false_eq_true, Int.reduceEq, Int.reduceLT, Nat.reduceAdd, Nat.reduceSub, Nat.reduceMul, Nat.reduceLT, Nat.reduceLeDiff, Nat.reduceEqDiff, List.reduceReplicate, reduceIte]
      with_reducible refine WO.nil ?_
      refine ⟨rfl, ?_, ⟨_, rfl⟩, by simp [Own.bnd, bndL, bnd, boxO], by simp⟩
      try rw [hg18]
      simp [getE, bnd, keepE]
    · skip
      refine WO.go 1 (ds := [some 16, some 17, some 18, some 19, some 20, some 21, some 22]) rfl ?_
      simp only [sx, ty, Bool.false_eq_true, Int.reduceEq, Int.reduceLT, Nat.reduceAdd, Nat.reduceSub, Nat.reduceMul, Nat.reduceLT, Nat.reduceLeDiff, Nat.reduceEqDiff, List.reduceReplicate, reduceIte]
      refine WO.call (.bool (within 0 99 hall)) (ds := [some 16, some 17, some 18, some 19, some 20, some 21, some 22]) rfl rfl rfl rfl co21 (fun ρ w1 hb => in_spec w1 _ _ _) ?_
      refine WO.go 2 (ds := [some 16, some 17, some 18, some 19, some 20, some 21, some 22]) rfl ?_
      simp only [sx, ty, Bool.false_eq_true, Int.reduceEq, Int.reduceLT, Nat.reduceAdd, Nat.reduceSub, Nat.reduceMul, Nat.reduceLT, Nat.reduceLeDiff, Nat.reduceEqDiff, List.reduceReplicate, reduceIte]
      with_reducible refine WO.nil ?_
      refine ⟨rfl, ?_, ⟨_, rfl⟩, by simp [Own.bnd, bndL, bnd, boxO], by simp⟩
      try rw [hg18]
      simp [getE, bnd, keepE]
  · simp only [sx, ty, Bool.false_eq_true, Int.reduceEq, Int.reduceLT, Nat.reduceAdd, Nat.reduceSub, Nat.reduceMul, Nat.reduceLT, Nat.reduceLeDiff, Nat.reduceEqDiff, List.reduceReplicate, reduceIte, sxk]
    refine W.cond rfl rfl (fun hc => ?_) (fun hc => ?_)
    · skip
      have hbad : (valid ds cs && within 0 99 hall) = false := by simpa [← Bool.not_and] using hc
      refine W.pure (ds := []) rfl fun K5 hK5 => ?_
      simp only [sx, ty, Bool.false_eq_true, Int.reduceEq, Int.reduceLT, Nat.reduceAdd, Nat.reduceSub, Nat.reduceMul, Nat.reduceLT, Nat.reduceLeDiff, Nat.reduceEqDiff, List.reduceReplicate, reduceIte]; with_reducible refine hK5 _ ?_; clear hK5
      refine W.ret ⟨by simp, _, rfl, fun ρ w1 hb => ?_⟩
      rw [costsR_bad hbad]
      exact ⟨none, 0, rfl, Rp.slice_nil (by omega)⟩
    · skip
      have hgood : (valid ds cs && within 0 99 hall) = true := by simpa using hc
      have hv : valid ds cs = true := by simp only [Bool.and_eq_true] at hgood; exact hgood.1
      obtain ⟨hds, hcs, heds⟩ := valid_lens hv
      refine W.skip (hK3 _ ?_)
      refine W.pure (ds := []) rfl fun K6 hK6 => ?_
      simp only [sx, ty, Bool.false_eq_true, Int.reduceEq, Int.reduceLT, Nat.reduceAdd, Nat.reduceSub, Nat.reduceMul, Nat.reduceLT, Nat.reduceLeDiff, Nat.reduceEqDiff, List.reduceReplicate, reduceIte]; with_reducible refine hK6 _ ?_; clear hK6
      refine W.seqK fun K7 hK7 => ?_
      refine W.pure (ds := []) rfl fun K8 hK8 => ?_
      simp only [sx, ty, Bool.false_eq_true, Int.reduceEq, Int.reduceLT, Nat.reduceAdd, Nat.reduceSub, Nat.reduceMul, Nat.reduceLT, Nat.reduceLeDiff, Nat.reduceEqDiff, List.reduceReplicate, reduceIte]; with_reducible refine hK8 _ ?_; clear hK8
      refine W.block ?_
      refine W.ownNil 33 1 ?_
      refine W.snapE (S := fun _ => True) (s := w) (fun _ => False) (by simp [St.pushO]) (fun _ h => h.elim) ?_
      simp only [sx, ty, Bool.false_eq_true, Int.reduceEq, Int.reduceLT, Nat.reduceAdd, Nat.reduceSub, Nat.reduceMul, Nat.reduceLT, Nat.reduceLeDiff, Nat.reduceEqDiff, List.reduceReplicate, reduceIte]
      refine W.loopO (X := Nat × Option Addr × Nat × List Value × (Nat → Prop) × World) [0, 1, 2] (fun x => [(9, .val (.slice x.2.1 x.1 x.2.2.1)), (10, .val (.int .i64 x.1))]) (fun x => [.slice 33 1 (.slice x.2.1 x.1 x.2.2.1) x.1 x.2.2.2.1]) (fun x => [(x.2.2.2.2.1, x.2.2.2.2.2), ((fun _ => True), w)]) (fun x => x.1 ≤ ds.length ∧ x.2.2.2.1.length = x.1 ∧ RowsAt x.2.2.2.2.1 x.2.2.2.2.2 ds cs hall x.2.2.2.1 ∧ (∀ b, x.2.2.2.2.1 b → w.heap.size ≤ b)) (fun x => ds.length - x.1) (0, none, 0, [], (fun _ => False), w) ?_ ?_ ?_
      · exact ⟨rfl, by simp [getE, bnd, keepE], ⟨[], by simp⟩, by simp [Own.bnd, bndL, bnd, boxO], by simp⟩
      · skip
        exact ⟨Nat.zero_le _, rfl, fun j x h => by simp at h, fun b h => h.elim⟩
      · rintro ⟨i, p3, c3, xs, S4, s4⟩ ⟨hi, hxl, hrows, hnew⟩
        simp only at hi hxl hrows hnew
        simp only [sx, ty, Bool.false_eq_true, Int.reduceEq, Int.reduceLT, Nat.reduceAdd, Nat.reduceSub, Nat.reduceMul, Nat.reduceLT, Nat.reduceLeDiff, Nat.reduceEqDiff, List.reduceReplicate, reduceIte, sxk]
        refine W.seqK fun K9 hK9 => ?_
        refine W.pure (ds := []) rfl fun K10 hK10 => ?_
        simp only [sx, ty, Bool.false_eq_true, Int.reduceEq, Int.reduceLT, Nat.reduceAdd, Nat.reduceSub, Nat.reduceMul, Nat.reduceLT, Nat.reduceLeDiff, Nat.reduceEqDiff, List.reduceReplicate, reduceIte]; with_reducible refine hK10 _ ?_; clear hK10
        refine W.cond rfl rfl (fun hc => ?_) (fun hc => ?_)
        · skip
          have hlt : i < ds.length := by simpa using hc
          have hle5 := heds _ (List.getElem_mem hlt)
          refine W.skip (hK9 _ ?_)
          refine W.seqK fun K11 hK11 => ?_
          refine W.block ?_
          refine W.pure (ds := []) rfl fun K12 hK12 => ?_
          simp only [sx, ty, Bool.false_eq_true, Int.reduceEq, Int.reduceLT, Nat.reduceAdd, Nat.reduceSub, Nat.reduceMul, Nat.reduceLT, Nat.reduceLeDiff, Nat.reduceEqDiff, List.reduceReplicate, reduceIte]; with_reducible refine hK12 _ ?_; clear hK12
          refine W.seqK fun K13 hK13 => ?_
          refine W.pure (ds := []) rfl fun K14 hK14 => ?_
          simp only [sx, ty, Bool.false_eq_true, Int.reduceEq, Int.reduceLT, Nat.reduceAdd, Nat.reduceSub, Nat.reduceMul, Nat.reduceLT, Nat.reduceLeDiff, Nat.reduceEqDiff, List.reduceReplicate, reduceIte]; with_reducible refine hK14 _ ?_; clear hK14
          refine W.block ?_
          refine W.ownNil 3 1 ?_
          simp only [sx, ty, Bool.false_eq_true, Int.reduceEq, Int.reduceLT, Nat.reduceAdd, Nat.reduceSub, Nat.reduceMul, Nat.reduceLT, Nat.reduceLeDiff, Nat.reduceEqDiff, List.reduceReplicate, reduceIte]
          refine W.loopO (X := Nat × Option Addr × Nat) [0, 1, 2, 9, 10] (fun x => [(11, .val (.slice x.2.1 x.1 x.2.2)), (12, .val (.int .i64 x.1))]) (fun x => [.slice 33 1 (.slice p3 i c3) i xs, .slice 3 1 (.slice x.2.1 x.1 x.2.2) x.1 ((cs.take x.1).map fun c => Value.int .i64 (costF ds[i] c hall))]) (fun x => [(S4, s4), ((fun _ => True), w)]) (fun x => x.1 ≤ cs.length) (fun x => cs.length - x.1) (0, none, 0) ?_ ?_ ?_
          · exact ⟨rfl, by simp [getE, bnd, keepE], ⟨[], by simp⟩, by simp [Own.bnd, bndL, bnd, boxO], by simp⟩
          · skip
            exact Nat.zero_le _
          · rintro ⟨k, pr, cr⟩ hkl
            simp only at hkl
            simp only [sx, ty, Bool.false_eq_true, Int.reduceEq, Int.reduceLT, Nat.reduceAdd, Nat.reduceSub, Nat.reduceMul, Nat.reduceLT, Nat.reduceLeDiff, Nat.reduceEqDiff, List.reduceReplicate, reduceIte, sxk]
            refine W.seqK fun K15 hK15 => ?_
            refine W.pure (ds := []) rfl fun K16 hK16 => ?_
            simp only [sx, ty, Bool.false_eq_true, Int.reduceEq, Int.reduceLT, Nat.reduceAdd, Nat.reduceSub, Nat.reduceMul, Nat.reduceLT, Nat.reduceLeDiff, Nat.reduceEqDiff, List.reduceReplicate, reduceIte]; with_reducible refine hK16 _ ?_; clear hK16
            refine W.cond rfl rfl (fun hc => ?_) (fun hc => ?_)
            · skip
              have hk : k < cs.length := by simpa using hc
              refine W.skip (hK15 _ ?_)
              refine W.seqK fun K17 hK17 => ?_
              refine W.block ?_
              refine W.regionT' 11 [0] [1, 2, 3, 4, 5, 6, 7, 8, 9, 10] mixed (by kernel_rfl) ?_
              simp only [sx, ty, Bool.false_eq_true, Int.reduceEq, Int.reduceLT, Nat.reduceAdd, Nat.reduceSub, Nat.reduceMul, Nat.reduceLT, Nat.reduceLeDiff, Nat.reduceEqDiff, List.reduceReplicate, reduceIte, sxt, List.toList_toArray]
              refine WQ.go 2 (ds := []) rfl ?_
              simp only [sx, ty, Bool.false_eq_true, Int.reduceEq, Int.reduceLT, Nat.reduceAdd, Nat.reduceSub, Nat.reduceMul, Nat.reduceLT, Nat.reduceLeDiff, Nat.reduceEqDiff, List.reduceReplicate, reduceIte, sxq, Bool.false_eq_true]
              refine WQ.elem (y := ds[i]) hl (by simp [St.put]) (ds := []) rfl rfl rfl (by simp [St.put]) (fun _ => rfl) rfl rfl rfl rfl rfl el22 agg35 sz35 (.inl rfl) (by omega) (getIdx ds hlt) fun p ces hces => ?_
              obtain ⟨p5, c5, rfl, hed, hel⟩ := rDem_open hces
              have hd5 := hces
              clear hces
              refine WQ.go 2 (ds := []) rfl ?_
              simp only [sx, ty, Bool.false_eq_true, Int.reduceEq, Int.reduceLT, Nat.reduceAdd, Nat.reduceSub, Nat.reduceMul, Nat.reduceLT, Nat.reduceLeDiff, Nat.reduceEqDiff, List.reduceReplicate, reduceIte, sxq, Bool.false_eq_true]
              refine WQ.elem (y := cs[k]) hl2 (by simp [St.put]) (ds := []) rfl rfl rfl (by simp [St.put]) (fun _ => rfl) rfl rfl rfl rfl rfl el23 agg37 sz37 (.inl rfl) (by omega) (getIdx cs hk) fun p ces hces => ?_
              obtain rfl := rCop_open hces
              refine WQ.go 1 (ds := []) rfl ?_
              simp only [sx, ty, Bool.false_eq_true, Int.reduceEq, Int.reduceLT, Nat.reduceAdd, Nat.reduceSub, Nat.reduceMul, Nat.reduceLT, Nat.reduceLeDiff, Nat.reduceEqDiff, List.reduceReplicate, reduceIte, sxq, Bool.false_eq_true]
              refine WQ.call (.int .i64 (costF ds[i] cs[k] hall)) (ds := []) rfl rfl rfl rfl co22 (fun ρ w1 hb => by have := rcost_spec (Rp.now hd5 (hb.first (by simp))) (Rp.now hces (hb.first (by simp))) hall (by omega); simpa [denL_eq, den, Function.comp_def] using this) ?_
              simp only [sx, ty, Bool.false_eq_true, Int.reduceEq, Int.reduceLT, Nat.reduceAdd, Nat.reduceSub, Nat.reduceMul, Nat.reduceLT, Nat.reduceLeDiff, Nat.reduceEqDiff, List.reduceReplicate, reduceIte]
              with_reducible refine WQ.nil ?_
              refine WO.go 1 (ds := []) rfl ?_
              simp only [sx, ty, Bool.false_eq_true, Int.reduceEq, Int.reduceLT, Nat.reduceAdd, Nat.reduceSub, Nat.reduceMul, Nat.reduceLT, Nat.reduceLeDiff, Nat.reduceEqDiff, List.reduceReplicate, reduceIte]
              refine WO.append (k := 1) (m := 1) [.int .i64 (costF ds[i] cs[k] hall)] (ds := []) rfl rfl rfl rfl rfl rfl rfl ek33 (news_own (k2 := 2) rfl fun _ => rfl) rfl (by simp [Value.oneCell']) (by rw [maxLen_eq]; omega) (by omega) fun p6 c6 => ?_
              rw [← take_map_snoc (fun c => Value.int .i64 (costF ds[i] c hall)) cs (getIdx cs hk)]
              refine WO.go 1 (ds := []) rfl ?_
              simp only [sx, ty, Bool.false_eq_true, Int.reduceEq, Int.reduceLT, Nat.reduceAdd, Nat.reduceSub, Nat.reduceMul, Nat.reduceLT, Nat.reduceLeDiff, Nat.reduceEqDiff, List.reduceReplicate, reduceIte]
              with_reducible refine WO.nil ?_
              refine hK17 _ ?_
              refine W.region ?_
              refine WO.go 3 (ds := []) rfl ?_
              simp only [sx, ty, Bool.false_eq_true, Int.reduceEq, Int.reduceLT, Nat.reduceAdd, Nat.reduceSub, Nat.reduceMul, Nat.reduceLT, Nat.reduceLeDiff, Nat.reduceEqDiff, List.reduceReplicate, reduceIte]
              with_reducible refine WO.nil ?_
              refine ⟨(k + 1, p6, c6), ?_, by show cs.length - (k + 1) < cs.length - k; omega, rfl, by simp [getE, bnd, keepE, wrap_succ (show k + 1 ≤ 9223372036854775807 by omega)], ⟨_, rfl⟩, by simp [Own.bnd, bndL, bnd, boxO], by simp⟩
              exact hk
            · skip
              have hke : k = cs.length := by have : cs.length ≤ k := by simpa using hc
                                             omega
              subst hke
              simp only [List.take_length]
              refine W.exit (hK13 _ ?_)
              refine W.region ?_
              refine WO.go 3 (ds := []) rfl ?_
              simp only [sx, ty, Bool.false_eq_true, Int.reduceEq, Int.reduceLT, Nat.reduceAdd, Nat.reduceSub, Nat.reduceMul, Nat.reduceLT, Nat.reduceLeDiff, Nat.reduceEqDiff, List.reduceReplicate, reduceIte]
              refine WO.append (k := 0) (m := 1) [.slice pr cs.length cr] (ds := []) rfl rfl rfl rfl rfl rfl rfl ek26 (news_own (k2 := 2) rfl fun _ => rfl) rfl (by simp [Value.oneCell']) (by rw [maxLen_eq]; omega) (by omega) fun p6 c6 => ?_
              refine WO.go 1 (ds := []) rfl ?_
              simp only [sx, ty, Bool.false_eq_true, Int.reduceEq, Int.reduceLT, Nat.reduceAdd, Nat.reduceSub, Nat.reduceMul, Nat.reduceLT, Nat.reduceLeDiff, Nat.reduceEqDiff, List.reduceReplicate, reduceIte]
              with_reducible refine WO.nil ?_
              refine hK11 _ ?_
              refine W.region ?_
              refine WO.go 3 (ds := []) rfl ?_
              simp only [sx, ty, Bool.false_eq_true, Int.reduceEq, Int.reduceLT, Nat.reduceAdd, Nat.reduceSub, Nat.reduceMul, Nat.reduceLT, Nat.reduceLeDiff, Nat.reduceEqDiff, List.reduceReplicate, reduceIte]
              refine WO.snapK [1] (fun S s => RowsAt S s ds cs hall (xs ++ [.slice pr cs.length cr]) ∧ ∀ b, S b → w.heap.size ≤ b) (fun ρ w1 hb => ?_) (fun S s hSs => ?_)
              · refine ⟨joinS S4 s4 ρ _ [1], ⟨fun j x hx => ?_, ?_⟩, joinS_apart hb (by simp) [1]⟩
                · rcases Nat.lt_or_ge j xs.length with hj | hj
                  · rw [List.getElem?_append_left hj] at hx
                    obtain ⟨d, h1, h2⟩ := hrows j x hx
                    exact ⟨d, h1, Rp.joinS h2 hb (by simp) [1]⟩
                  · rw [List.getElem?_append_right hj] at hx
                    have hj0 := (List.getElem?_eq_some_iff.1 hx).1
                    simp only [List.length_cons, List.length_nil] at hj0
                    obtain rfl : j = xs.length := by omega
                    simp only [Nat.sub_self, List.getElem?_cons_zero, Option.some.injEq] at hx
                    subst hx
                    rw [hxl]
                    refine ⟨ds[i], getIdx ds hlt, own_slice (A := rInt) (k := 1) hb rfl (by simp) (fun b hb' => .inr ⟨1, _, by simp, rfl, hb'⟩) fun j y hy => ?_⟩
                    rw [show rInt.sz = 1 from rfl, take_one _ j (Value.int .i64 y) (by simp only [List.getElem?_map] at hy ⊢; cases h : cs[j]? with | none => simp [h] at hy | some x => simp [h] at hy ⊢; exact hy)]
                    rfl
                · rintro b (⟨h1, _⟩ | ⟨k, o, h1, h2, h3⟩)
                  · exact hnew b h1
                  · exact own_new hb (by simp) (by rw [nth_eq]; exact h2) h3
              · simp only [sx, ty, Bool.false_eq_true, Int.reduceEq, Int.reduceLT, Nat.reduceAdd, Nat.reduceSub, Nat.reduceMul, Nat.reduceLT, Nat.reduceLeDiff, Nat.reduceEqDiff, List.reduceReplicate, reduceIte, sxd]
                with_reducible refine WO.nil ?_
                refine ⟨(i + 1, p6, c6, xs ++ [.slice pr cs.length cr], S, s), ⟨hlt, by simp [hxl], hSs.1, hSs.2⟩, by show ds.length - (i + 1) < ds.length - i; omega, rfl, by simp [getE, bnd, keepE, wrap_succ (show i + 1 ≤ 9223372036854775807 by omega)], ⟨_, rfl⟩, by simp [Own.bnd, bndL, bnd], by simp⟩
        · skip
          have hie : i = ds.length := by have : ds.length ≤ i := by simpa using hc
                                         omega
          subst hie
          refine W.exit (hK7 _ ?_)
          refine W.pure (ds := []) rfl fun K18 hK18 => ?_
          simp only [sx, ty, Bool.false_eq_true, Int.reduceEq, Int.reduceLT, Nat.reduceAdd, Nat.reduceSub, Nat.reduceMul, Nat.reduceLT, Nat.reduceLeDiff, Nat.reduceEqDiff, List.reduceReplicate, reduceIte]; with_reducible refine hK18 _ ?_; clear hK18
          refine W.ret ⟨by simp, _, rfl, fun ρ w1 hb => ?_⟩
          rw [costsR_good hgood]
          simp only [costsF, List.length_map]
          refine ⟨p3, c3, rfl, own_slice (A := rInts) (k := 0) hb rfl (by simp) (fun b hb' => own_new hb (by simp) (k := 0) rfl hb') fun j y hy => ?_⟩
          rw [List.getElem?_map] at hy
          have hjl : j < ds.length := by
            by_cases h : j < ds.length
            · exact h
            · rw [List.getElem?_eq_none (by omega)] at hy; cases hy
          rw [getIdx ds hjl] at hy
          obtain rfl := Option.some.inj hy
          obtain ⟨d, h1, h2⟩ := hrows j xs[j] (getIdx xs (by omega))
          rw [getIdx ds hjl] at h1
          obtain rfl := Option.some.inj h1
          rw [show rInts.sz = 1 from rfl, take_one _ j _ (getIdx xs (by omega))]
          exact Rp.mono _ (Rp.keep h2 (hb.at (by simp))) fun b hb' _ => hnew b hb'
/-- function 14 -/
theorem same_spec {S S2 : Nat → Prop} {w : World} {v u : Value} {a b : List (List Int)} (hl : rRows.rd S w [v] a) (hl2 : rRows.rd S2 w [u] b) : Gives Try.prog 14 #[v, u] w fun r _ => r = .bool (decide (a = b)) := by
  obtain ⟨p, c, rfl, hc1, hc2⟩ := Rp.slice_val hl
  obtain ⟨p2, c2, rfl, hc3, hc4⟩ := Rp.slice_val hl2
  have hl : (Rp.slice rInts).rd (fun _ => True) w _ a := Rp.any hl
  have hl2 : (Rp.slice rInts).rd (fun _ => True) w _ b := Rp.any hl2
  refine gives_of [.val (.slice p a.length c), .val (.slice p2 b.length c2)] 53 [.tmp 4] Try.func14 rfl rfl rfl (by simp) rfl rfl ?_
  refine W.pure (ds := []) rfl fun K1 hK1 => ?_
  simp only [sx, ty, Bool.false_eq_true, Int.reduceEq, Int.reduceLT, Nat.reduceAdd, Nat.reduceSub, Nat.reduceMul, Nat.reduceLT, Nat.reduceLeDiff, Nat.reduceEqDiff, List.reduceReplicate, reduceIte]; with_reducible refine hK1 _ ?_; clear hK1
  refine W.seqK fun K2 hK2 => ?_
  refine W.pure (ds := []) rfl fun K3 hK3 => ?_
  simp only [sx, ty, Bool.false_eq_true, Int.reduceEq, Int.reduceLT, Nat.reduceAdd, Nat.reduceSub, Nat.reduceMul, Nat.reduceLT, Nat.reduceLeDiff, Nat.reduceEqDiff, List.reduceReplicate, reduceIte]; with_reducible refine hK3 _ ?_; clear hK3
  refine W.cond rfl rfl (fun hc => ?_) (fun hc => ?_)
  · skip
    have h0 : a.length ≠ b.length := by simp at hc; omega
    refine W.pure (ds := []) rfl fun K4 hK4 => ?_
    simp only [sx, ty, Bool.false_eq_true, Int.reduceEq, Int.reduceLT, Nat.reduceAdd, Nat.reduceSub, Nat.reduceMul, Nat.reduceLT, Nat.reduceLeDiff, Nat.reduceEqDiff, List.reduceReplicate, reduceIte]; with_reducible refine hK4 _ ?_; clear hK4
    refine W.ret ⟨by simp, _, rfl, fun ρ w1 hb => ?_⟩
    simp only [den, Value.bool.injEq]
    rw [eq_comm, decide_eq_false_iff_not]
    rintro rfl
    exact h0 rfl
  · skip
    have h0 : a.length = b.length := by simp at hc; omega
    refine W.skip (hK2 _ ?_)
    refine W.seqK fun K5 hK5 => ?_
    refine W.pure (ds := []) rfl fun K6 hK6 => ?_
    simp only [sx, ty, Bool.false_eq_true, Int.reduceEq, Int.reduceLT, Nat.reduceAdd, Nat.reduceSub, Nat.reduceMul, Nat.reduceLT, Nat.reduceLeDiff, Nat.reduceEqDiff, List.reduceReplicate, reduceIte]; with_reducible refine hK6 _ ?_; clear hK6
    refine W.block ?_
    refine W.loopK (X := Nat) [0, 1] (fun x => [(5, .val (.int .i64 x))]) (fun x => x ≤ a.length ∧ ∀ j, j < x → a[j]? = b[j]?) (fun x => a.length - x) 0 ?_ ?_ ?_
    · exact ⟨rfl, by simp [getE, bnd, keepE], ⟨[], by simp⟩, by simp [Own.bnd, bndL, bnd, boxO], by simp⟩
    · skip
      exact ⟨Nat.zero_le _, fun j h => by omega⟩
    · rintro i ⟨hi, hno⟩
      simp only [sx, ty, Bool.false_eq_true, Int.reduceEq, Int.reduceLT, Nat.reduceAdd, Nat.reduceSub, Nat.reduceMul, Nat.reduceLT, Nat.reduceLeDiff, Nat.reduceEqDiff, List.reduceReplicate, reduceIte, sxk]
      refine W.seqK fun K7 hK7 => ?_
      refine W.pure (ds := []) rfl fun K8 hK8 => ?_
      simp only [sx, ty, Bool.false_eq_true, Int.reduceEq, Int.reduceLT, Nat.reduceAdd, Nat.reduceSub, Nat.reduceMul, Nat.reduceLT, Nat.reduceLeDiff, Nat.reduceEqDiff, List.reduceReplicate, reduceIte]; with_reducible refine hK8 _ ?_; clear hK8
      refine W.cond rfl rfl (fun hc => ?_) (fun hc => ?_)
      · skip
        have hlt : i < a.length := by simpa using hc
        have hltb : i < b.length := by omega
        refine W.skip (hK7 _ ?_)
        refine W.seqK fun K9 hK9 => ?_
        refine W.block ?_
        refine W.seqK fun K10 hK10 => ?_
        refine W.seqK fun K11 hK11 => ?_
        refine W.regionQ mixed (by kernel_rfl) ?_
        refine WQ.go 2 (ds := []) rfl ?_
        simp only [sx, ty, Bool.false_eq_true, Int.reduceEq, Int.reduceLT, Nat.reduceAdd, Nat.reduceSub, Nat.reduceMul, Nat.reduceLT, Nat.reduceLeDiff, Nat.reduceEqDiff, List.reduceReplicate, reduceIte, sxq, Bool.false_eq_true]
        refine WQ.elem (y := a[i]) hl (by simp [St.put]) (ds := []) rfl rfl rfl (by simp [St.put]) (fun _ => rfl) rfl rfl rfl rfl rfl el26 agg33 sz33 (.inr rfl) (by omega) (getIdx a hlt) fun p ces hces => ?_
        obtain ⟨p5, c5, rfl, h5, h5c⟩ := rInts_open hces
        have hA5 : (Rp.slice rInt).rd (fun _ => True) w _ a[i] := hces
        clear hces
        refine WQ.go 3 (ds := []) rfl ?_
        simp only [sx, ty, Bool.false_eq_true, Int.reduceEq, Int.reduceLT, Nat.reduceAdd, Nat.reduceSub, Nat.reduceMul, Nat.reduceLT, Nat.reduceLeDiff, Nat.reduceEqDiff, List.reduceReplicate, reduceIte, sxq, Bool.false_eq_true]
        refine WQ.elem (y := b[i]) hl2 (by simp [St.put]) (ds := []) rfl rfl rfl (by simp [St.put]) (fun _ => rfl) rfl rfl rfl rfl rfl el26 agg33 sz33 (.inr rfl) (by omega) (getIdx b (by omega)) fun p ces hces => ?_
        obtain ⟨p6, c6, rfl, h6, h6c⟩ := rInts_open hces
        have hB6 : (Rp.slice rInt).rd (fun _ => True) w _ b[i] := hces
        clear hces
        refine WQ.go 2 (ds := []) rfl ?_
        simp only [sx, ty, Bool.false_eq_true, Int.reduceEq, Int.reduceLT, Nat.reduceAdd, Nat.reduceSub, Nat.reduceMul, Nat.reduceLT, Nat.reduceLeDiff, Nat.reduceEqDiff, List.reduceReplicate, reduceIte, sxq, Bool.false_eq_true]
        with_reducible refine WQ.nil ?_
        refine hK11 _ ?_; clear hK11
        refine W.cond rfl rfl (fun hc => ?_) (fun hc => ?_)
        · skip
          have hx : a[i] ≠ b[i] := by
            intro h
            rw [h] at hc
            simp at hc
          refine W.pure (ds := []) rfl fun K12 hK12 => ?_
          simp only [sx, ty, Bool.false_eq_true, Int.reduceEq, Int.reduceLT, Nat.reduceAdd, Nat.reduceSub, Nat.reduceMul, Nat.reduceLT, Nat.reduceLeDiff, Nat.reduceEqDiff, List.reduceReplicate, reduceIte]; with_reducible refine hK12 _ ?_; clear hK12
          refine W.ret ⟨by simp, _, rfl, fun ρ w1 hb => ?_⟩
          simp only [den, Value.bool.injEq]
          rw [eq_comm, decide_eq_false_iff_not]
          rintro rfl
          exact hx rfl
        · skip
          have hx : a[i].length = b[i].length := by simp at hc; omega
          refine W.skip (hK10 _ ?_)
          refine W.pure (ds := []) rfl fun K13 hK13 => ?_
          simp only [sx, ty, Bool.false_eq_true, Int.reduceEq, Int.reduceLT, Nat.reduceAdd, Nat.reduceSub, Nat.reduceMul, Nat.reduceLT, Nat.reduceLeDiff, Nat.reduceEqDiff, List.reduceReplicate, reduceIte]; with_reducible refine hK13 _ ?_; clear hK13
          refine W.block ?_
          refine W.loopK (X := Nat) [0, 1, 5] (fun x => [(6, .val (.int .i64 x))]) (fun x => x ≤ a[i].length ∧ ∀ j, j < x → a[i][j]? = b[i][j]?) (fun x => a[i].length - x) 0 ?_ ?_ ?_
          · exact ⟨rfl, by simp [getE, bnd, keepE], ⟨[], by simp⟩, by simp [Own.bnd, bndL, bnd, boxO], by simp⟩
          · skip
            exact ⟨Nat.zero_le _, fun j h => by omega⟩
          · rintro k ⟨hk, hno2⟩
            simp only [sx, ty, Bool.false_eq_true, Int.reduceEq, Int.reduceLT, Nat.reduceAdd, Nat.reduceSub, Nat.reduceMul, Nat.reduceLT, Nat.reduceLeDiff, Nat.reduceEqDiff, List.reduceReplicate, reduceIte, sxk]
            refine W.seqK fun K14 hK14 => ?_
            refine W.seqK fun K15 hK15 => W.region ?_
            refine WO.go 3 (ds := []) rfl ?_
            simp only [sx, ty, Bool.false_eq_true, Int.reduceEq, Int.reduceLT, Nat.reduceAdd, Nat.reduceSub, Nat.reduceMul, Nat.reduceLT, Nat.reduceLeDiff, Nat.reduceEqDiff, List.reduceReplicate, reduceIte]
            refine WO.elem (y := a[i]) hl (by simp [St.put]) (ds := []) rfl rfl rfl (by simp [St.put]) (fun _ => rfl) rfl rfl rfl rfl rfl el26 agg33 sz33 (.inr rfl) (by omega) (getIdx a hlt) fun p ces hces => ?_
            obtain ⟨p5, c5, rfl, h5, h5c⟩ := rInts_open hces
            have hA5 : (Rp.slice rInt).rd (fun _ => True) w _ a[i] := hces
            clear hces
            refine WO.go 2 (ds := []) rfl ?_
            simp only [sx, ty, Bool.false_eq_true, Int.reduceEq, Int.reduceLT, Nat.reduceAdd, Nat.reduceSub, Nat.reduceMul, Nat.reduceLT, Nat.reduceLeDiff, Nat.reduceEqDiff, List.reduceReplicate, reduceIte]
            with_reducible refine WO.nil ?_
            refine hK15 _ ?_; clear hK15
            refine W.cond rfl rfl (fun hc => ?_) (fun hc => ?_)
            · skip
              have hkl : k < a[i].length := by simpa using hc
              clear hA5
              refine W.skip (hK14 _ ?_)
              refine W.seqK fun K16 hK16 => ?_
              refine W.block ?_
              refine W.seqK fun K17 hK17 => ?_
              refine W.regionQ mixed (by kernel_rfl) ?_
              refine WQ.go 2 (ds := []) rfl ?_
              simp only [sx, ty, Bool.false_eq_true, Int.reduceEq, Int.reduceLT, Nat.reduceAdd, Nat.reduceSub, Nat.reduceMul, Nat.reduceLT, Nat.reduceLeDiff, Nat.reduceEqDiff, List.reduceReplicate, reduceIte, sxq, Bool.false_eq_true]
              refine WQ.elem (y := a[i]) hl (by simp [St.put]) (ds := []) rfl rfl rfl (by simp [St.put]) (fun _ => rfl) rfl rfl rfl rfl rfl el26 agg33 sz33 (.inr rfl) (by omega) (getIdx a hlt) fun p ces hces => ?_
              obtain ⟨p5, c5, rfl, h5, h5c⟩ := rInts_open hces
              have hA5 : (Rp.slice rInt).rd (fun _ => True) w _ a[i] := hces
              clear hces
              refine WQ.go 1 (ds := []) rfl ?_
              simp only [sx, ty, Bool.false_eq_true, Int.reduceEq, Int.reduceLT, Nat.reduceAdd, Nat.reduceSub, Nat.reduceMul, Nat.reduceLT, Nat.reduceLeDiff, Nat.reduceEqDiff, List.reduceReplicate, reduceIte, sxq, Bool.false_eq_true]
              refine WQ.elem (y := a[i][k]) hA5 (by simp [St.put]) (ds := []) rfl rfl rfl (by simp [St.put]) (fun _ => rfl) rfl rfl rfl rfl rfl el33 agg3 sz3 (.inr rfl) (by omega) (getIdx a[i] hkl) fun p ces hces => ?_
              obtain rfl := rInt_open hces
              clear hces
              refine WQ.go 2 (ds := []) rfl ?_
              simp only [sx, ty, Bool.false_eq_true, Int.reduceEq, Int.reduceLT, Nat.reduceAdd, Nat.reduceSub, Nat.reduceMul, Nat.reduceLT, Nat.reduceLeDiff, Nat.reduceEqDiff, List.reduceReplicate, reduceIte, sxq, Bool.false_eq_true]
              refine WQ.elem (y := b[i]) hl2 (by simp [St.put]) (ds := []) rfl rfl rfl (by simp [St.put]) (fun _ => rfl) rfl rfl rfl rfl rfl el26 agg33 sz33 (.inr rfl) (by omega) (getIdx b (by omega)) fun p ces hces => ?_
              obtain ⟨p6, c6, rfl, h6, h6c⟩ := rInts_open hces
              have hB6 : (Rp.slice rInt).rd (fun _ => True) w _ b[i] := hces
              clear hces
              refine WQ.go 1 (ds := []) rfl ?_
              simp only [sx, ty, Bool.false_eq_true, Int.reduceEq, Int.reduceLT, Nat.reduceAdd, Nat.reduceSub, Nat.reduceMul, Nat.reduceLT, Nat.reduceLeDiff, Nat.reduceEqDiff, List.reduceReplicate, reduceIte, sxq, Bool.false_eq_true]
              refine WQ.elem (y := b[i][k]) hB6 (by simp [St.put]) (ds := []) rfl rfl rfl (by simp [St.put]) (fun _ => rfl) rfl rfl rfl rfl rfl el33 agg3 sz3 (.inr rfl) (by omega) (getIdx b[i] (by omega)) fun p ces hces => ?_
              obtain rfl := rInt_open hces
              clear hces
              refine WQ.go 1 (ds := []) rfl ?_
              simp only [sx, ty, Bool.false_eq_true, Int.reduceEq, Int.reduceLT, Nat.reduceAdd, Nat.reduceSub, Nat.reduceMul, Nat.reduceLT, Nat.reduceLeDiff, Nat.reduceEqDiff, List.reduceReplicate, reduceIte, sxq, Bool.false_eq_true]
              with_reducible refine WQ.nil ?_
              refine hK17 _ ?_; clear hK17
              refine W.cond rfl rfl (fun hc => ?_) (fun hc => ?_)
              · skip
                have hy : a[i][k] ≠ b[i][k] := by simpa using hc
                refine W.pure (ds := []) rfl fun K18 hK18 => ?_
                simp only [sx, ty, Bool.false_eq_true, Int.reduceEq, Int.reduceLT, Nat.reduceAdd, Nat.reduceSub, Nat.reduceMul, Nat.reduceLT, Nat.reduceLeDiff, Nat.reduceEqDiff, List.reduceReplicate, reduceIte]; with_reducible refine hK18 _ ?_; clear hK18
                refine W.ret ⟨by simp, _, rfl, fun ρ w1 hb => ?_⟩
                simp only [den, Value.bool.injEq]
                rw [eq_comm, decide_eq_false_iff_not]
                rintro rfl
                exact hy rfl
              · skip
                have hy : a[i][k] = b[i][k] := by simpa using hc
                refine W.skip (hK16 _ ?_)
                refine W.region ?_
                refine WO.go 3 (ds := []) rfl ?_
                simp only [sx, ty, Bool.false_eq_true, Int.reduceEq, Int.reduceLT, Nat.reduceAdd, Nat.reduceSub, Nat.reduceMul, Nat.reduceLT, Nat.reduceLeDiff, Nat.reduceEqDiff, List.reduceReplicate, reduceIte]
                with_reducible refine WO.nil ?_
                refine ⟨k + 1, ?_, by first | omega | (simp; omega), rfl, by simp [getE, bnd, keepE, wrap_succ (show k + 1 ≤ 9223372036854775807 by omega)], ⟨_, rfl⟩, by simp [Own.bnd, bndL, bnd, boxO], by simp⟩
                refine ⟨hkl, fun j h => ?_⟩
                rcases Nat.lt_succ_iff_lt_or_eq.1 h with h | rfl
                · exact hno2 j h
                · rw [getIdx a[i] hkl, getIdx b[i] (by omega), hy]
            · skip
              have hke : k = a[i].length := by simp at hc; omega
              refine W.exit (hK9 _ ?_)
              refine W.region ?_
              refine WO.go 3 (ds := []) rfl ?_
              simp only [sx, ty, Bool.false_eq_true, Int.reduceEq, Int.reduceLT, Nat.reduceAdd, Nat.reduceSub, Nat.reduceMul, Nat.reduceLT, Nat.reduceLeDiff, Nat.reduceEqDiff, List.reduceReplicate, reduceIte]
              with_reducible refine WO.nil ?_
              refine ⟨i + 1, ?_, by first | omega | (simp; omega), rfl, by simp [getE, bnd, keepE, wrap_succ (show i + 1 ≤ 9223372036854775807 by omega)], ⟨_, rfl⟩, by simp [Own.bnd, bndL, bnd, boxO], by simp⟩
              refine ⟨hlt, fun j h => ?_⟩
              rcases Nat.lt_succ_iff_lt_or_eq.1 h with h | rfl
              · exact hno j h
              · rw [getIdx a hlt, getIdx b hltb]
                congr 1
                apply List.ext_getElem?
                intro q
                rcases Nat.lt_or_ge q k with hq | hq
                · exact hno2 q hq
                · rw [List.getElem?_eq_none (by omega), List.getElem?_eq_none (by omega)]
      · skip
        refine W.exit (hK5 _ ?_)
        refine W.pure (ds := []) rfl fun K19 hK19 => ?_
        simp only [sx, ty, Bool.false_eq_true, Int.reduceEq, Int.reduceLT, Nat.reduceAdd, Nat.reduceSub, Nat.reduceMul, Nat.reduceLT, Nat.reduceLeDiff, Nat.reduceEqDiff, List.reduceReplicate, reduceIte]; with_reducible refine hK19 _ ?_; clear hK19
        refine W.ret ⟨by simp, _, rfl, fun ρ w1 hb => ?_⟩
        have hge : a.length ≤ i := by simpa using hc
        simp only [den, Value.bool.injEq]
        rw [eq_comm, decide_eq_true_eq]
        apply List.ext_getElem?
        intro q
        rcases Nat.lt_or_ge q i with hq | hq
        · exact hno q hq
        · rw [List.getElem?_eq_none (by omega), List.getElem?_eq_none (by omega)]
/-- function 16 -/
theorem shaped_spec {S : Nat → Prop} {w : World} {v : Value} {a : List (List Int)} (hl : rRows.rd S w [v] a) (p2 p3 : Option Addr) (n2 c2 n3 c3 : Nat) : Gives Try.prog 16 #[v, .slice p2 n2 c2, .slice p3 n3 c3] w fun r _ => r = .bool (a.all (fun x => decide (x.length = n3)) && decide (a.length = n2)) := by
  obtain ⟨p, c, rfl, hc1, hc2⟩ := Rp.slice_val hl
  have hl : (Rp.slice rInts).rd (fun _ => True) w _ a := Rp.any hl
  refine gives_of [.val (.slice p a.length c), .val (.slice p2 n2 c2), .val (.slice p3 n3 c3)] 26 [.tmp 6] Try.func16 rfl rfl rfl (by simp) rfl rfl ?_
  refine W.pure (ds := []) rfl fun K1 hK1 => ?_
  simp only [sx, ty, Bool.false_eq_true, Int.reduceEq, Int.reduceLT, Nat.reduceAdd, Nat.reduceSub, Nat.reduceMul, Nat.reduceLT, Nat.reduceLeDiff, Nat.reduceEqDiff, List.reduceReplicate, reduceIte]; with_reducible refine hK1 _ ?_; clear hK1
  refine W.seqK fun K2 hK2 => ?_
  refine W.pure (ds := []) rfl fun K3 hK3 => ?_
  simp only [sx, ty, Bool.false_eq_true, Int.reduceEq, Int.reduceLT, Nat.reduceAdd, Nat.reduceSub, Nat.reduceMul, Nat.reduceLT, Nat.reduceLeDiff, Nat.reduceEqDiff, List.reduceReplicate, reduceIte]; with_reducible refine hK3 _ ?_; clear hK3
  refine W.block ?_
  refine W.loopK (X := Nat) [0, 1, 2, 9, 10] (fun x => [(11, .val (.int .i64 x))]) (fun x => x ≤ a.length ∧ (a.take x).all (fun x => decide (x.length = n3)) = true) (fun x => a.length - x) 0 ?_ ?_ ?_
  · exact ⟨rfl, by simp [getE, bnd, keepE], ⟨[], by simp⟩, by simp [Own.bnd, bndL, bnd, boxO], by simp⟩
  · skip
    simp
  · rintro i ⟨hi, hall⟩
    simp only [sx, ty, Bool.false_eq_true, Int.reduceEq, Int.reduceLT, Nat.reduceAdd, Nat.reduceSub, Nat.reduceMul, Nat.reduceLT, Nat.reduceLeDiff, Nat.reduceEqDiff, List.reduceReplicate, reduceIte, sxk]
    refine W.pure (ds := []) rfl fun K4 hK4 => ?_
    simp only [sx, ty, Bool.false_eq_true, Int.reduceEq, Int.reduceLT, Nat.reduceAdd, Nat.reduceSub, Nat.reduceMul, Nat.reduceLT, Nat.reduceLeDiff, Nat.reduceEqDiff, List.reduceReplicate, reduceIte]; with_reducible refine hK4 _ ?_; clear hK4
    refine W.seqK fun K5 hK5 => ?_
    refine W.cond rfl rfl (fun hc => ?_) (fun hc => ?_)
    · skip
      have hlt : i < a.length := by simpa using hc
      refine W.skip (hK5 _ ?_)
      refine W.seqK fun K6 hK6 => ?_
      refine W.block ?_
      refine W.seqK fun K7 hK7 => W.region ?_
      refine WO.elem (y := a[i]) hl (by simp [St.put]) (ds := []) rfl rfl rfl (by simp [St.put]) (fun _ => rfl) rfl rfl rfl rfl rfl el26 agg33 sz33 (.inr rfl) (by omega) (getIdx a hlt) fun p ces hces => ?_
      obtain ⟨p5, c5, rfl, h5, h5c⟩ := rInts_open hces
      have hA5 : (Rp.slice rInt).rd (fun _ => True) w _ a[i] := hces
      clear hces
      refine WO.go 1 (ds := []) rfl ?_
      simp only [sx, ty, Bool.false_eq_true, Int.reduceEq, Int.reduceLT, Nat.reduceAdd, Nat.reduceSub, Nat.reduceMul, Nat.reduceLT, Nat.reduceLeDiff, Nat.reduceEqDiff, List.reduceReplicate, reduceIte]
      with_reducible refine WO.nil ?_
      refine hK7 _ ?_; clear hK7
      refine W.pure (ds := []) rfl fun K8 hK8 => ?_
      simp only [sx, ty, Bool.false_eq_true, Int.reduceEq, Int.reduceLT, Nat.reduceAdd, Nat.reduceSub, Nat.reduceMul, Nat.reduceLT, Nat.reduceLeDiff, Nat.reduceEqDiff, List.reduceReplicate, reduceIte]; with_reducible refine hK8 _ ?_; clear hK8
      refine W.cond rfl rfl (fun hc => ?_) (fun hc => ?_)
      · skip
        have hx := all_not (fun x => decide (x.length = n3)) a hlt (by simp at hc ⊢; omega)
        refine W.pure (ds := []) rfl fun K9 hK9 => ?_
        simp only [sx, ty, Bool.false_eq_true, Int.reduceEq, Int.reduceLT, Nat.reduceAdd, Nat.reduceSub, Nat.reduceMul, Nat.reduceLT, Nat.reduceLeDiff, Nat.reduceEqDiff, List.reduceReplicate, reduceIte]; with_reducible refine hK9 _ ?_; clear hK9
        refine W.ret ⟨by simp, _, rfl, fun ρ w1 hb => ?_⟩
        simp only [den, hx, Bool.false_and]
      · skip
        have hx : decide (a[i].length = n3) = true := by simp at hc ⊢; omega
        refine W.skip (hK6 _ ?_)
        refine W.region ?_
        refine WO.go 2 (ds := []) rfl ?_
        simp only [sx, ty, Bool.false_eq_true, Int.reduceEq, Int.reduceLT, Nat.reduceAdd, Nat.reduceSub, Nat.reduceMul, Nat.reduceLT, Nat.reduceLeDiff, Nat.reduceEqDiff, List.reduceReplicate, reduceIte]
        with_reducible refine WO.nil ?_
        refine ⟨i + 1, ?_, by first | omega | (simp; omega), rfl, by simp [getE, bnd, keepE, wrap_succ (show i + 1 ≤ 9223372036854775807 by omega)], ⟨_, rfl⟩, by simp [Own.bnd, bndL, bnd, boxO], by simp⟩
        exact ⟨hlt, all_take (fun x => decide (x.length = n3)) a hlt hall hx⟩
    · skip
      refine W.exit (hK2 _ ?_)
      refine W.pure (ds := []) rfl fun K10 hK10 => ?_
      simp only [sx, ty, Bool.false_eq_true, Int.reduceEq, Int.reduceLT, Nat.reduceAdd, Nat.reduceSub, Nat.reduceMul, Nat.reduceLT, Nat.reduceLeDiff, Nat.reduceEqDiff, List.reduceReplicate, reduceIte]; with_reducible refine hK10 _ ?_; clear hK10
      refine W.ret ⟨by simp, _, rfl, fun ρ w1 hb => ?_⟩
      have hge : a.length ≤ i := by simpa using hc
      rw [List.take_of_length_le hge] at hall
      simp only [den, hall, Bool.true_and, Value.bool.injEq]
      by_cases h : a.length = n2 <;> simp [h] <;> omega
/-- function 15 -/
theorem usable_spec {S S2 : Nat → Prop} {w : World} {v u : Value} {ds : List Dem} {cs : List Cop} (hl : rDems.rd S w [v] ds) (hl2 : rCops.rd S2 w [u] cs) : Gives Try.prog 15 #[v, u] w fun r _ => r = .bool (decide (0 < ds.length) && (decide (0 < cs.length) && (few ds cs && valid ds cs))) := by
  obtain ⟨p, c, rfl, hc1, hc2⟩ := Rp.slice_val hl
  obtain ⟨p2, c2, rfl, hc3, hc4⟩ := Rp.slice_val hl2
  have hl : (Rp.slice rDem).rd (fun _ => True) w _ ds := Rp.any hl
  have hl2 : (Rp.slice rCop).rd (fun _ => True) w _ cs := Rp.any hl2
  refine gives_of [.val (.slice p ds.length c), .val (.slice p2 cs.length c2)] 23 [.tmp 4] Try.func15 rfl rfl rfl (by simp) rfl rfl ?_
  refine W.pure (ds := []) rfl fun K1 hK1 => ?_
  simp only [sx, ty, Bool.false_eq_true, Int.reduceEq, Int.reduceLT, Nat.reduceAdd, Nat.reduceSub, Nat.reduceMul, Nat.reduceLT, Nat.reduceLeDiff, Nat.reduceEqDiff, List.reduceReplicate, reduceIte]; with_reducible refine hK1 _ ?_; clear hK1
  refine W.join 4 (.val (.bool (decide ((0 : Int) < (ds.length : Int)) && (decide ((0 : Int) < (cs.length : Int)) && (few ds cs && valid ds cs))))) [] (W.region ?_) ?_
  · skip
    refine WO.go 4 (ds := [some 5, some 6, some 7, some 8, some 9, some 10, some 11, some 12, some 13, some 14, some 15, some 16, some 17, some 18, some 19, some 20, some 21, some 22, some 4]) rfl ?_
    simp only [sx, ty, Bool.false_eq_true, Int.reduceEq, Int.reduceLT, Nat.reduceAdd, Nat.reduceSub, Nat.reduceMul, Nat.reduceLT, Nat.reduceLeDiff, Nat.reduceEqDiff, List.reduceReplicate, reduceIte]
    refine WO.cases 8 _ rfl (fun hg8 => ?_) (fun hg8 => ?_)
    · skip
      refine WO.go 5 (ds := [some 5, some 6, some 7, some 8, some 9, some 10, some 11, some 12, some 13, some 14, some 15, some 16, some 17, some 18, some 19, some 20, some 21, some 22, some 4]) rfl ?_
      simp only [sx, ty, Bool.false_eq_true, Int.reduceEq, Int.reduceLT, Nat.reduceAdd, Nat.reduceSub, Nat.reduceMul, Nat.reduceLT, Nat.reduceLeDiff, Nat.reduceEqDiff, List.reduceReplicate, reduceIte]
      refine WO.cases 13 _ rfl (fun hg13 => ?_) (fun hg13 => ?_)
      · skip
        refine WO.go 2 (ds := [some 5, some 6, some 7, some 8, some 9, some 10, some 11, some 12, some 13, some 14, some 15, some 16, some 17, some 18, some 19, some 20, some 21, some 22, some 4]) rfl ?_
        simp only [sx, ty, Bool.false_eq_true, Int.reduceEq, Int.reduceLT, Nat.reduceAdd, Nat.reduceSub, Nat.reduceMul, Nat.reduceLT, Nat.reduceLeDiff, Nat.reduceEqDiff, List.reduceReplicate, reduceIte]
        refine WO.call (.bool (few ds cs)) (ds := [some 5, some 6, some 7, some 8, some 9, some 10, some 11, some 12, some 13, some 14, some 15, some 16, some 17, some 18, some 19, some 20, some 21, some 22, some 4]) rfl rfl rfl rfl co9 (fun ρ w1 hb => few_spec (Rp.now hl (hb.first (by simp))) (Rp.now hl2 (hb.first (by simp)))) ?_
        refine WO.go 2 (ds := [some 5, some 6, some 7, some 8, some 9, some 10, some 11, some 12, some 13, some 14, some 15, some 16, some 17, some 18, some 19, some 20, some 21, some 22, some 4]) rfl ?_
        simp only [sx, ty, Bool.false_eq_true, Int.reduceEq, Int.reduceLT, Nat.reduceAdd, Nat.reduceSub, Nat.reduceMul, Nat.reduceLT, Nat.reduceLeDiff, Nat.reduceEqDiff, List.reduceReplicate, reduceIte]
        refine WO.cases 18 _ rfl (fun hg18 => ?_) (fun hg18 => ?_)
        · skip
          refine WO.go 2 (ds := [some 5, some 6, some 7, some 8, some 9, some 10, some 11, some 12, some 13, some 14, some 15, some 16, some 17, some 18, some 19, some 20, some 21, some 22, some 4]) rfl ?_
          simp only [sx, ty, Bool.false_eq_true, Int.reduceEq, Int.reduceLT, Nat.reduceAdd, Nat.reduceSub, Nat.reduceMul, Nat.reduceLT, Nat.reduceLeDiff, Nat.reduceEqDiff, List.reduceReplicate, reduceIte]
          refine WO.call (.bool (valid ds cs)) (ds := [some 5, some 6, some 7, some 8, some 9, some 10, some 11, some 12, some 13, some 14, some 15, some 16, some 17, some 18, some 19, some 20, some 21, some 22, some 4]) rfl rfl rfl rfl co13 (fun ρ w1 hb => rvalid_spec (Rp.now hl (hb.first (by simp))) (Rp.now hl2 (hb.first (by simp)))) ?_
          refine WO.go 2 (ds := [some 5, some 6, some 7, some 8, some 9, some 10, some 11, some 12, some 13, some 14, some 15, some 16, some 17, some 18, some 19, some 20, some 21, some 22, some 4]) rfl ?_
          simp only [sx, ty, Bool.false_eq_true, Int.reduceEq, Int.reduceLT, Nat.reduceAdd, Nat.reduceSub, Nat.reduceMul, Nat.reduceLT, Nat.reduceLeDiff, Nat.reduceEqDiff, List.reduceReplicate, reduceIte]
          with_reducible refine WO.nil ?_
          refine ⟨rfl, ?_, ⟨_, rfl⟩, by simp [Own.bnd, bndL, bnd, boxO], by simp⟩
          try rw [hg8]
          try rw [hg13]
          try rw [hg18]
          simp [getE, bnd, keepE]
        · skip
          refine WO.go 5 (ds := [some 5, some 6, some 7, some 8, some 9, some 10, some 11, some 12, some 13, some 14, some 15, some 16, some 17, some 18, some 19, some 20, some 21, some 22, some 4]) rfl ?_
          simp only [sx, ty, Bool.false_eq_true, Int.reduceEq, Int.reduceLT, Nat.reduceAdd, Nat.reduceSub, Nat.reduceMul, Nat.reduceLT, Nat.reduceLeDiff, Nat.reduceEqDiff, List.reduceReplicate, reduceIte]
          with_reducible refine WO.nil ?_
          refine ⟨rfl, ?_, ⟨_, rfl⟩, by simp [Own.bnd, bndL, bnd, boxO], by simp⟩
          try rw [hg8]
          try rw [hg13]
          try rw [hg18]
          simp [getE, bnd, keepE]
      · skip
        refine WO.go 10 (ds := [some 5, some 6, some 7, some 8, some 9, some 10, some 11, some 12, some 13, some 14, some 15, some 16, some 17, some 18, some 19, some 20, some 21, some 22, some 4]) rfl ?_
        simp only [sx, ty, Bool.false_eq_true, Int.reduceEq, Int.reduceLT, Nat.reduceAdd, Nat.reduceSub, Nat.reduceMul, Nat.reduceLT, Nat.reduceLeDiff, Nat.reduceEqDiff, List.reduceReplicate, reduceIte]
        with_reducible refine WO.nil ?_
        refine ⟨rfl, ?_, ⟨_, rfl⟩, by simp [Own.bnd, bndL, bnd, boxO], by simp⟩
        try rw [hg8]
        try rw [hg13]
        try rw [hg18]
        simp [getE, bnd, keepE]
    · skip
      refine WO.go 15 (ds := [some 5, some 6, some 7, some 8, some 9, some 10, some 11, some 12, some 13, some 14, some 15, some 16, some 17, some 18, some 19, some 20, some 21, some 22, some 4]) rfl ?_
      simp only [sx, ty, Bool.false_eq_true, Int.reduceEq, Int.reduceLT, Nat.reduceAdd, Nat.reduceSub, Nat.reduceMul, Nat.reduceLT, Nat.reduceLeDiff, Nat.reduceEqDiff, List.reduceReplicate, reduceIte]
      with_reducible refine WO.nil ?_
      refine ⟨rfl, ?_, ⟨_, rfl⟩, by simp [Own.bnd, bndL, bnd, boxO], by simp⟩
      try rw [hg8]
      try rw [hg13]
      try rw [hg18]
      simp [getE, bnd, keepE]
  · simp only [sx, ty, Bool.false_eq_true, Int.reduceEq, Int.reduceLT, Nat.reduceAdd, Nat.reduceSub, Nat.reduceMul, Nat.reduceLT, Nat.reduceLeDiff, Nat.reduceEqDiff, List.reduceReplicate, reduceIte, sxk]
    refine W.ret ⟨by simp, _, rfl, fun ρ w1 hb => ?_⟩
    simp [den]
end Go.Proofs.Ytblagioibffgcaa
