/-
  Instruments: keys, what is written, what sounds, what fits: walks.
-/
import Derived.Test.YtpbohhfpbjofaaaDoorI1
set_option linter.unusedVariables false
set_option linter.unusedSimpArgs false
set_option maxHeartbeats 1000000
namespace Go.Proofs.YtpbohhfpbjofaaaDoor
open Go Go.SX Go.RowKit

theorem GN.on {w w1 : World} {S : Nat → Prop} (h : GN w) (hk : Keep S w w1) (hS : S 0) : GN w1 := ⟨h.1.frame (hk.block _ hS h.2), Nat.lt_of_lt_of_le h.2 hk.size⟩
theorem GivesB.mono {P : Program} {f : FuncId} {args : Array Value} {w : World} {C : Nat → Prop} {Q Q' : Value → World → Prop} (h : GivesB P f args w C Q) (hq : ∀ v w', Q v w' → Q' v w') : GivesB P f args w C Q' :=
  Calls.mono h fun _ _ ⟨v, he, hb, hq'⟩ => ⟨v, he, hb, hq v _ hq'⟩
/-- function 35 -/
theorem keyCl_spec {w : World} {b9 : Nat} {o1 : Int} (hbx : w.heap[b9]? = some (.cells #[.int .i64 o1] 3 (0, 0))) (k x y : Int) : GivesB Tryd.prog 35 #[.int .i64 k, .agg #[.int .i64 x, .int .i64 y], .pointer (some ⟨b9, 0, none⟩)] w (fun c => c = b9) fun r w' => r = .tuple #[] ∧ w'.heap[b9]? = some (.cells #[.int .i64 k] 3 (0, 0)) := by
  refine giveO_of (w := w) (boxO 3 b9 [.int .i64 o1]) b9 [.val (.int .i64 k), .agg [.val (.int .i64 x), .val (.int .i64 y)], .val (.pointer (some ⟨b9, 0, none⟩))] 6 [] Tryd.func35 rfl rfl rfl (by simp) rfl rfl (fun _ _ => boxO_holds (by rw [maxLen_eq]; simp) hbx) (fun _ _ => rfl) ?_
  refine W.pure (ds := []) rfl fun K1 hK1 => ?_
  simp only [sx, ty, Bool.false_eq_true, Int.reduceEq, Int.reduceLT, Nat.reduceAdd, Nat.reduceSub, Nat.reduceMul, Nat.reduceLT, Nat.reduceLeDiff, Nat.reduceEqDiff, List.reduceReplicate, reduceIte, beq_self_eq_true, bne_self_eq_false, Int.reduceBEq, Int.reduceBNe, Bool.or_false, Bool.false_or, Bool.not_false, Bool.not_true]; with_reducible refine hK1 _ ?_; clear hK1
  refine W.region ?_
  refine WO.go 1 (ds := []) rfl ?_
  simp only [sx, ty, Bool.false_eq_true, Int.reduceEq, Int.reduceLT, Nat.reduceAdd, Nat.reduceSub, Nat.reduceMul, Nat.reduceLT, Nat.reduceLeDiff, Nat.reduceEqDiff, List.reduceReplicate, reduceIte, beq_self_eq_true, bne_self_eq_false, Int.reduceBEq, Int.reduceBNe, Bool.or_false, Bool.false_or, Bool.not_false, Bool.not_true]
  refine WO.storeRow (k := 0) (sz := 1) (u := (.int .i64 k)) 0 [.int .i64 k] rfl (ds := []) rfl rfl rfl rfl rfl rfl (by simp) (by simp) ⟨_, rfl, fun _ => rfl⟩ rfl (by simp [Value.oneCell']) sz3 ?_
  simp only [sx, ty, Bool.false_eq_true, Int.reduceEq, Int.reduceLT, Nat.reduceAdd, Nat.reduceSub, Nat.reduceMul, Nat.reduceLT, Nat.reduceLeDiff, Nat.reduceEqDiff, List.reduceReplicate, reduceIte, beq_self_eq_true, bne_self_eq_false, Int.reduceBEq, Int.reduceBNe, Bool.or_false, Bool.false_or, Bool.not_false, Bool.not_true]
  with_reducible refine WO.nil ?_
  refine ⟨by simp, ?_⟩
  simp only [sx, ty, Bool.false_eq_true, Int.reduceEq, Int.reduceLT, Nat.reduceAdd, Nat.reduceSub, Nat.reduceMul, Nat.reduceLT, Nat.reduceLeDiff, Nat.reduceEqDiff, List.reduceReplicate, reduceIte, sxr, beq_self_eq_true, bne_self_eq_false, Int.reduceBEq, Int.reduceBNe, Bool.or_false, Bool.false_or, Bool.not_false, Bool.not_true]
  intro ρ w1 hb
  exact ⟨rfl, box_heap (cs := [.int .i64 k]) hb (k := 0) rfl⟩
/-- function 37 -/
theorem writeCl_spec {w : World} {b9 : Nat} {o1 o2 : Int} (hbx : w.heap[b9]? = some (.cells #[.int .i64 o1, .int .i64 o2] 23 (0, 0))) (k x y : Int) : GivesB Tryd.prog 37 #[.int .i64 k, .agg #[.int .i64 x, .int .i64 y], .pointer (some ⟨b9, 0, none⟩)] w (fun c => c = b9) fun r w' => r = .tuple #[] ∧ w'.heap[b9]? = some (.cells #[.int .i64 x, .int .i64 y] 23 (0, 0)) := by
  refine giveO_of (w := w) (boxO 23 b9 [.int .i64 o1, .int .i64 o2]) b9 [.val (.int .i64 k), .agg [.val (.int .i64 x), .val (.int .i64 y)], .val (.pointer (some ⟨b9, 0, none⟩))] 6 [] Tryd.func37 rfl rfl rfl (by simp) rfl rfl (fun _ _ => boxO_holds (by rw [maxLen_eq]; simp) hbx) (fun _ _ => rfl) ?_
  refine W.pure (ds := []) rfl fun K1 hK1 => ?_
  simp only [sx, ty, Bool.false_eq_true, Int.reduceEq, Int.reduceLT, Nat.reduceAdd, Nat.reduceSub, Nat.reduceMul, Nat.reduceLT, Nat.reduceLeDiff, Nat.reduceEqDiff, List.reduceReplicate, reduceIte, beq_self_eq_true, bne_self_eq_false, Int.reduceBEq, Int.reduceBNe, Bool.or_false, Bool.false_or, Bool.not_false, Bool.not_true]; with_reducible refine hK1 _ ?_; clear hK1
  refine W.region ?_
  refine WO.go 1 (ds := []) rfl ?_
  simp only [sx, ty, Bool.false_eq_true, Int.reduceEq, Int.reduceLT, Nat.reduceAdd, Nat.reduceSub, Nat.reduceMul, Nat.reduceLT, Nat.reduceLeDiff, Nat.reduceEqDiff, List.reduceReplicate, reduceIte, beq_self_eq_true, bne_self_eq_false, Int.reduceBEq, Int.reduceBNe, Bool.or_false, Bool.false_or, Bool.not_false, Bool.not_true]
  refine WO.storeRow (k := 0) (sz := 1) (u := .agg #[.int .i64 x, .int .i64 y]) 0 [.int .i64 x, .int .i64 y] rfl (ds := []) rfl rfl rfl rfl rfl rfl (by simp) (by simp) ⟨_, rfl, fun _ => rfl⟩ rfl (by simp [Value.oneCell']) sz23 ?_
  simp only [sx, ty, Bool.false_eq_true, Int.reduceEq, Int.reduceLT, Nat.reduceAdd, Nat.reduceSub, Nat.reduceMul, Nat.reduceLT, Nat.reduceLeDiff, Nat.reduceEqDiff, List.reduceReplicate, reduceIte, beq_self_eq_true, bne_self_eq_false, Int.reduceBEq, Int.reduceBNe, Bool.or_false, Bool.false_or, Bool.not_false, Bool.not_true]
  with_reducible refine WO.nil ?_
  refine ⟨by simp, ?_⟩
  simp only [sx, ty, Bool.false_eq_true, Int.reduceEq, Int.reduceLT, Nat.reduceAdd, Nat.reduceSub, Nat.reduceMul, Nat.reduceLT, Nat.reduceLeDiff, Nat.reduceEqDiff, List.reduceReplicate, reduceIte, sxr, beq_self_eq_true, bne_self_eq_false, Int.reduceBEq, Int.reduceBNe, Bool.or_false, Bool.false_or, Bool.not_false, Bool.not_true]
  intro ρ w1 hb
  exact ⟨rfl, box_heap (cs := [.int .i64 x, .int .i64 y]) hb (k := 0) rfl⟩
/-- function 41 -/
theorem soundCl_spec {w : World} {b9 : Nat} {o1 o2 : Int} (hbx : w.heap[b9]? = some (.cells #[.int .i64 o1, .int .i64 o2] 23 (0, 0))) (k x y : Int) : GivesB Tryd.prog 41 #[.int .i64 k, .agg #[.int .i64 x, .int .i64 y], .pointer (some ⟨b9, 0, none⟩)] w (fun c => c = b9) fun r w' => r = .tuple #[] ∧ w'.heap[b9]? = some (.cells #[.int .i64 x, .int .i64 y] 23 (0, 0)) := by
  refine giveO_of (w := w) (boxO 23 b9 [.int .i64 o1, .int .i64 o2]) b9 [.val (.int .i64 k), .agg [.val (.int .i64 x), .val (.int .i64 y)], .val (.pointer (some ⟨b9, 0, none⟩))] 6 [] Tryd.func41 rfl rfl rfl (by simp) rfl rfl (fun _ _ => boxO_holds (by rw [maxLen_eq]; simp) hbx) (fun _ _ => rfl) ?_
  refine W.pure (ds := []) rfl fun K1 hK1 => ?_
  simp only [sx, ty, Bool.false_eq_true, Int.reduceEq, Int.reduceLT, Nat.reduceAdd, Nat.reduceSub, Nat.reduceMul, Nat.reduceLT, Nat.reduceLeDiff, Nat.reduceEqDiff, List.reduceReplicate, reduceIte, beq_self_eq_true, bne_self_eq_false, Int.reduceBEq, Int.reduceBNe, Bool.or_false, Bool.false_or, Bool.not_false, Bool.not_true]; with_reducible refine hK1 _ ?_; clear hK1
  refine W.region ?_
  refine WO.go 1 (ds := []) rfl ?_
  simp only [sx, ty, Bool.false_eq_true, Int.reduceEq, Int.reduceLT, Nat.reduceAdd, Nat.reduceSub, Nat.reduceMul, Nat.reduceLT, Nat.reduceLeDiff, Nat.reduceEqDiff, List.reduceReplicate, reduceIte, beq_self_eq_true, bne_self_eq_false, Int.reduceBEq, Int.reduceBNe, Bool.or_false, Bool.false_or, Bool.not_false, Bool.not_true]
  refine WO.storeRow (k := 0) (sz := 1) (u := .agg #[.int .i64 x, .int .i64 y]) 0 [.int .i64 x, .int .i64 y] rfl (ds := []) rfl rfl rfl rfl rfl rfl (by simp) (by simp) ⟨_, rfl, fun _ => rfl⟩ rfl (by simp [Value.oneCell']) sz23 ?_
  simp only [sx, ty, Bool.false_eq_true, Int.reduceEq, Int.reduceLT, Nat.reduceAdd, Nat.reduceSub, Nat.reduceMul, Nat.reduceLT, Nat.reduceLeDiff, Nat.reduceEqDiff, List.reduceReplicate, reduceIte, beq_self_eq_true, bne_self_eq_false, Int.reduceBEq, Int.reduceBNe, Bool.or_false, Bool.false_or, Bool.not_false, Bool.not_true]
  with_reducible refine WO.nil ?_
  refine ⟨by simp, ?_⟩
  simp only [sx, ty, Bool.false_eq_true, Int.reduceEq, Int.reduceLT, Nat.reduceAdd, Nat.reduceSub, Nat.reduceMul, Nat.reduceLT, Nat.reduceLeDiff, Nat.reduceEqDiff, List.reduceReplicate, reduceIte, sxr, beq_self_eq_true, bne_self_eq_false, Int.reduceBEq, Int.reduceBNe, Bool.or_false, Bool.false_or, Bool.not_false, Bool.not_true]
  intro ρ w1 hb
  exact ⟨rfl, box_heap (cs := [.int .i64 x, .int .i64 y]) hb (k := 0) rfl⟩

theorem mv_err {k a b : Int} (hf : formed a b = true) : ((moveF k a b).2.2.2 != 0) = !isKey k := by
  cases h : isKey k with
  | true => rw [moveF_yes (by rw [hf, h]; rfl)]; rfl
  | false => rw [moveF_no (by rw [h, Bool.and_false])]; rfl
theorem okI_yes {a b k : Int} {lo hi : Pit} (h1 : writtenF a b lo hi = true) (h2 : isKey k = true) : okI a b lo hi k = true := by unfold okI; rw [h1, h2]; rfl
theorem okI_no1 {a b k : Int} {lo hi : Pit} (h1 : writtenF a b lo hi = false) : okI a b lo hi k = false := by unfold okI; rw [h1]; rfl
theorem okI_no2 {a b k : Int} {lo hi : Pit} (h1 : isKey k = false) : okI a b lo hi k = false := by unfold okI; rw [h1, Bool.and_false]
/-- function 34 -/
theorem moved_spec {w : World} (hN : GN w) (q : Int × Int × Int × Int × Int) (a b : Int) (lo hi : Pit) (k : Int) {K : FuncId} {b9 T : Nat} {old : List Value} (g : Int → Int → Int → List Value) (hgl : ∀ k x y, (g k x y).length ≤ maxLen) (hol : old.length ≤ maxLen) (hne : ¬ 0 = b9) (hK : callOk Tryd.prog K = true) (hbx : w.heap[b9]? = some (.cells old.toArray T (0, 0)))
    (hq : ∀ w1 k x y, w1.heap[b9]? = some (.cells old.toArray T (0, 0)) → GivesB Tryd.prog K #[.int .i64 k, .agg #[.int .i64 x, .int .i64 y], .pointer (some ⟨b9, 0, none⟩)] w1 (fun c => c = b9) fun r w' => r = .tuple #[] ∧ w'.heap[b9]? = some (.cells (g k x y).toArray T (0, 0))) :
    GivesB Tryd.prog 34 #[.agg #[.int .i64 q.1, .int .i64 q.2.1, .int .i64 q.2.2.1, .int .i64 q.2.2.2.1, .int .i64 q.2.2.2.2, .int .i64 a, .int .i64 b, .int .i64 lo.1, .int .i64 lo.2.1, .int .i64 lo.2.2, .int .i64 hi.1, .int .i64 hi.2.1, .int .i64 hi.2.2], .int .i64 k, .func (.func K) #[] #[.pointer (some ⟨b9, 0, none⟩)]] w (fun c => c = b9) fun r w' => r = .bool (okI a b lo hi k) ∧ w'.heap[b9]? = some (.cells (if (okI a b lo hi k) = true then g (mvI a b k).1 (mvI a b k).2.1 (mvI a b k).2.2 else old).toArray T (0, 0)) := by
  refine giveO_of (w := w) (boxO T b9 old) b9 [.agg [.val (.int .i64 q.1), .val (.int .i64 q.2.1), .val (.int .i64 q.2.2.1), .val (.int .i64 q.2.2.2.1), .val (.int .i64 q.2.2.2.2), .val (.int .i64 a), .val (.int .i64 b), .val (.int .i64 lo.1), .val (.int .i64 lo.2.1), .val (.int .i64 lo.2.2), .val (.int .i64 hi.1), .val (.int .i64 hi.2.1), .val (.int .i64 hi.2.2)], .val (.int .i64 k), .val (.func (.func K) #[] #[.pointer (some ⟨b9, 0, none⟩)])] 38 [.tmp 6] Tryd.func34 rfl rfl rfl (by simp) rfl rfl (fun _ _ => boxO_holds hol hbx) (fun _ _ => rfl) ?_
  refine W.pure (ds := []) rfl fun K1 hK1 => ?_
  simp only [sx, ty, Bool.false_eq_true, Int.reduceEq, Int.reduceLT, Nat.reduceAdd, Nat.reduceSub, Nat.reduceMul, Nat.reduceLT, Nat.reduceLeDiff, Nat.reduceEqDiff, List.reduceReplicate, reduceIte, beq_self_eq_true, bne_self_eq_false, Int.reduceBEq, Int.reduceBNe, Bool.or_false, Bool.false_or, Bool.not_false, Bool.not_true]; with_reducible refine hK1 _ ?_; clear hK1
  refine W.seqK fun K2 hK2 => ?_
  refine W.seqK fun K3 hK3 => W.region ?_
  refine WO.go 1 (ds := []) rfl ?_
  simp only [sx, ty, Bool.false_eq_true, Int.reduceEq, Int.reduceLT, Nat.reduceAdd, Nat.reduceSub, Nat.reduceMul, Nat.reduceLT, Nat.reduceLeDiff, Nat.reduceEqDiff, List.reduceReplicate, reduceIte, beq_self_eq_true, bne_self_eq_false, Int.reduceBEq, Int.reduceBNe, Bool.or_false, Bool.false_or, Bool.not_false, Bool.not_true]
  refine WO.call (.bool (writtenF a b lo hi)) (ds := []) rfl rfl rfl rfl co44 (fun ρ w1 hb => written_spec (hN.on (hb.at (S := fun b => ¬ b = b9) (s := w) (by simp)) hne) q a b lo hi) ?_
  refine WO.go 1 (ds := []) rfl ?_
  simp only [sx, ty, Bool.false_eq_true, Int.reduceEq, Int.reduceLT, Nat.reduceAdd, Nat.reduceSub, Nat.reduceMul, Nat.reduceLT, Nat.reduceLeDiff, Nat.reduceEqDiff, List.reduceReplicate, reduceIte, beq_self_eq_true, bne_self_eq_false, Int.reduceBEq, Int.reduceBNe, Bool.or_false, Bool.false_or, Bool.not_false, Bool.not_true]
  with_reducible refine WO.nil ?_
  refine hK3 _ ?_; clear hK3
  refine W.cond rfl rfl (fun hc => ?_) (fun hc => ?_)
  · skip
    have hw : writtenF a b lo hi = false := by simpa using hc
    have hok := okI_no1 (k := k) hw
    refine W.pure (ds := []) rfl fun K4 hK4 => ?_
    simp only [sx, ty, Bool.false_eq_true, Int.reduceEq, Int.reduceLT, Nat.reduceAdd, Nat.reduceSub, Nat.reduceMul, Nat.reduceLT, Nat.reduceLeDiff, Nat.reduceEqDiff, List.reduceReplicate, reduceIte, beq_self_eq_true, bne_self_eq_false, Int.reduceBEq, Int.reduceBNe, Bool.or_false, Bool.false_or, Bool.not_false, Bool.not_true]; with_reducible refine hK4 _ ?_; clear hK4
    refine W.ret ?_
    refine ⟨by simp, ?_⟩
    simp only [sx, ty, Bool.false_eq_true, Int.reduceEq, Int.reduceLT, Nat.reduceAdd, Nat.reduceSub, Nat.reduceMul, Nat.reduceLT, Nat.reduceLeDiff, Nat.reduceEqDiff, List.reduceReplicate, reduceIte, sxr, beq_self_eq_true, bne_self_eq_false, Int.reduceBEq, Int.reduceBNe, Bool.or_false, Bool.false_or, Bool.not_false, Bool.not_true]
    intro ρ w1 hb
    rw [hok]
    exact ⟨rfl, by rw [if_neg (by decide)]; exact box_heap hb (k := 0) rfl⟩
  · skip
    have hw : writtenF a b lo hi = true := by simpa using hc
    have hwf := written_iff.1 hw
    have hfb := formed_iff.1 hwf.1.1
    have hfn : formed (-a) (-b) = true := formed_iff.2 (by omega)
    refine W.skip (hK2 _ ?_)
    refine W.seqK fun K5 hK5 => W.region ?_
    refine WO.go 2 (ds := []) rfl ?_
    simp only [sx, ty, Bool.false_eq_true, Int.reduceEq, Int.reduceLT, Nat.reduceAdd, Nat.reduceSub, Nat.reduceMul, Nat.reduceLT, Nat.reduceLeDiff, Nat.reduceEqDiff, List.reduceReplicate, reduceIte, beq_self_eq_true, bne_self_eq_false, Int.reduceBEq, Int.reduceBNe, Bool.or_false, Bool.false_or, Bool.not_false, Bool.not_true]
    refine WO.call (.tuple #[.agg #[.int .i64 (-a), .int .i64 (-b)], .int .i64 0]) (ds := []) rfl rfl rfl rfl co42 (fun ρ w1 hb => by have := back_spec w1 a b; rwa [backF_yes hwf.1.1] at this) ?_
    refine WO.go 6 (ds := []) rfl ?_
    simp only [sx, ty, Bool.false_eq_true, Int.reduceEq, Int.reduceLT, Nat.reduceAdd, Nat.reduceSub, Nat.reduceMul, Nat.reduceLT, Nat.reduceLeDiff, Nat.reduceEqDiff, List.reduceReplicate, reduceIte, beq_self_eq_true, bne_self_eq_false, Int.reduceBEq, Int.reduceBNe, Bool.or_false, Bool.false_or, Bool.not_false, Bool.not_true]
    with_reducible refine WO.nil ?_
    refine hK5 _ ?_; clear hK5
    refine W.seqK fun K6 hK6 => W.region ?_
    refine WO.go 2 (ds := []) rfl ?_
    simp only [sx, ty, Bool.false_eq_true, Int.reduceEq, Int.reduceLT, Nat.reduceAdd, Nat.reduceSub, Nat.reduceMul, Nat.reduceLT, Nat.reduceLeDiff, Nat.reduceEqDiff, List.reduceReplicate, reduceIte, beq_self_eq_true, bne_self_eq_false, Int.reduceBEq, Int.reduceBNe, Bool.or_false, Bool.false_or, Bool.not_false, Bool.not_true]
    refine WO.call (.tuple #[.int .i64 (moveF k (-a) (-b)).1, .agg #[.int .i64 (moveF k (-a) (-b)).2.1, .int .i64 (moveF k (-a) (-b)).2.2.1], .int .i64 (moveF k (-a) (-b)).2.2.2]) (ds := []) rfl rfl rfl rfl co61 (fun ρ w1 hb => move_spec w1 k (-a) (-b)) ?_
    refine WO.go 8 (ds := []) rfl ?_
    simp only [sx, ty, Bool.false_eq_true, Int.reduceEq, Int.reduceLT, Nat.reduceAdd, Nat.reduceSub, Nat.reduceMul, Nat.reduceLT, Nat.reduceLeDiff, Nat.reduceEqDiff, List.reduceReplicate, reduceIte, beq_self_eq_true, bne_self_eq_false, Int.reduceBEq, Int.reduceBNe, Bool.or_false, Bool.false_or, Bool.not_false, Bool.not_true]
    with_reducible refine WO.nil ?_
    refine hK6 _ ?_; clear hK6
    refine W.seqK fun K7 hK7 => ?_
    refine W.join 33 (.val (.bool (!isKey k))) [2, 9, 10] (W.region ?_) ?_
    · skip
      refine WO.go 3 (ds := [some 28, some 29, some 30, some 31, some 32, some 33]) rfl ?_
      simp only [sx, ty, Bool.false_eq_true, Int.reduceEq, Int.reduceLT, Nat.reduceAdd, Nat.reduceSub, Nat.reduceMul, Nat.reduceLT, Nat.reduceLeDiff, Nat.reduceEqDiff, List.reduceReplicate, reduceIte, beq_self_eq_true, bne_self_eq_false, Int.reduceBEq, Int.reduceBNe, Bool.or_false, Bool.false_or, Bool.not_false, Bool.not_true]
      refine WO.cases 30 _ rfl (fun hg30 => ?_) (fun hg30 => ?_)
      · skip
        simp at hg30
      · skip
        refine WO.go 3 (ds := [some 28, some 29, some 30, some 31, some 32, some 33]) rfl ?_
        simp only [sx, ty, Bool.false_eq_true, Int.reduceEq, Int.reduceLT, Nat.reduceAdd, Nat.reduceSub, Nat.reduceMul, Nat.reduceLT, Nat.reduceLeDiff, Nat.reduceEqDiff, List.reduceReplicate, reduceIte, beq_self_eq_true, bne_self_eq_false, Int.reduceBEq, Int.reduceBNe, Bool.or_false, Bool.false_or, Bool.not_false, Bool.not_true]
        with_reducible refine WO.nil ?_
        refine ⟨rfl, ?_, ⟨_, rfl⟩, by simp [Own.bnd, bndL, bnd, boxO], by simp⟩
        simp [getE, bnd, keepE, mv_err hfn]
    · simp only [sx, ty, Bool.false_eq_true, Int.reduceEq, Int.reduceLT, Nat.reduceAdd, Nat.reduceSub, Nat.reduceMul, Nat.reduceLT, Nat.reduceLeDiff, Nat.reduceEqDiff, List.reduceReplicate, reduceIte, sxk, beq_self_eq_true, bne_self_eq_false, Int.reduceBEq, Int.reduceBNe, Bool.or_false, Bool.false_or, Bool.not_false, Bool.not_true]
      refine W.cond rfl rfl (fun hc => ?_) (fun hc => ?_)
      · skip
        have hk : isKey k = false := by simpa using hc
        have hok := okI_no2 (a := a) (b := b) (lo := lo) (hi := hi) hk
        refine W.pure (ds := []) rfl fun K9 hK9 => ?_
        simp only [sx, ty, Bool.false_eq_true, Int.reduceEq, Int.reduceLT, Nat.reduceAdd, Nat.reduceSub, Nat.reduceMul, Nat.reduceLT, Nat.reduceLeDiff, Nat.reduceEqDiff, List.reduceReplicate, reduceIte, beq_self_eq_true, bne_self_eq_false, Int.reduceBEq, Int.reduceBNe, Bool.or_false, Bool.false_or, Bool.not_false, Bool.not_true]; with_reducible refine hK9 _ ?_; clear hK9
        refine W.ret ?_
        refine ⟨by simp, ?_⟩
        simp only [sx, ty, Bool.false_eq_true, Int.reduceEq, Int.reduceLT, Nat.reduceAdd, Nat.reduceSub, Nat.reduceMul, Nat.reduceLT, Nat.reduceLeDiff, Nat.reduceEqDiff, List.reduceReplicate, reduceIte, sxr, beq_self_eq_true, bne_self_eq_false, Int.reduceBEq, Int.reduceBNe, Bool.or_false, Bool.false_or, Bool.not_false, Bool.not_true]
        intro ρ w1 hb
        rw [hok]
        exact ⟨rfl, by rw [if_neg (by decide)]; exact box_heap hb (k := 0) rfl⟩
      · skip
        have hk : isKey k = true := by simpa using hc
        have hok := okI_yes hw hk
        refine W.skip (hK7 _ ?_)
        refine W.seqK fun K10 hK10 => W.region ?_
        refine WO.go 3 (ds := []) rfl ?_
        simp only [sx, ty, Bool.false_eq_true, Int.reduceEq, Int.reduceLT, Nat.reduceAdd, Nat.reduceSub, Nat.reduceMul, Nat.reduceLT, Nat.reduceLeDiff, Nat.reduceEqDiff, List.reduceReplicate, reduceIte, beq_self_eq_true, bne_self_eq_false, Int.reduceBEq, Int.reduceBNe, Bool.or_false, Bool.false_or, Bool.not_false, Bool.not_true]
        refine WO.callBoxO (k := 0) (cs := old) (g (mvI a b k).1 (mvI a b k).2.1 (mvI a b k).2.2) (.tuple #[]) (ds := []) rfl rfl rfl rfl hK rfl (hgl _ _ _) (fun ρ w1 hb hbx1 => by have := hq w1 (moveF k (-a) (-b)).1 (moveF k (-a) (-b)).2.1 (moveF k (-a) (-b)).2.2.1 hbx1; simpa [denL_eq, den, denL, mvI] using this) ?_
        simp only [sx, ty, Bool.false_eq_true, Int.reduceEq, Int.reduceLT, Nat.reduceAdd, Nat.reduceSub, Nat.reduceMul, Nat.reduceLT, Nat.reduceLeDiff, Nat.reduceEqDiff, List.reduceReplicate, reduceIte, beq_self_eq_true, bne_self_eq_false, Int.reduceBEq, Int.reduceBNe, Bool.or_false, Bool.false_or, Bool.not_false, Bool.not_true]
        with_reducible refine WO.nil ?_
        refine hK10 _ ?_; clear hK10
        refine W.pure (ds := []) rfl fun K11 hK11 => ?_
        simp only [sx, ty, Bool.false_eq_true, Int.reduceEq, Int.reduceLT, Nat.reduceAdd, Nat.reduceSub, Nat.reduceMul, Nat.reduceLT, Nat.reduceLeDiff, Nat.reduceEqDiff, List.reduceReplicate, reduceIte, beq_self_eq_true, bne_self_eq_false, Int.reduceBEq, Int.reduceBNe, Bool.or_false, Bool.false_or, Bool.not_false, Bool.not_true]; with_reducible refine hK11 _ ?_; clear hK11
        refine W.ret ?_
        refine ⟨by simp, ?_⟩
        simp only [sx, ty, Bool.false_eq_true, Int.reduceEq, Int.reduceLT, Nat.reduceAdd, Nat.reduceSub, Nat.reduceMul, Nat.reduceLT, Nat.reduceLeDiff, Nat.reduceEqDiff, List.reduceReplicate, reduceIte, sxr, beq_self_eq_true, bne_self_eq_false, Int.reduceBEq, Int.reduceBNe, Bool.or_false, Bool.false_or, Bool.not_false, Bool.not_true]
        intro ρ w1 hb
        rw [hok]
        exact ⟨rfl, by rw [if_pos rfl]; exact box_heap hb (k := 0) rfl⟩

theorem moved_key {w : World} (hN : GN w) (q : Int × Int × Int × Int × Int) (a b : Int) (lo hi : Pit) (k : Int) {b9 : Nat} (hne : ¬ 0 = b9) (hbx : w.heap[b9]? = some (.cells #[.int .i64 0] 3 (0, 0))) : GivesB Tryd.prog 34 #[.agg #[.int .i64 q.1, .int .i64 q.2.1, .int .i64 q.2.2.1, .int .i64 q.2.2.2.1, .int .i64 q.2.2.2.2, .int .i64 a, .int .i64 b, .int .i64 lo.1, .int .i64 lo.2.1, .int .i64 lo.2.2, .int .i64 hi.1, .int .i64 hi.2.1, .int .i64 hi.2.2], .int .i64 k, .func (.func 35) #[] #[.pointer (some ⟨b9, 0, none⟩)]] w (fun c => c = b9)
    fun r w' => r = .bool (okI a b lo hi k) ∧ w'.heap[b9]? = some (.cells #[.int .i64 (if (okI a b lo hi k) = true then (mvI a b k).1 else 0)] 3 (0, 0)) :=
  GivesB.mono (moved_spec hN q a b lo hi k (T := 3) (old := [.int .i64 0]) (fun k x y => [.int .i64 k]) (fun _ _ _ => by rw [maxLen_eq]; simp) (by rw [maxLen_eq]; simp) hne co35 hbx fun w1 k x y h => keyCl_spec h k x y) fun r w' ⟨h1, h2⟩ => ⟨h1, by rw [h2]; split <;> rfl⟩
theorem moved_write {w : World} (hN : GN w) (q : Int × Int × Int × Int × Int) (a b : Int) (lo hi : Pit) (k : Int) {b9 : Nat} (hne : ¬ 0 = b9) (hbx : w.heap[b9]? = some (.cells #[.int .i64 0, .int .i64 0] 23 (0, 0))) : GivesB Tryd.prog 34 #[.agg #[.int .i64 q.1, .int .i64 q.2.1, .int .i64 q.2.2.1, .int .i64 q.2.2.2.1, .int .i64 q.2.2.2.2, .int .i64 a, .int .i64 b, .int .i64 lo.1, .int .i64 lo.2.1, .int .i64 lo.2.2, .int .i64 hi.1, .int .i64 hi.2.1, .int .i64 hi.2.2], .int .i64 k, .func (.func 37) #[] #[.pointer (some ⟨b9, 0, none⟩)]] w (fun c => c = b9)
    fun r w' => r = .bool (okI a b lo hi k) ∧ w'.heap[b9]? = some (.cells #[.int .i64 (if (okI a b lo hi k) = true then (mvI a b k).2.1 else 0), .int .i64 (if (okI a b lo hi k) = true then (mvI a b k).2.2 else 0)] 23 (0, 0)) :=
  GivesB.mono (moved_spec hN q a b lo hi k (T := 23) (old := [.int .i64 0, .int .i64 0]) (fun k x y => [.int .i64 x, .int .i64 y]) (fun _ _ _ => by rw [maxLen_eq]; simp) (by rw [maxLen_eq]; simp) hne co37 hbx fun w1 k x y h => writeCl_spec h k x y) fun r w' ⟨h1, h2⟩ => ⟨h1, by rw [h2]; split <;> rfl⟩
theorem moved_sound {w : World} (hN : GN w) (q : Int × Int × Int × Int × Int) (a b : Int) (lo hi : Pit) (k : Int) {b9 : Nat} (hne : ¬ 0 = b9) (hbx : w.heap[b9]? = some (.cells #[.int .i64 0, .int .i64 0] 23 (0, 0))) : GivesB Tryd.prog 34 #[.agg #[.int .i64 q.1, .int .i64 q.2.1, .int .i64 q.2.2.1, .int .i64 q.2.2.2.1, .int .i64 q.2.2.2.2, .int .i64 a, .int .i64 b, .int .i64 lo.1, .int .i64 lo.2.1, .int .i64 lo.2.2, .int .i64 hi.1, .int .i64 hi.2.1, .int .i64 hi.2.2], .int .i64 k, .func (.func 41) #[] #[.pointer (some ⟨b9, 0, none⟩)]] w (fun c => c = b9)
    fun r w' => r = .bool (okI a b lo hi k) ∧ w'.heap[b9]? = some (.cells #[.int .i64 (if (okI a b lo hi k) = true then (mvI a b k).2.1 else 0), .int .i64 (if (okI a b lo hi k) = true then (mvI a b k).2.2 else 0)] 23 (0, 0)) :=
  GivesB.mono (moved_spec hN q a b lo hi k (T := 23) (old := [.int .i64 0, .int .i64 0]) (fun k x y => [.int .i64 x, .int .i64 y]) (fun _ _ _ => by rw [maxLen_eq]; simp) (by rw [maxLen_eq]; simp) hne co41 hbx fun w1 k x y h => soundCl_spec h k x y) fun r w' ⟨h1, h2⟩ => ⟨h1, by rw [h2]; split <;> rfl⟩
/-- function 11 -/
theorem ikey_spec {w : World} (hN : GN w) (q : Int × Int × Int × Int × Int) (a b : Int) (lo hi : Pit) (k : Int) : Gives Tryd.prog 11 #[.agg #[.int .i64 q.1, .int .i64 q.2.1, .int .i64 q.2.2.1, .int .i64 q.2.2.2.1, .int .i64 q.2.2.2.2, .int .i64 a, .int .i64 b, .int .i64 lo.1, .int .i64 lo.2.1, .int .i64 lo.2.2, .int .i64 hi.1, .int .i64 hi.2.1, .int .i64 hi.2.2], .int .i64 k] w fun r _ => r = .tuple #[.int .i64 (keyF a b lo hi k).1, .int .i64 (keyF a b lo hi k).2] := by
  refine gives_of [.agg [.val (.int .i64 q.1), .val (.int .i64 q.2.1), .val (.int .i64 q.2.2.1), .val (.int .i64 q.2.2.2.1), .val (.int .i64 q.2.2.2.2), .val (.int .i64 a), .val (.int .i64 b), .val (.int .i64 lo.1), .val (.int .i64 lo.2.1), .val (.int .i64 lo.2.2), .val (.int .i64 hi.1), .val (.int .i64 hi.2.1), .val (.int .i64 hi.2.2)], .val (.int .i64 k)] 13 [.tmp 4, .tmp 5] Tryd.func11 rfl rfl rfl (by simp) rfl rfl ?_
  refine W.pure (ds := []) rfl fun K1 hK1 => ?_
  simp only [sx, ty, Bool.false_eq_true, Int.reduceEq, Int.reduceLT, Nat.reduceAdd, Nat.reduceSub, Nat.reduceMul, Nat.reduceLT, Nat.reduceLeDiff, Nat.reduceEqDiff, List.reduceReplicate, reduceIte, beq_self_eq_true, bne_self_eq_false, Int.reduceBEq, Int.reduceBNe, Bool.or_false, Bool.false_or, Bool.not_false, Bool.not_true]; with_reducible refine hK1 _ ?_; clear hK1
  refine W.pure (ds := []) rfl fun K2 hK2 => ?_
  simp only [sx, ty, Bool.false_eq_true, Int.reduceEq, Int.reduceLT, Nat.reduceAdd, Nat.reduceSub, Nat.reduceMul, Nat.reduceLT, Nat.reduceLeDiff, Nat.reduceEqDiff, List.reduceReplicate, reduceIte, beq_self_eq_true, bne_self_eq_false, Int.reduceBEq, Int.reduceBNe, Bool.or_false, Bool.false_or, Bool.not_false, Bool.not_true]; with_reducible refine hK2 _ ?_; clear hK2
  refine W.seqK fun K3 hK3 => ?_
  refine W.seqK fun K4 hK4 => W.region ?_
  refine WO.go 3 (ds := []) rfl ?_
  simp only [sx, ty, Bool.false_eq_true, Int.reduceEq, Int.reduceLT, Nat.reduceAdd, Nat.reduceSub, Nat.reduceMul, Nat.reduceLT, Nat.reduceLeDiff, Nat.reduceEqDiff, List.reduceReplicate, reduceIte, beq_self_eq_true, bne_self_eq_false, Int.reduceBEq, Int.reduceBNe, Bool.or_false, Bool.false_or, Bool.not_false, Bool.not_true]
  refine WO.callBox1 (k := 1) [.val (.int .i64 (if (okI a b lo hi k) = true then (mvI a b k).1 else 0))] (.bool (okI a b lo hi k)) (ds := []) rfl rfl rfl rfl co34 rfl rfl (fun ρ w1 hb hbx => by have := moved_key (hN.now (hb.first (by simp))) q a b lo hi k (fun h9 => by have h8 := own_new (w0 := w) hb (by simp) (k := 1) rfl rfl; have h7 := hN.2; omega) hbx; simpa [denL_eq, den, denL] using this) ?_
  refine WO.go 1 (ds := []) rfl ?_
  simp only [sx, ty, Bool.false_eq_true, Int.reduceEq, Int.reduceLT, Nat.reduceAdd, Nat.reduceSub, Nat.reduceMul, Nat.reduceLT, Nat.reduceLeDiff, Nat.reduceEqDiff, List.reduceReplicate, reduceIte, beq_self_eq_true, bne_self_eq_false, Int.reduceBEq, Int.reduceBNe, Bool.or_false, Bool.false_or, Bool.not_false, Bool.not_true]
  with_reducible refine WO.nil ?_
  refine hK4 _ ?_; clear hK4
  refine W.cond rfl rfl (fun hc => ?_) (fun hc => ?_)
  · skip
    have hok : (okI a b lo hi k) = false := by simpa using hc
    refine W.pure (ds := []) rfl fun K5 hK5 => ?_
    simp only [sx, ty, Bool.false_eq_true, Int.reduceEq, Int.reduceLT, Nat.reduceAdd, Nat.reduceSub, Nat.reduceMul, Nat.reduceLT, Nat.reduceLeDiff, Nat.reduceEqDiff, List.reduceReplicate, reduceIte, beq_self_eq_true, bne_self_eq_false, Int.reduceBEq, Int.reduceBNe, Bool.or_false, Bool.false_or, Bool.not_false, Bool.not_true]; with_reducible refine hK5 _ ?_; clear hK5
    refine W.ret ⟨by simp, _, rfl, fun ρ w1 hb => ?_⟩
    rw [keyF_no hok]; rfl
  · skip
    have hok : (okI a b lo hi k) = true := by simpa using hc
    simp only [hok, if_true]
    refine W.skip (hK3 _ ?_)
    refine W.pure (ds := []) rfl fun K6 hK6 => ?_
    simp only [sx, ty, Bool.false_eq_true, Int.reduceEq, Int.reduceLT, Nat.reduceAdd, Nat.reduceSub, Nat.reduceMul, Nat.reduceLT, Nat.reduceLeDiff, Nat.reduceEqDiff, List.reduceReplicate, reduceIte, beq_self_eq_true, bne_self_eq_false, Int.reduceBEq, Int.reduceBNe, Bool.or_false, Bool.false_or, Bool.not_false, Bool.not_true]; with_reducible refine hK6 _ ?_; clear hK6
    refine W.ret ⟨by simp, _, rfl, fun ρ w1 hb => ?_⟩
    rw [keyF_yes hok]; rfl
/-- function 13 -/
theorem iwrite_spec {w : World} (hN : GN w) (q : Int × Int × Int × Int × Int) (a b : Int) (lo hi : Pit) (k : Int) (c : Pit) : Gives Tryd.prog 13 #[.agg #[.int .i64 q.1, .int .i64 q.2.1, .int .i64 q.2.2.1, .int .i64 q.2.2.2.1, .int .i64 q.2.2.2.2, .int .i64 a, .int .i64 b, .int .i64 lo.1, .int .i64 lo.2.1, .int .i64 lo.2.2, .int .i64 hi.1, .int .i64 hi.2.1, .int .i64 hi.2.2], .int .i64 k, .agg #[.int .i64 c.1, .int .i64 c.2.1, .int .i64 c.2.2]] w fun r _ => r = .tuple #[.agg #[.int .i64 (writeF a b lo hi k c).1.1, .int .i64 (writeF a b lo hi k c).1.2.1, .int .i64 (writeF a b lo hi k c).1.2.2], .int .i64 (writeF a b lo hi k c).2] := by
  refine gives_of [.agg [.val (.int .i64 q.1), .val (.int .i64 q.2.1), .val (.int .i64 q.2.2.1), .val (.int .i64 q.2.2.2.1), .val (.int .i64 q.2.2.2.2), .val (.int .i64 a), .val (.int .i64 b), .val (.int .i64 lo.1), .val (.int .i64 lo.2.1), .val (.int .i64 lo.2.2), .val (.int .i64 hi.1), .val (.int .i64 hi.2.1), .val (.int .i64 hi.2.2)], .val (.int .i64 k), .agg [.val (.int .i64 c.1), .val (.int .i64 c.2.1), .val (.int .i64 c.2.2)]] 25 [.cell 6 25, .tmp 7] Tryd.func13 rfl rfl rfl (by simp) rfl rfl ?_
  refine W.pure (ds := []) rfl fun K1 hK1 => ?_
  simp only [sx, ty, Bool.false_eq_true, Int.reduceEq, Int.reduceLT, Nat.reduceAdd, Nat.reduceSub, Nat.reduceMul, Nat.reduceLT, Nat.reduceLeDiff, Nat.reduceEqDiff, List.reduceReplicate, reduceIte, beq_self_eq_true, bne_self_eq_false, Int.reduceBEq, Int.reduceBNe, Bool.or_false, Bool.false_or, Bool.not_false, Bool.not_true]; with_reducible refine hK1 _ ?_; clear hK1
  refine W.pure (ds := []) rfl fun K2 hK2 => ?_
  simp only [sx, ty, Bool.false_eq_true, Int.reduceEq, Int.reduceLT, Nat.reduceAdd, Nat.reduceSub, Nat.reduceMul, Nat.reduceLT, Nat.reduceLeDiff, Nat.reduceEqDiff, List.reduceReplicate, reduceIte, beq_self_eq_true, bne_self_eq_false, Int.reduceBEq, Int.reduceBNe, Bool.or_false, Bool.false_or, Bool.not_false, Bool.not_true]; with_reducible refine hK2 _ ?_; clear hK2
  refine W.seqK fun K3 hK3 => ?_
  refine W.seqK fun K4 hK4 => W.region ?_
  refine WO.go 3 (ds := [some 9, some 10, some 11, some 12, some 13, some 14, some 15, some 16, some 17, some 18]) rfl ?_
  simp only [sx, ty, Bool.false_eq_true, Int.reduceEq, Int.reduceLT, Nat.reduceAdd, Nat.reduceSub, Nat.reduceMul, Nat.reduceLT, Nat.reduceLeDiff, Nat.reduceEqDiff, List.reduceReplicate, reduceIte, beq_self_eq_true, bne_self_eq_false, Int.reduceBEq, Int.reduceBNe, Bool.or_false, Bool.false_or, Bool.not_false, Bool.not_true]
  refine WO.callBox1 (k := 3) [.val (.int .i64 (if (okI a b lo hi k) = true then (mvI a b k).2.1 else 0)), .val (.int .i64 (if (okI a b lo hi k) = true then (mvI a b k).2.2 else 0))] (.bool (okI a b lo hi k)) (ds := [some 9, some 10, some 11, some 12, some 13, some 14, some 15, some 16, some 17, some 18]) rfl rfl rfl rfl co34 rfl rfl (fun ρ w1 hb hbx => by have := moved_write (hN.now (hb.first (by simp))) q a b lo hi k (fun h9 => by have h8 := own_new (w0 := w) hb (by simp) (k := 3) rfl rfl; have h7 := hN.2; omega) hbx; simpa [denL_eq, den, denL] using this) ?_
  refine WO.go 2 (ds := [some 9, some 10, some 11, some 12, some 13, some 14, some 15, some 16, some 17, some 18]) rfl ?_
  simp only [sx, ty, Bool.false_eq_true, Int.reduceEq, Int.reduceLT, Nat.reduceAdd, Nat.reduceSub, Nat.reduceMul, Nat.reduceLT, Nat.reduceLeDiff, Nat.reduceEqDiff, List.reduceReplicate, reduceIte, beq_self_eq_true, bne_self_eq_false, Int.reduceBEq, Int.reduceBNe, Bool.or_false, Bool.false_or, Bool.not_false, Bool.not_true]
  refine WO.cases 14 _ rfl (fun hg14 => ?_) (fun hg14 => ?_)
  · skip
    have hok : (okI a b lo hi k) = false := by simpa using hg14
    have hno : ((okI a b lo hi k) && validP c) = false := by rw [hok]; rfl
    refine WO.go 4 (ds := [some 9, some 10, some 11, some 12, some 13, some 14, some 15, some 16, some 17, some 18]) rfl ?_
    simp only [sx, ty, Bool.false_eq_true, Int.reduceEq, Int.reduceLT, Nat.reduceAdd, Nat.reduceSub, Nat.reduceMul, Nat.reduceLT, Nat.reduceLeDiff, Nat.reduceEqDiff, List.reduceReplicate, reduceIte, beq_self_eq_true, bne_self_eq_false, Int.reduceBEq, Int.reduceBNe, Bool.or_false, Bool.false_or, Bool.not_false, Bool.not_true]
    with_reducible refine WO.nil ?_
    refine hK4 _ ?_; clear hK4
    refine W.cond rfl rfl (fun hc => ?_) (fun hc => ?_)
    rotate_left
    · skip
      simp at hc
    · skip
      refine W.pure (ds := []) rfl fun K5 hK5 => ?_
      simp only [sx, ty, Bool.false_eq_true, Int.reduceEq, Int.reduceLT, Nat.reduceAdd, Nat.reduceSub, Nat.reduceMul, Nat.reduceLT, Nat.reduceLeDiff, Nat.reduceEqDiff, List.reduceReplicate, reduceIte, beq_self_eq_true, bne_self_eq_false, Int.reduceBEq, Int.reduceBNe, Bool.or_false, Bool.false_or, Bool.not_false, Bool.not_true]; with_reducible refine hK5 _ ?_; clear hK5
      refine W.ret ?_
      refine ⟨by simp, RunR.ex ?_⟩
      simp only [sx, ty, Bool.false_eq_true, Int.reduceEq, Int.reduceLT, Nat.reduceAdd, Nat.reduceSub, Nat.reduceMul, Nat.reduceLT, Nat.reduceLeDiff, Nat.reduceEqDiff, List.reduceReplicate, reduceIte, sxr, beq_self_eq_true, bne_self_eq_false, Int.reduceBEq, Int.reduceBNe, Bool.or_false, Bool.false_or, Bool.not_false, Bool.not_true]
      intro ρ w1 hb
      rw [writeF_no hno]; rfl
  · skip
    have hok : (okI a b lo hi k) = true := by simpa using hg14
    simp only [hok, if_true]
    refine WO.go 1 (ds := [some 9, some 10, some 11, some 12, some 13, some 14, some 15, some 16, some 17, some 18]) rfl ?_
    simp only [sx, ty, Bool.false_eq_true, Int.reduceEq, Int.reduceLT, Nat.reduceAdd, Nat.reduceSub, Nat.reduceMul, Nat.reduceLT, Nat.reduceLeDiff, Nat.reduceEqDiff, List.reduceReplicate, reduceIte, beq_self_eq_true, bne_self_eq_false, Int.reduceBEq, Int.reduceBNe, Bool.or_false, Bool.false_or, Bool.not_false, Bool.not_true]
    refine WO.call (.bool (validP c)) (ds := [some 9, some 10, some 11, some 12, some 13, some 14, some 15, some 16, some 17, some 18]) rfl rfl rfl rfl co22 (fun ρ w1 hb => valid_spec w1 c) ?_
    refine WO.go 2 (ds := [some 9, some 10, some 11, some 12, some 13, some 14, some 15, some 16, some 17, some 18]) rfl ?_
    simp only [sx, ty, Bool.false_eq_true, Int.reduceEq, Int.reduceLT, Nat.reduceAdd, Nat.reduceSub, Nat.reduceMul, Nat.reduceLT, Nat.reduceLeDiff, Nat.reduceEqDiff, List.reduceReplicate, reduceIte, beq_self_eq_true, bne_self_eq_false, Int.reduceBEq, Int.reduceBNe, Bool.or_false, Bool.false_or, Bool.not_false, Bool.not_true]
    with_reducible refine WO.nil ?_
    refine hK4 _ ?_; clear hK4
    refine W.cond rfl rfl (fun hc => ?_) (fun hc => ?_)
    · skip
      have hno : ((okI a b lo hi k) && validP c) = false := by rw [hok]; simpa using hc
      refine W.pure (ds := []) rfl fun K6 hK6 => ?_
      simp only [sx, ty, Bool.false_eq_true, Int.reduceEq, Int.reduceLT, Nat.reduceAdd, Nat.reduceSub, Nat.reduceMul, Nat.reduceLT, Nat.reduceLeDiff, Nat.reduceEqDiff, List.reduceReplicate, reduceIte, beq_self_eq_true, bne_self_eq_false, Int.reduceBEq, Int.reduceBNe, Bool.or_false, Bool.false_or, Bool.not_false, Bool.not_true]; with_reducible refine hK6 _ ?_; clear hK6
      refine W.ret ?_
      refine ⟨by simp, RunR.ex ?_⟩
      simp only [sx, ty, Bool.false_eq_true, Int.reduceEq, Int.reduceLT, Nat.reduceAdd, Nat.reduceSub, Nat.reduceMul, Nat.reduceLT, Nat.reduceLeDiff, Nat.reduceEqDiff, List.reduceReplicate, reduceIte, sxr, beq_self_eq_true, bne_self_eq_false, Int.reduceBEq, Int.reduceBNe, Bool.or_false, Bool.false_or, Bool.not_false, Bool.not_true]
      intro ρ w1 hb
      rw [writeF_no hno]; rfl
    · skip
      have hyes : ((okI a b lo hi k) && validP c) = true := by rw [hok]; simpa using hc
      refine W.skip (hK3 _ ?_)
      refine W.seqK fun K7 hK7 => W.region ?_
      refine WO.go 2 (ds := []) rfl ?_
      simp only [sx, ty, Bool.false_eq_true, Int.reduceEq, Int.reduceLT, Nat.reduceAdd, Nat.reduceSub, Nat.reduceMul, Nat.reduceLT, Nat.reduceLeDiff, Nat.reduceEqDiff, List.reduceReplicate, reduceIte, beq_self_eq_true, bne_self_eq_false, Int.reduceBEq, Int.reduceBNe, Bool.or_false, Bool.false_or, Bool.not_false, Bool.not_true]
      refine WO.call (.tuple #[.agg #[.int .i64 (addF c (mvI a b k).2.1 (mvI a b k).2.2).1.1, .int .i64 (addF c (mvI a b k).2.1 (mvI a b k).2.2).1.2.1, .int .i64 (addF c (mvI a b k).2.1 (mvI a b k).2.2).1.2.2], .int .i64 (addF c (mvI a b k).2.1 (mvI a b k).2.2).2]) (ds := []) rfl rfl rfl rfl co38 (fun ρ w1 hb => add_spec (hN.now (hb.first (by simp))) c _ _) ?_
      refine WO.go 4 (ds := []) rfl ?_
      simp only [sx, ty, Bool.false_eq_true, Int.reduceEq, Int.reduceLT, Nat.reduceAdd, Nat.reduceSub, Nat.reduceMul, Nat.reduceLT, Nat.reduceLeDiff, Nat.reduceEqDiff, List.reduceReplicate, reduceIte, beq_self_eq_true, bne_self_eq_false, Int.reduceBEq, Int.reduceBNe, Bool.or_false, Bool.false_or, Bool.not_false, Bool.not_true]
      with_reducible refine WO.nil ?_
      refine hK7 _ ?_; clear hK7
      refine W.ret ?_
      refine ⟨by simp, RunR.ex ?_⟩
      simp only [sx, ty, Bool.false_eq_true, Int.reduceEq, Int.reduceLT, Nat.reduceAdd, Nat.reduceSub, Nat.reduceMul, Nat.reduceLT, Nat.reduceLeDiff, Nat.reduceEqDiff, List.reduceReplicate, reduceIte, sxr, beq_self_eq_true, bne_self_eq_false, Int.reduceBEq, Int.reduceBNe, Bool.or_false, Bool.false_or, Bool.not_false, Bool.not_true]
      intro ρ w1 hb
      rw [writeF_yes hyes]; rfl
/-- function 15 -/
theorem isnd_spec {w : World} (hN : GN w) (q : Int × Int × Int × Int × Int) (a b : Int) (lo hi : Pit) (k : Int) (c : Pit) : Gives Tryd.prog 15 #[.agg #[.int .i64 q.1, .int .i64 q.2.1, .int .i64 q.2.2.1, .int .i64 q.2.2.2.1, .int .i64 q.2.2.2.2, .int .i64 a, .int .i64 b, .int .i64 lo.1, .int .i64 lo.2.1, .int .i64 lo.2.2, .int .i64 hi.1, .int .i64 hi.2.1, .int .i64 hi.2.2], .int .i64 k, .agg #[.int .i64 c.1, .int .i64 c.2.1, .int .i64 c.2.2]] w fun r _ => r = .tuple #[.agg #[.int .i64 (soundF a b lo hi k c).1.1, .int .i64 (soundF a b lo hi k c).1.2.1, .int .i64 (soundF a b lo hi k c).1.2.2], .int .i64 (soundF a b lo hi k c).2] := by
  refine gives_of [.agg [.val (.int .i64 q.1), .val (.int .i64 q.2.1), .val (.int .i64 q.2.2.1), .val (.int .i64 q.2.2.2.1), .val (.int .i64 q.2.2.2.2), .val (.int .i64 a), .val (.int .i64 b), .val (.int .i64 lo.1), .val (.int .i64 lo.2.1), .val (.int .i64 lo.2.2), .val (.int .i64 hi.1), .val (.int .i64 hi.2.1), .val (.int .i64 hi.2.2)], .val (.int .i64 k), .agg [.val (.int .i64 c.1), .val (.int .i64 c.2.1), .val (.int .i64 c.2.2)]] 36 [.cell 6 25, .tmp 7] Tryd.func15 rfl rfl rfl (by simp) rfl rfl ?_
  refine W.pure (ds := []) rfl fun K1 hK1 => ?_
  simp only [sx, ty, Bool.false_eq_true, Int.reduceEq, Int.reduceLT, Nat.reduceAdd, Nat.reduceSub, Nat.reduceMul, Nat.reduceLT, Nat.reduceLeDiff, Nat.reduceEqDiff, List.reduceReplicate, reduceIte, beq_self_eq_true, bne_self_eq_false, Int.reduceBEq, Int.reduceBNe, Bool.or_false, Bool.false_or, Bool.not_false, Bool.not_true]; with_reducible refine hK1 _ ?_; clear hK1
  refine W.pure (ds := []) rfl fun K2 hK2 => ?_
  simp only [sx, ty, Bool.false_eq_true, Int.reduceEq, Int.reduceLT, Nat.reduceAdd, Nat.reduceSub, Nat.reduceMul, Nat.reduceLT, Nat.reduceLeDiff, Nat.reduceEqDiff, List.reduceReplicate, reduceIte, beq_self_eq_true, bne_self_eq_false, Int.reduceBEq, Int.reduceBNe, Bool.or_false, Bool.false_or, Bool.not_false, Bool.not_true]; with_reducible refine hK2 _ ?_; clear hK2
  refine W.seqK fun K3 hK3 => ?_
  refine W.seqK fun K4 hK4 => W.region ?_
  refine WO.go 3 (ds := [some 11, some 12, some 13, some 14, some 15, some 16, some 17, some 18, some 19, some 20]) rfl ?_
  simp only [sx, ty, Bool.false_eq_true, Int.reduceEq, Int.reduceLT, Nat.reduceAdd, Nat.reduceSub, Nat.reduceMul, Nat.reduceLT, Nat.reduceLeDiff, Nat.reduceEqDiff, List.reduceReplicate, reduceIte, beq_self_eq_true, bne_self_eq_false, Int.reduceBEq, Int.reduceBNe, Bool.or_false, Bool.false_or, Bool.not_false, Bool.not_true]
  refine WO.callBox1 (k := 3) [.val (.int .i64 (if (okI a b lo hi k) = true then (mvI a b k).2.1 else 0)), .val (.int .i64 (if (okI a b lo hi k) = true then (mvI a b k).2.2 else 0))] (.bool (okI a b lo hi k)) (ds := [some 11, some 12, some 13, some 14, some 15, some 16, some 17, some 18, some 19, some 20]) rfl rfl rfl rfl co34 rfl rfl (fun ρ w1 hb hbx => by have := moved_sound (hN.now (hb.first (by simp))) q a b lo hi k (fun h9 => by have h8 := own_new (w0 := w) hb (by simp) (k := 3) rfl rfl; have h7 := hN.2; omega) hbx; simpa [denL_eq, den, denL] using this) ?_
  refine WO.go 2 (ds := [some 11, some 12, some 13, some 14, some 15, some 16, some 17, some 18, some 19, some 20]) rfl ?_
  simp only [sx, ty, Bool.false_eq_true, Int.reduceEq, Int.reduceLT, Nat.reduceAdd, Nat.reduceSub, Nat.reduceMul, Nat.reduceLT, Nat.reduceLeDiff, Nat.reduceEqDiff, List.reduceReplicate, reduceIte, beq_self_eq_true, bne_self_eq_false, Int.reduceBEq, Int.reduceBNe, Bool.or_false, Bool.false_or, Bool.not_false, Bool.not_true]
  refine WO.cases 16 _ rfl (fun hg16 => ?_) (fun hg16 => ?_)
  · skip
    have hok : (okI a b lo hi k) = false := by simpa using hg16
    have hno : ((okI a b lo hi k) && validP c) = false := by rw [hok]; rfl
    refine WO.go 4 (ds := [some 11, some 12, some 13, some 14, some 15, some 16, some 17, some 18, some 19, some 20]) rfl ?_
    simp only [sx, ty, Bool.false_eq_true, Int.reduceEq, Int.reduceLT, Nat.reduceAdd, Nat.reduceSub, Nat.reduceMul, Nat.reduceLT, Nat.reduceLeDiff, Nat.reduceEqDiff, List.reduceReplicate, reduceIte, beq_self_eq_true, bne_self_eq_false, Int.reduceBEq, Int.reduceBNe, Bool.or_false, Bool.false_or, Bool.not_false, Bool.not_true]
    with_reducible refine WO.nil ?_
    refine hK4 _ ?_; clear hK4
    refine W.cond rfl rfl (fun hc => ?_) (fun hc => ?_)
    rotate_left
    · skip
      simp at hc
    · skip
      refine W.pure (ds := []) rfl fun K5 hK5 => ?_
      simp only [sx, ty, Bool.false_eq_true, Int.reduceEq, Int.reduceLT, Nat.reduceAdd, Nat.reduceSub, Nat.reduceMul, Nat.reduceLT, Nat.reduceLeDiff, Nat.reduceEqDiff, List.reduceReplicate, reduceIte, beq_self_eq_true, bne_self_eq_false, Int.reduceBEq, Int.reduceBNe, Bool.or_false, Bool.false_or, Bool.not_false, Bool.not_true]; with_reducible refine hK5 _ ?_; clear hK5
      refine W.ret ?_
      refine ⟨by simp, RunR.ex ?_⟩
      simp only [sx, ty, Bool.false_eq_true, Int.reduceEq, Int.reduceLT, Nat.reduceAdd, Nat.reduceSub, Nat.reduceMul, Nat.reduceLT, Nat.reduceLeDiff, Nat.reduceEqDiff, List.reduceReplicate, reduceIte, sxr, beq_self_eq_true, bne_self_eq_false, Int.reduceBEq, Int.reduceBNe, Bool.or_false, Bool.false_or, Bool.not_false, Bool.not_true]
      intro ρ w1 hb
      rw [soundF_no hno]; rfl
  · skip
    have hok : (okI a b lo hi k) = true := by simpa using hg16
    simp only [hok, if_true]
    have hfA : formed (mvI a b k).2.1 (mvI a b k).2.2 = true := by obtain ⟨t, _, h2, _, _, h5, _⟩ := ok_fact hok; rw [h2]; exact h5
    refine WO.go 1 (ds := [some 11, some 12, some 13, some 14, some 15, some 16, some 17, some 18, some 19, some 20]) rfl ?_
    simp only [sx, ty, Bool.false_eq_true, Int.reduceEq, Int.reduceLT, Nat.reduceAdd, Nat.reduceSub, Nat.reduceMul, Nat.reduceLT, Nat.reduceLeDiff, Nat.reduceEqDiff, List.reduceReplicate, reduceIte, beq_self_eq_true, bne_self_eq_false, Int.reduceBEq, Int.reduceBNe, Bool.or_false, Bool.false_or, Bool.not_false, Bool.not_true]
    refine WO.call (.bool (validP c)) (ds := [some 11, some 12, some 13, some 14, some 15, some 16, some 17, some 18, some 19, some 20]) rfl rfl rfl rfl co22 (fun ρ w1 hb => valid_spec w1 c) ?_
    refine WO.go 2 (ds := [some 11, some 12, some 13, some 14, some 15, some 16, some 17, some 18, some 19, some 20]) rfl ?_
    simp only [sx, ty, Bool.false_eq_true, Int.reduceEq, Int.reduceLT, Nat.reduceAdd, Nat.reduceSub, Nat.reduceMul, Nat.reduceLT, Nat.reduceLeDiff, Nat.reduceEqDiff, List.reduceReplicate, reduceIte, beq_self_eq_true, bne_self_eq_false, Int.reduceBEq, Int.reduceBNe, Bool.or_false, Bool.false_or, Bool.not_false, Bool.not_true]
    with_reducible refine WO.nil ?_
    refine hK4 _ ?_; clear hK4
    refine W.cond rfl rfl (fun hc => ?_) (fun hc => ?_)
    · skip
      have hno : ((okI a b lo hi k) && validP c) = false := by rw [hok]; simpa using hc
      refine W.pure (ds := []) rfl fun K6 hK6 => ?_
      simp only [sx, ty, Bool.false_eq_true, Int.reduceEq, Int.reduceLT, Nat.reduceAdd, Nat.reduceSub, Nat.reduceMul, Nat.reduceLT, Nat.reduceLeDiff, Nat.reduceEqDiff, List.reduceReplicate, reduceIte, beq_self_eq_true, bne_self_eq_false, Int.reduceBEq, Int.reduceBNe, Bool.or_false, Bool.false_or, Bool.not_false, Bool.not_true]; with_reducible refine hK6 _ ?_; clear hK6
      refine W.ret ?_
      refine ⟨by simp, RunR.ex ?_⟩
      simp only [sx, ty, Bool.false_eq_true, Int.reduceEq, Int.reduceLT, Nat.reduceAdd, Nat.reduceSub, Nat.reduceMul, Nat.reduceLT, Nat.reduceLeDiff, Nat.reduceEqDiff, List.reduceReplicate, reduceIte, sxr, beq_self_eq_true, bne_self_eq_false, Int.reduceBEq, Int.reduceBNe, Bool.or_false, Bool.false_or, Bool.not_false, Bool.not_true]
      intro ρ w1 hb
      rw [soundF_no hno]; rfl
    · skip
      have hyes : ((okI a b lo hi k) && validP c) = true := by rw [hok]; simpa using hc
      refine W.skip (hK3 _ ?_)
      refine W.seqK fun K7 hK7 => W.region ?_
      refine WO.go 1 (ds := []) rfl ?_
      simp only [sx, ty, Bool.false_eq_true, Int.reduceEq, Int.reduceLT, Nat.reduceAdd, Nat.reduceSub, Nat.reduceMul, Nat.reduceLT, Nat.reduceLeDiff, Nat.reduceEqDiff, List.reduceReplicate, reduceIte, beq_self_eq_true, bne_self_eq_false, Int.reduceBEq, Int.reduceBNe, Bool.or_false, Bool.false_or, Bool.not_false, Bool.not_true]
      refine WO.call (.tuple #[.agg #[.int .i64 (-(mvI a b k).2.1), .int .i64 (-(mvI a b k).2.2)], .int .i64 0]) (ds := []) rfl rfl rfl rfl co42 (fun ρ w1 hb => by have := back_spec w1 (mvI a b k).2.1 (mvI a b k).2.2; rwa [backF_yes hfA] at this) ?_
      refine WO.go 6 (ds := []) rfl ?_
      simp only [sx, ty, Bool.false_eq_true, Int.reduceEq, Int.reduceLT, Nat.reduceAdd, Nat.reduceSub, Nat.reduceMul, Nat.reduceLT, Nat.reduceLeDiff, Nat.reduceEqDiff, List.reduceReplicate, reduceIte, beq_self_eq_true, bne_self_eq_false, Int.reduceBEq, Int.reduceBNe, Bool.or_false, Bool.false_or, Bool.not_false, Bool.not_true]
      with_reducible refine WO.nil ?_
      refine hK7 _ ?_; clear hK7
      refine W.seqK fun K8 hK8 => ?_
      refine W.pure (ds := []) rfl fun K9 hK9 => ?_
      simp only [sx, ty, Bool.false_eq_true, Int.reduceEq, Int.reduceLT, Nat.reduceAdd, Nat.reduceSub, Nat.reduceMul, Nat.reduceLT, Nat.reduceLeDiff, Nat.reduceEqDiff, List.reduceReplicate, reduceIte, beq_self_eq_true, bne_self_eq_false, Int.reduceBEq, Int.reduceBNe, Bool.or_false, Bool.false_or, Bool.not_false, Bool.not_true]; with_reducible refine hK9 _ ?_; clear hK9
      refine W.cond rfl rfl (fun hc => ?_) (fun hc => ?_)
      · skip
        simp at hc
      · skip
        refine W.skip (hK8 _ ?_)
        refine W.seqK fun K10 hK10 => W.region ?_
        refine WO.go 2 (ds := []) rfl ?_
        simp only [sx, ty, Bool.false_eq_true, Int.reduceEq, Int.reduceLT, Nat.reduceAdd, Nat.reduceSub, Nat.reduceMul, Nat.reduceLT, Nat.reduceLeDiff, Nat.reduceEqDiff, List.reduceReplicate, reduceIte, beq_self_eq_true, bne_self_eq_false, Int.reduceBEq, Int.reduceBNe, Bool.or_false, Bool.false_or, Bool.not_false, Bool.not_true]
        refine WO.call (.tuple #[.agg #[.int .i64 (addF c (-(mvI a b k).2.1) (-(mvI a b k).2.2)).1.1, .int .i64 (addF c (-(mvI a b k).2.1) (-(mvI a b k).2.2)).1.2.1, .int .i64 (addF c (-(mvI a b k).2.1) (-(mvI a b k).2.2)).1.2.2], .int .i64 (addF c (-(mvI a b k).2.1) (-(mvI a b k).2.2)).2]) (ds := []) rfl rfl rfl rfl co38 (fun ρ w1 hb => add_spec (hN.now (hb.first (by simp))) c _ _) ?_
        refine WO.go 4 (ds := []) rfl ?_
        simp only [sx, ty, Bool.false_eq_true, Int.reduceEq, Int.reduceLT, Nat.reduceAdd, Nat.reduceSub, Nat.reduceMul, Nat.reduceLT, Nat.reduceLeDiff, Nat.reduceEqDiff, List.reduceReplicate, reduceIte, beq_self_eq_true, bne_self_eq_false, Int.reduceBEq, Int.reduceBNe, Bool.or_false, Bool.false_or, Bool.not_false, Bool.not_true]
        with_reducible refine WO.nil ?_
        refine hK10 _ ?_; clear hK10
        refine W.ret ?_
        refine ⟨by simp, RunR.ex ?_⟩
        simp only [sx, ty, Bool.false_eq_true, Int.reduceEq, Int.reduceLT, Nat.reduceAdd, Nat.reduceSub, Nat.reduceMul, Nat.reduceLT, Nat.reduceLeDiff, Nat.reduceEqDiff, List.reduceReplicate, reduceIte, sxr, beq_self_eq_true, bne_self_eq_false, Int.reduceBEq, Int.reduceBNe, Bool.or_false, Bool.false_or, Bool.not_false, Bool.not_true]
        intro ρ w1 hb
        rw [soundF_yes hyes]; rfl
/-- function 17 -/
theorem ifits_spec {w : World} (hN : GN w) (q : Int × Int × Int × Int × Int) (a b : Int) (lo hi : Pit) (c : Pit) : Gives Tryd.prog 17 #[.agg #[.int .i64 q.1, .int .i64 q.2.1, .int .i64 q.2.2.1, .int .i64 q.2.2.2.1, .int .i64 q.2.2.2.2, .int .i64 a, .int .i64 b, .int .i64 lo.1, .int .i64 lo.2.1, .int .i64 lo.2.2, .int .i64 hi.1, .int .i64 hi.2.1, .int .i64 hi.2.2], .agg #[.int .i64 c.1, .int .i64 c.2.1, .int .i64 c.2.2]] w fun r _ => r = .tuple #[.bool (fitsF a b lo hi c).1, .int .i64 (fitsF a b lo hi c).2] := by
  refine gives_of [.agg [.val (.int .i64 q.1), .val (.int .i64 q.2.1), .val (.int .i64 q.2.2.1), .val (.int .i64 q.2.2.2.1), .val (.int .i64 q.2.2.2.2), .val (.int .i64 a), .val (.int .i64 b), .val (.int .i64 lo.1), .val (.int .i64 lo.2.1), .val (.int .i64 lo.2.2), .val (.int .i64 hi.1), .val (.int .i64 hi.2.1), .val (.int .i64 hi.2.2)], .agg [.val (.int .i64 c.1), .val (.int .i64 c.2.1), .val (.int .i64 c.2.2)]] 29 [.tmp 4, .tmp 5] Tryd.func17 rfl rfl rfl (by simp) rfl rfl ?_
  refine W.pure (ds := []) rfl fun K1 hK1 => ?_
  simp only [sx, ty, Bool.false_eq_true, Int.reduceEq, Int.reduceLT, Nat.reduceAdd, Nat.reduceSub, Nat.reduceMul, Nat.reduceLT, Nat.reduceLeDiff, Nat.reduceEqDiff, List.reduceReplicate, reduceIte, beq_self_eq_true, bne_self_eq_false, Int.reduceBEq, Int.reduceBNe, Bool.or_false, Bool.false_or, Bool.not_false, Bool.not_true]; with_reducible refine hK1 _ ?_; clear hK1
  refine W.seqK fun K2 hK2 => ?_
  refine W.join 14 (.val (.bool (!(writtenF a b lo hi && validP c)))) [2, 3] (W.region ?_) ?_
  · skip
    refine WO.go 1 (ds := [some 7, some 8, some 9, some 10, some 11, some 12, some 13, some 14]) rfl ?_
    simp only [sx, ty, Bool.false_eq_true, Int.reduceEq, Int.reduceLT, Nat.reduceAdd, Nat.reduceSub, Nat.reduceMul, Nat.reduceLT, Nat.reduceLeDiff, Nat.reduceEqDiff, List.reduceReplicate, reduceIte, beq_self_eq_true, bne_self_eq_false, Int.reduceBEq, Int.reduceBNe, Bool.or_false, Bool.false_or, Bool.not_false, Bool.not_true]
    refine WO.call (.bool (writtenF a b lo hi)) (ds := [some 7, some 8, some 9, some 10, some 11, some 12, some 13, some 14]) rfl rfl rfl rfl co44 (fun ρ w1 hb => written_spec (hN.now (hb.first (by simp))) q a b lo hi) ?_
    refine WO.go 2 (ds := [some 7, some 8, some 9, some 10, some 11, some 12, some 13, some 14]) rfl ?_
    simp only [sx, ty, Bool.false_eq_true, Int.reduceEq, Int.reduceLT, Nat.reduceAdd, Nat.reduceSub, Nat.reduceMul, Nat.reduceLT, Nat.reduceLeDiff, Nat.reduceEqDiff, List.reduceReplicate, reduceIte, beq_self_eq_true, bne_self_eq_false, Int.reduceBEq, Int.reduceBNe, Bool.or_false, Bool.false_or, Bool.not_false, Bool.not_true]
    refine WO.cases 10 _ rfl (fun hg10 => ?_) (fun hg10 => ?_)
    · skip
      refine WO.go 4 (ds := [some 7, some 8, some 9, some 10, some 11, some 12, some 13, some 14]) rfl ?_
      simp only [sx, ty, Bool.false_eq_true, Int.reduceEq, Int.reduceLT, Nat.reduceAdd, Nat.reduceSub, Nat.reduceMul, Nat.reduceLT, Nat.reduceLeDiff, Nat.reduceEqDiff, List.reduceReplicate, reduceIte, beq_self_eq_true, bne_self_eq_false, Int.reduceBEq, Int.reduceBNe, Bool.or_false, Bool.false_or, Bool.not_false, Bool.not_true]
      with_reducible refine WO.nil ?_
      refine ⟨rfl, ?_, ⟨_, rfl⟩, by simp [Own.bnd, bndL, bnd, boxO], by simp⟩
      try rw [hg10]
      simp [getE, bnd, keepE]
      try simp_all
    · skip
      refine WO.go 1 (ds := [some 7, some 8, some 9, some 10, some 11, some 12, some 13, some 14]) rfl ?_
      simp only [sx, ty, Bool.false_eq_true, Int.reduceEq, Int.reduceLT, Nat.reduceAdd, Nat.reduceSub, Nat.reduceMul, Nat.reduceLT, Nat.reduceLeDiff, Nat.reduceEqDiff, List.reduceReplicate, reduceIte, beq_self_eq_true, bne_self_eq_false, Int.reduceBEq, Int.reduceBNe, Bool.or_false, Bool.false_or, Bool.not_false, Bool.not_true]
      refine WO.call (.bool (validP c)) (ds := [some 7, some 8, some 9, some 10, some 11, some 12, some 13, some 14]) rfl rfl rfl rfl co22 (fun ρ w1 hb => valid_spec w1 c) ?_
      refine WO.go 2 (ds := [some 7, some 8, some 9, some 10, some 11, some 12, some 13, some 14]) rfl ?_
      simp only [sx, ty, Bool.false_eq_true, Int.reduceEq, Int.reduceLT, Nat.reduceAdd, Nat.reduceSub, Nat.reduceMul, Nat.reduceLT, Nat.reduceLeDiff, Nat.reduceEqDiff, List.reduceReplicate, reduceIte, beq_self_eq_true, bne_self_eq_false, Int.reduceBEq, Int.reduceBNe, Bool.or_false, Bool.false_or, Bool.not_false, Bool.not_true]
      with_reducible refine WO.nil ?_
      refine ⟨rfl, ?_, ⟨_, rfl⟩, by simp [Own.bnd, bndL, bnd, boxO], by simp⟩
      try rw [hg10]
      simp [getE, bnd, keepE]
      try simp_all
  · simp only [sx, ty, Bool.false_eq_true, Int.reduceEq, Int.reduceLT, Nat.reduceAdd, Nat.reduceSub, Nat.reduceMul, Nat.reduceLT, Nat.reduceLeDiff, Nat.reduceEqDiff, List.reduceReplicate, reduceIte, sxk, beq_self_eq_true, bne_self_eq_false, Int.reduceBEq, Int.reduceBNe, Bool.or_false, Bool.false_or, Bool.not_false, Bool.not_true]
    refine W.cond rfl rfl (fun hc => ?_) (fun hc => ?_)
    · skip
      have hno : (writtenF a b lo hi && validP c) = false := by simpa only [Bool.not_eq_true'] using hc
      refine W.pure (ds := []) rfl fun K4 hK4 => ?_
      simp only [sx, ty, Bool.false_eq_true, Int.reduceEq, Int.reduceLT, Nat.reduceAdd, Nat.reduceSub, Nat.reduceMul, Nat.reduceLT, Nat.reduceLeDiff, Nat.reduceEqDiff, List.reduceReplicate, reduceIte, beq_self_eq_true, bne_self_eq_false, Int.reduceBEq, Int.reduceBNe, Bool.or_false, Bool.false_or, Bool.not_false, Bool.not_true]; with_reducible refine hK4 _ ?_; clear hK4
      refine W.ret ⟨by simp, _, rfl, fun ρ w1 hb => ?_⟩
      rw [fitsF_no hno]; rfl
    · skip
      have hyes : (writtenF a b lo hi && validP c) = true := by simpa only [Bool.not_eq_false'] using hc
      have hy2 := hyes
      simp only [Bool.and_eq_true] at hy2
      have hwf := written_iff.1 hy2.1
      have hvl := validP_iff.1 hwf.2.1
      have hvh := validP_iff.1 hwf.2.2.1
      have hvc := validP_iff.1 hy2.2
      refine W.skip (hK2 _ ?_)
      refine W.seqK fun K5 hK5 => W.region ?_
      refine WO.go 1 (ds := []) rfl ?_
      simp only [sx, ty, Bool.false_eq_true, Int.reduceEq, Int.reduceLT, Nat.reduceAdd, Nat.reduceSub, Nat.reduceMul, Nat.reduceLT, Nat.reduceLeDiff, Nat.reduceEqDiff, List.reduceReplicate, reduceIte, beq_self_eq_true, bne_self_eq_false, Int.reduceBEq, Int.reduceBNe, Bool.or_false, Bool.false_or, Bool.not_false, Bool.not_true]
      refine WO.call (.int .i64 (numF c)) (ds := []) rfl rfl rfl rfl co45 (fun ρ w1 hb => by have := isound_spec (hN.now (hb.first (by simp))) c; rwa [numG_yes hy2.2] at this) ?_
      refine WO.go 1 (ds := []) rfl ?_
      simp only [sx, ty, Bool.false_eq_true, Int.reduceEq, Int.reduceLT, Nat.reduceAdd, Nat.reduceSub, Nat.reduceMul, Nat.reduceLT, Nat.reduceLeDiff, Nat.reduceEqDiff, List.reduceReplicate, reduceIte, beq_self_eq_true, bne_self_eq_false, Int.reduceBEq, Int.reduceBNe, Bool.or_false, Bool.false_or, Bool.not_false, Bool.not_true]
      with_reducible refine WO.nil ?_
      refine hK5 _ ?_; clear hK5
      refine W.seqK fun K6 hK6 => W.region ?_
      refine WO.go 2 (ds := [some 17, some 18, some 19, some 20, some 21, some 22, some 23, some 24, some 25, some 26, some 27, some 28, some 4, some 5]) rfl ?_
      simp only [sx, ty, Bool.false_eq_true, Int.reduceEq, Int.reduceLT, Nat.reduceAdd, Nat.reduceSub, Nat.reduceMul, Nat.reduceLT, Nat.reduceLeDiff, Nat.reduceEqDiff, List.reduceReplicate, reduceIte, beq_self_eq_true, bne_self_eq_false, Int.reduceBEq, Int.reduceBNe, Bool.or_false, Bool.false_or, Bool.not_false, Bool.not_true]
      refine WO.call (.int .i64 (numF lo)) (ds := [some 17, some 18, some 19, some 20, some 21, some 22, some 23, some 24, some 25, some 26, some 27, some 28, some 4, some 5]) rfl rfl rfl rfl co45 (fun ρ w1 hb => by have := isound_spec (hN.now (hb.first (by simp))) lo; rwa [numG_yes hwf.2.1] at this) ?_
      refine WO.go 3 (ds := [some 17, some 18, some 19, some 20, some 21, some 22, some 23, some 24, some 25, some 26, some 27, some 28, some 4, some 5]) rfl ?_
      simp only [sx, ty, Bool.false_eq_true, Int.reduceEq, Int.reduceLT, Nat.reduceAdd, Nat.reduceSub, Nat.reduceMul, Nat.reduceLT, Nat.reduceLeDiff, Nat.reduceEqDiff, List.reduceReplicate, reduceIte, beq_self_eq_true, bne_self_eq_false, Int.reduceBEq, Int.reduceBNe, Bool.or_false, Bool.false_or, Bool.not_false, Bool.not_true]
      refine WO.cases 22 _ rfl (fun hg22 => ?_) (fun hg22 => ?_)
      · skip
        refine WO.go 3 (ds := [some 17, some 18, some 19, some 20, some 21, some 22, some 23, some 24, some 25, some 26, some 27, some 28, some 4, some 5]) rfl ?_
        simp only [sx, ty, Bool.false_eq_true, Int.reduceEq, Int.reduceLT, Nat.reduceAdd, Nat.reduceSub, Nat.reduceMul, Nat.reduceLT, Nat.reduceLeDiff, Nat.reduceEqDiff, List.reduceReplicate, reduceIte, beq_self_eq_true, bne_self_eq_false, Int.reduceBEq, Int.reduceBNe, Bool.or_false, Bool.false_or, Bool.not_false, Bool.not_true]
        refine WO.call (.int .i64 (numF hi)) (ds := [some 17, some 18, some 19, some 20, some 21, some 22, some 23, some 24, some 25, some 26, some 27, some 28, some 4, some 5]) rfl rfl rfl rfl co45 (fun ρ w1 hb => by have := isound_spec (hN.now (hb.first (by simp))) hi; rwa [numG_yes hwf.2.2.1] at this) ?_
        refine WO.go 4 (ds := [some 17, some 18, some 19, some 20, some 21, some 22, some 23, some 24, some 25, some 26, some 27, some 28, some 4, some 5]) rfl ?_
        simp only [sx, ty, Bool.false_eq_true, Int.reduceEq, Int.reduceLT, Nat.reduceAdd, Nat.reduceSub, Nat.reduceMul, Nat.reduceLT, Nat.reduceLeDiff, Nat.reduceEqDiff, List.reduceReplicate, reduceIte, beq_self_eq_true, bne_self_eq_false, Int.reduceBEq, Int.reduceBNe, Bool.or_false, Bool.false_or, Bool.not_false, Bool.not_true]
        with_reducible refine WO.nil ?_
        refine hK6 _ ?_; clear hK6
        refine W.ret ⟨by simp, _, rfl, fun ρ w1 hb => ?_⟩
        rw [fitsF_yes hyes]
        have h9 : numF lo ≤ numF c := by simpa using hg22
        simp [den, denL, h9]
      · skip
        refine WO.go 8 (ds := [some 17, some 18, some 19, some 20, some 21, some 22, some 23, some 24, some 25, some 26, some 27, some 28, some 4, some 5]) rfl ?_
        simp only [sx, ty, Bool.false_eq_true, Int.reduceEq, Int.reduceLT, Nat.reduceAdd, Nat.reduceSub, Nat.reduceMul, Nat.reduceLT, Nat.reduceLeDiff, Nat.reduceEqDiff, List.reduceReplicate, reduceIte, beq_self_eq_true, bne_self_eq_false, Int.reduceBEq, Int.reduceBNe, Bool.or_false, Bool.false_or, Bool.not_false, Bool.not_true]
        with_reducible refine WO.nil ?_
        refine hK6 _ ?_; clear hK6
        refine W.ret ⟨by simp, _, rfl, fun ρ w1 hb => ?_⟩
        rw [fitsF_yes hyes]
        have h9 : ¬ numF lo ≤ numF c := by simpa using hg22
        simp only [den, denL, decide_eq_false h9, Bool.false_and]
/-- function 36 -/
theorem rshift_spec (w : World) (q : Int × Int × Int × Int × Int) (a b : Int) (lo hi : Pit) (k : Int) (hok : (okI a b lo hi k) = true) : Gives Tryd.prog 36 #[.agg #[.int .i64 q.1, .int .i64 q.2.1, .int .i64 q.2.2.1, .int .i64 q.2.2.2.1, .int .i64 q.2.2.2.2, .int .i64 a, .int .i64 b, .int .i64 lo.1, .int .i64 lo.2.1, .int .i64 lo.2.2, .int .i64 hi.1, .int .i64 hi.2.1, .int .i64 hi.2.2], .int .i64 k] w fun r _ => r = .tuple #[.int .i64 (mvI a b k).1, .agg #[.int .i64 (mvI a b k).2.1, .int .i64 (mvI a b k).2.2]] := by
  have hwf := written_iff.1 (ok_fact hok).choose_spec.2.2.2.2.2.2
  refine gives_of [.agg [.val (.int .i64 q.1), .val (.int .i64 q.2.1), .val (.int .i64 q.2.2.1), .val (.int .i64 q.2.2.2.1), .val (.int .i64 q.2.2.2.2), .val (.int .i64 a), .val (.int .i64 b), .val (.int .i64 lo.1), .val (.int .i64 lo.2.1), .val (.int .i64 lo.2.2), .val (.int .i64 hi.1), .val (.int .i64 hi.2.1), .val (.int .i64 hi.2.2)], .val (.int .i64 k)] 26 [.tmp 4, .cell 5 23] Tryd.func36 rfl rfl rfl (by simp) rfl rfl ?_
  refine W.pure (ds := []) rfl fun K1 hK1 => ?_
  simp only [sx, ty, Bool.false_eq_true, Int.reduceEq, Int.reduceLT, Nat.reduceAdd, Nat.reduceSub, Nat.reduceMul, Nat.reduceLT, Nat.reduceLeDiff, Nat.reduceEqDiff, List.reduceReplicate, reduceIte, beq_self_eq_true, bne_self_eq_false, Int.reduceBEq, Int.reduceBNe, Bool.or_false, Bool.false_or, Bool.not_false, Bool.not_true]; with_reducible refine hK1 _ ?_; clear hK1
  refine W.seqK fun K2 hK2 => W.region ?_
  refine WO.go 2 (ds := []) rfl ?_
  simp only [sx, ty, Bool.false_eq_true, Int.reduceEq, Int.reduceLT, Nat.reduceAdd, Nat.reduceSub, Nat.reduceMul, Nat.reduceLT, Nat.reduceLeDiff, Nat.reduceEqDiff, List.reduceReplicate, reduceIte, beq_self_eq_true, bne_self_eq_false, Int.reduceBEq, Int.reduceBNe, Bool.or_false, Bool.false_or, Bool.not_false, Bool.not_true]
  refine WO.call (.tuple #[.agg #[.int .i64 (-a), .int .i64 (-b)], .int .i64 0]) (ds := []) rfl rfl rfl rfl co43 (fun ρ w1 hb => by have := r2back_spec w1 a b; rwa [backF_yes hwf.1.1] at this) ?_
  refine WO.go 6 (ds := []) rfl ?_
  simp only [sx, ty, Bool.false_eq_true, Int.reduceEq, Int.reduceLT, Nat.reduceAdd, Nat.reduceSub, Nat.reduceMul, Nat.reduceLT, Nat.reduceLeDiff, Nat.reduceEqDiff, List.reduceReplicate, reduceIte, beq_self_eq_true, bne_self_eq_false, Int.reduceBEq, Int.reduceBNe, Bool.or_false, Bool.false_or, Bool.not_false, Bool.not_true]
  with_reducible refine WO.nil ?_
  refine hK2 _ ?_; clear hK2
  refine W.seqK fun K3 hK3 => W.region ?_
  refine WO.go 2 (ds := []) rfl ?_
  simp only [sx, ty, Bool.false_eq_true, Int.reduceEq, Int.reduceLT, Nat.reduceAdd, Nat.reduceSub, Nat.reduceMul, Nat.reduceLT, Nat.reduceLeDiff, Nat.reduceEqDiff, List.reduceReplicate, reduceIte, beq_self_eq_true, bne_self_eq_false, Int.reduceBEq, Int.reduceBNe, Bool.or_false, Bool.false_or, Bool.not_false, Bool.not_true]
  refine WO.call (.tuple #[.int .i64 (moveF k (-a) (-b)).1, .agg #[.int .i64 (moveF k (-a) (-b)).2.1, .int .i64 (moveF k (-a) (-b)).2.2.1], .int .i64 (moveF k (-a) (-b)).2.2.2]) (ds := []) rfl rfl rfl rfl co62 (fun ρ w1 hb => rmove_spec w1 k (-a) (-b)) ?_
  refine WO.go 8 (ds := []) rfl ?_
  simp only [sx, ty, Bool.false_eq_true, Int.reduceEq, Int.reduceLT, Nat.reduceAdd, Nat.reduceSub, Nat.reduceMul, Nat.reduceLT, Nat.reduceLeDiff, Nat.reduceEqDiff, List.reduceReplicate, reduceIte, beq_self_eq_true, bne_self_eq_false, Int.reduceBEq, Int.reduceBNe, Bool.or_false, Bool.false_or, Bool.not_false, Bool.not_true]
  with_reducible refine WO.nil ?_
  refine hK3 _ ?_; clear hK3
  refine W.seqK fun K4 hK4 => ?_
  refine W.regionT' 3 [] [0, 1, 2] mixed (by kernel_rfl) ?_
  simp only [sx, ty, Bool.false_eq_true, Int.reduceEq, Int.reduceLT, Nat.reduceAdd, Nat.reduceSub, Nat.reduceMul, Nat.reduceLT, Nat.reduceLeDiff, Nat.reduceEqDiff, List.reduceReplicate, reduceIte, sxt, List.toList_toArray, beq_self_eq_true, bne_self_eq_false, Int.reduceBEq, Int.reduceBNe, Bool.or_false, Bool.false_or, Bool.not_false, Bool.not_true]
  refine WQ.go 3 (ds := []) rfl ?_
  simp only [sx, ty, Bool.false_eq_true, Int.reduceEq, Int.reduceLT, Nat.reduceAdd, Nat.reduceSub, Nat.reduceMul, Nat.reduceLT, Nat.reduceLeDiff, Nat.reduceEqDiff, List.reduceReplicate, reduceIte, sxq, Bool.false_eq_true, beq_self_eq_true, bne_self_eq_false, Int.reduceBEq, Int.reduceBNe, Bool.or_false, Bool.false_or, Bool.not_false, Bool.not_true]
  with_reducible refine WQ.nil ?_
  refine WO.go 1 (ds := []) rfl ?_
  simp only [sx, ty, Bool.false_eq_true, Int.reduceEq, Int.reduceLT, Nat.reduceAdd, Nat.reduceSub, Nat.reduceMul, Nat.reduceLT, Nat.reduceLeDiff, Nat.reduceEqDiff, List.reduceReplicate, reduceIte, beq_self_eq_true, bne_self_eq_false, Int.reduceBEq, Int.reduceBNe, Bool.or_false, Bool.false_or, Bool.not_false, Bool.not_true]
  with_reducible refine WO.nil ?_
  refine hK4 _ ?_; clear hK4
  refine W.ret ?_
  refine ⟨by simp, RunR.ex ?_⟩
  simp only [sx, ty, Bool.false_eq_true, Int.reduceEq, Int.reduceLT, Nat.reduceAdd, Nat.reduceSub, Nat.reduceMul, Nat.reduceLT, Nat.reduceLeDiff, Nat.reduceEqDiff, List.reduceReplicate, reduceIte, sxr, beq_self_eq_true, bne_self_eq_false, Int.reduceBEq, Int.reduceBNe, Bool.or_false, Bool.false_or, Bool.not_false, Bool.not_true]
  intro ρ w1 hb
  rfl
/-- function 40 -/
theorem rinterval_spec (w : World) (q : Int × Int × Int × Int × Int) (a b : Int) (lo hi : Pit) (k : Int) (hok : (okI a b lo hi k) = true) : Gives Tryd.prog 40 #[.agg #[.int .i64 q.1, .int .i64 q.2.1, .int .i64 q.2.2.1, .int .i64 q.2.2.2.1, .int .i64 q.2.2.2.2, .int .i64 a, .int .i64 b, .int .i64 lo.1, .int .i64 lo.2.1, .int .i64 lo.2.2, .int .i64 hi.1, .int .i64 hi.2.1, .int .i64 hi.2.2], .int .i64 k] w fun r _ => r = .agg #[.int .i64 (mvI a b k).2.1, .int .i64 (mvI a b k).2.2] := by
  refine gives_of [.agg [.val (.int .i64 q.1), .val (.int .i64 q.2.1), .val (.int .i64 q.2.2.1), .val (.int .i64 q.2.2.2.1), .val (.int .i64 q.2.2.2.2), .val (.int .i64 a), .val (.int .i64 b), .val (.int .i64 lo.1), .val (.int .i64 lo.2.1), .val (.int .i64 lo.2.2), .val (.int .i64 hi.1), .val (.int .i64 hi.2.1), .val (.int .i64 hi.2.2)], .val (.int .i64 k)] 14 [.cell 4 23] Tryd.func40 rfl rfl rfl (by simp) rfl rfl ?_
  refine W.pure (ds := []) rfl fun K1 hK1 => ?_
  simp only [sx, ty, Bool.false_eq_true, Int.reduceEq, Int.reduceLT, Nat.reduceAdd, Nat.reduceSub, Nat.reduceMul, Nat.reduceLT, Nat.reduceLeDiff, Nat.reduceEqDiff, List.reduceReplicate, reduceIte, beq_self_eq_true, bne_self_eq_false, Int.reduceBEq, Int.reduceBNe, Bool.or_false, Bool.false_or, Bool.not_false, Bool.not_true]; with_reducible refine hK1 _ ?_; clear hK1
  refine W.seqK fun K2 hK2 => W.region ?_
  refine WO.go 2 (ds := []) rfl ?_
  simp only [sx, ty, Bool.false_eq_true, Int.reduceEq, Int.reduceLT, Nat.reduceAdd, Nat.reduceSub, Nat.reduceMul, Nat.reduceLT, Nat.reduceLeDiff, Nat.reduceEqDiff, List.reduceReplicate, reduceIte, beq_self_eq_true, bne_self_eq_false, Int.reduceBEq, Int.reduceBNe, Bool.or_false, Bool.false_or, Bool.not_false, Bool.not_true]
  refine WO.call (.tuple #[.int .i64 (mvI a b k).1, .agg #[.int .i64 (mvI a b k).2.1, .int .i64 (mvI a b k).2.2]]) (ds := []) rfl rfl rfl rfl co36 (fun ρ w1 hb => rshift_spec w1 q a b lo hi k hok) ?_
  refine WO.go 6 (ds := []) rfl ?_
  simp only [sx, ty, Bool.false_eq_true, Int.reduceEq, Int.reduceLT, Nat.reduceAdd, Nat.reduceSub, Nat.reduceMul, Nat.reduceLT, Nat.reduceLeDiff, Nat.reduceEqDiff, List.reduceReplicate, reduceIte, beq_self_eq_true, bne_self_eq_false, Int.reduceBEq, Int.reduceBNe, Bool.or_false, Bool.false_or, Bool.not_false, Bool.not_true]
  with_reducible refine WO.nil ?_
  refine hK2 _ ?_; clear hK2
  refine W.pure (ds := []) rfl fun K3 hK3 => ?_
  simp only [sx, ty, Bool.false_eq_true, Int.reduceEq, Int.reduceLT, Nat.reduceAdd, Nat.reduceSub, Nat.reduceMul, Nat.reduceLT, Nat.reduceLeDiff, Nat.reduceEqDiff, List.reduceReplicate, reduceIte, beq_self_eq_true, bne_self_eq_false, Int.reduceBEq, Int.reduceBNe, Bool.or_false, Bool.false_or, Bool.not_false, Bool.not_true]; with_reducible refine hK3 _ ?_; clear hK3
  refine W.ret ?_
  refine ⟨by simp, RunR.ex ?_⟩
  simp only [sx, ty, Bool.false_eq_true, Int.reduceEq, Int.reduceLT, Nat.reduceAdd, Nat.reduceSub, Nat.reduceMul, Nat.reduceLT, Nat.reduceLeDiff, Nat.reduceEqDiff, List.reduceReplicate, reduceIte, sxr, beq_self_eq_true, bne_self_eq_false, Int.reduceBEq, Int.reduceBNe, Bool.or_false, Bool.false_or, Bool.not_false, Bool.not_true]
  intro ρ w1 hb
  rfl
/-- function 12 -/
theorem rkey_spec (w : World) (q : Int × Int × Int × Int × Int) (a b : Int) (lo hi : Pit) (k : Int) : Gives Tryd.prog 12 #[.agg #[.int .i64 q.1, .int .i64 q.2.1, .int .i64 q.2.2.1, .int .i64 q.2.2.2.1, .int .i64 q.2.2.2.2, .int .i64 a, .int .i64 b, .int .i64 lo.1, .int .i64 lo.2.1, .int .i64 lo.2.2, .int .i64 hi.1, .int .i64 hi.2.1, .int .i64 hi.2.2], .int .i64 k] w fun r _ => r = .tuple #[.int .i64 (keyF a b lo hi k).1, .int .i64 (keyF a b lo hi k).2] := by
  refine gives_of [.agg [.val (.int .i64 q.1), .val (.int .i64 q.2.1), .val (.int .i64 q.2.2.1), .val (.int .i64 q.2.2.2.1), .val (.int .i64 q.2.2.2.2), .val (.int .i64 a), .val (.int .i64 b), .val (.int .i64 lo.1), .val (.int .i64 lo.2.1), .val (.int .i64 lo.2.2), .val (.int .i64 hi.1), .val (.int .i64 hi.2.1), .val (.int .i64 hi.2.2)], .val (.int .i64 k)] 25 [.tmp 4, .tmp 5] Tryd.func12 rfl rfl rfl (by simp) rfl rfl ?_
  refine W.pure (ds := []) rfl fun K1 hK1 => ?_
  simp only [sx, ty, Bool.false_eq_true, Int.reduceEq, Int.reduceLT, Nat.reduceAdd, Nat.reduceSub, Nat.reduceMul, Nat.reduceLT, Nat.reduceLeDiff, Nat.reduceEqDiff, List.reduceReplicate, reduceIte, beq_self_eq_true, bne_self_eq_false, Int.reduceBEq, Int.reduceBNe, Bool.or_false, Bool.false_or, Bool.not_false, Bool.not_true]; with_reducible refine hK1 _ ?_; clear hK1
  refine W.seqK fun K2 hK2 => W.region ?_
  refine WO.go 1 (ds := []) rfl ?_
  simp only [sx, ty, Bool.false_eq_true, Int.reduceEq, Int.reduceLT, Nat.reduceAdd, Nat.reduceSub, Nat.reduceMul, Nat.reduceLT, Nat.reduceLeDiff, Nat.reduceEqDiff, List.reduceReplicate, reduceIte, beq_self_eq_true, bne_self_eq_false, Int.reduceBEq, Int.reduceBNe, Bool.or_false, Bool.false_or, Bool.not_false, Bool.not_true]
  refine WO.call (.bool (writtenF a b lo hi)) (ds := []) rfl rfl rfl rfl co24 (fun ρ w1 hb => rpart_spec w1 q a b lo hi) ?_
  refine WO.go 1 (ds := []) rfl ?_
  simp only [sx, ty, Bool.false_eq_true, Int.reduceEq, Int.reduceLT, Nat.reduceAdd, Nat.reduceSub, Nat.reduceMul, Nat.reduceLT, Nat.reduceLeDiff, Nat.reduceEqDiff, List.reduceReplicate, reduceIte, beq_self_eq_true, bne_self_eq_false, Int.reduceBEq, Int.reduceBNe, Bool.or_false, Bool.false_or, Bool.not_false, Bool.not_true]
  with_reducible refine WO.nil ?_
  refine hK2 _ ?_; clear hK2
  refine W.seqK fun K3 hK3 => ?_
  refine W.join 17 (.val (.bool (!(okI a b lo hi k)))) [1, 2] (W.region ?_) ?_
  · skip
    refine WO.go 3 (ds := [some 11, some 12, some 13, some 14, some 15, some 16, some 17]) rfl ?_
    simp only [sx, ty, Bool.false_eq_true, Int.reduceEq, Int.reduceLT, Nat.reduceAdd, Nat.reduceSub, Nat.reduceMul, Nat.reduceLT, Nat.reduceLeDiff, Nat.reduceEqDiff, List.reduceReplicate, reduceIte, beq_self_eq_true, bne_self_eq_false, Int.reduceBEq, Int.reduceBNe, Bool.or_false, Bool.false_or, Bool.not_false, Bool.not_true]
    refine WO.cases 13 _ rfl (fun hg13 => ?_) (fun hg13 => ?_)
    · skip
      refine WO.go 4 (ds := [some 11, some 12, some 13, some 14, some 15, some 16, some 17]) rfl ?_
      simp only [sx, ty, Bool.false_eq_true, Int.reduceEq, Int.reduceLT, Nat.reduceAdd, Nat.reduceSub, Nat.reduceMul, Nat.reduceLT, Nat.reduceLeDiff, Nat.reduceEqDiff, List.reduceReplicate, reduceIte, beq_self_eq_true, bne_self_eq_false, Int.reduceBEq, Int.reduceBNe, Bool.or_false, Bool.false_or, Bool.not_false, Bool.not_true]
      with_reducible refine WO.nil ?_
      refine ⟨rfl, ?_, ⟨_, rfl⟩, by simp [Own.bnd, bndL, bnd, boxO], by simp⟩
      try rw [hg13]
      simp [getE, bnd, keepE]
      try simp_all [okI]
    · skip
      refine WO.go 1 (ds := [some 11, some 12, some 13, some 14, some 15, some 16, some 17]) rfl ?_
      simp only [sx, ty, Bool.false_eq_true, Int.reduceEq, Int.reduceLT, Nat.reduceAdd, Nat.reduceSub, Nat.reduceMul, Nat.reduceLT, Nat.reduceLeDiff, Nat.reduceEqDiff, List.reduceReplicate, reduceIte, beq_self_eq_true, bne_self_eq_false, Int.reduceBEq, Int.reduceBNe, Bool.or_false, Bool.false_or, Bool.not_false, Bool.not_true]
      refine WO.call (.bool (isKey k)) (ds := [some 11, some 12, some 13, some 14, some 15, some 16, some 17]) rfl rfl rfl rfl co26 (fun ρ w1 hb => rKey_spec w1 k) ?_
      refine WO.go 2 (ds := [some 11, some 12, some 13, some 14, some 15, some 16, some 17]) rfl ?_
      simp only [sx, ty, Bool.false_eq_true, Int.reduceEq, Int.reduceLT, Nat.reduceAdd, Nat.reduceSub, Nat.reduceMul, Nat.reduceLT, Nat.reduceLeDiff, Nat.reduceEqDiff, List.reduceReplicate, reduceIte, beq_self_eq_true, bne_self_eq_false, Int.reduceBEq, Int.reduceBNe, Bool.or_false, Bool.false_or, Bool.not_false, Bool.not_true]
      with_reducible refine WO.nil ?_
      refine ⟨rfl, ?_, ⟨_, rfl⟩, by simp [Own.bnd, bndL, bnd, boxO], by simp⟩
      try rw [hg13]
      simp [getE, bnd, keepE]
      try simp_all [okI]
  · simp only [sx, ty, Bool.false_eq_true, Int.reduceEq, Int.reduceLT, Nat.reduceAdd, Nat.reduceSub, Nat.reduceMul, Nat.reduceLT, Nat.reduceLeDiff, Nat.reduceEqDiff, List.reduceReplicate, reduceIte, sxk, beq_self_eq_true, bne_self_eq_false, Int.reduceBEq, Int.reduceBNe, Bool.or_false, Bool.false_or, Bool.not_false, Bool.not_true]
    refine W.cond rfl rfl (fun hc => ?_) (fun hc => ?_)
    · skip
      have hok : (okI a b lo hi k) = false := by simpa only [Bool.not_eq_true'] using hc
      refine W.pure (ds := []) rfl fun K5 hK5 => ?_
      simp only [sx, ty, Bool.false_eq_true, Int.reduceEq, Int.reduceLT, Nat.reduceAdd, Nat.reduceSub, Nat.reduceMul, Nat.reduceLT, Nat.reduceLeDiff, Nat.reduceEqDiff, List.reduceReplicate, reduceIte, beq_self_eq_true, bne_self_eq_false, Int.reduceBEq, Int.reduceBNe, Bool.or_false, Bool.false_or, Bool.not_false, Bool.not_true]; with_reducible refine hK5 _ ?_; clear hK5
      refine W.ret ⟨by simp, _, rfl, fun ρ w1 hb => ?_⟩
      rw [keyF_no hok]; rfl
    · skip
      have hok : (okI a b lo hi k) = true := by simpa only [Bool.not_eq_false'] using hc
      refine W.skip (hK3 _ ?_)
      refine W.seqK fun K6 hK6 => W.region ?_
      refine WO.go 2 (ds := []) rfl ?_
      simp only [sx, ty, Bool.false_eq_true, Int.reduceEq, Int.reduceLT, Nat.reduceAdd, Nat.reduceSub, Nat.reduceMul, Nat.reduceLT, Nat.reduceLeDiff, Nat.reduceEqDiff, List.reduceReplicate, reduceIte, beq_self_eq_true, bne_self_eq_false, Int.reduceBEq, Int.reduceBNe, Bool.or_false, Bool.false_or, Bool.not_false, Bool.not_true]
      refine WO.call (.tuple #[.int .i64 (mvI a b k).1, .agg #[.int .i64 (mvI a b k).2.1, .int .i64 (mvI a b k).2.2]]) (ds := []) rfl rfl rfl rfl co36 (fun ρ w1 hb => rshift_spec w1 q a b lo hi k hok) ?_
      refine WO.go 6 (ds := []) rfl ?_
      simp only [sx, ty, Bool.false_eq_true, Int.reduceEq, Int.reduceLT, Nat.reduceAdd, Nat.reduceSub, Nat.reduceMul, Nat.reduceLT, Nat.reduceLeDiff, Nat.reduceEqDiff, List.reduceReplicate, reduceIte, beq_self_eq_true, bne_self_eq_false, Int.reduceBEq, Int.reduceBNe, Bool.or_false, Bool.false_or, Bool.not_false, Bool.not_true]
      with_reducible refine WO.nil ?_
      refine hK6 _ ?_; clear hK6
      refine W.pure (ds := []) rfl fun K7 hK7 => ?_
      simp only [sx, ty, Bool.false_eq_true, Int.reduceEq, Int.reduceLT, Nat.reduceAdd, Nat.reduceSub, Nat.reduceMul, Nat.reduceLT, Nat.reduceLeDiff, Nat.reduceEqDiff, List.reduceReplicate, reduceIte, beq_self_eq_true, bne_self_eq_false, Int.reduceBEq, Int.reduceBNe, Bool.or_false, Bool.false_or, Bool.not_false, Bool.not_true]; with_reducible refine hK7 _ ?_; clear hK7
      refine W.ret ⟨by simp, _, rfl, fun ρ w1 hb => ?_⟩
      rw [keyF_yes hok]; rfl
/-- function 14 -/
theorem rwrite_spec (w : World) (q : Int × Int × Int × Int × Int) (a b : Int) (lo hi : Pit) (k : Int) (c : Pit) : Gives Tryd.prog 14 #[.agg #[.int .i64 q.1, .int .i64 q.2.1, .int .i64 q.2.2.1, .int .i64 q.2.2.2.1, .int .i64 q.2.2.2.2, .int .i64 a, .int .i64 b, .int .i64 lo.1, .int .i64 lo.2.1, .int .i64 lo.2.2, .int .i64 hi.1, .int .i64 hi.2.1, .int .i64 hi.2.2], .int .i64 k, .agg #[.int .i64 c.1, .int .i64 c.2.1, .int .i64 c.2.2]] w fun r _ => r = .tuple #[.agg #[.int .i64 (writeF a b lo hi k c).1.1, .int .i64 (writeF a b lo hi k c).1.2.1, .int .i64 (writeF a b lo hi k c).1.2.2], .int .i64 (writeF a b lo hi k c).2] := by
  refine gives_of [.agg [.val (.int .i64 q.1), .val (.int .i64 q.2.1), .val (.int .i64 q.2.2.1), .val (.int .i64 q.2.2.2.1), .val (.int .i64 q.2.2.2.2), .val (.int .i64 a), .val (.int .i64 b), .val (.int .i64 lo.1), .val (.int .i64 lo.2.1), .val (.int .i64 lo.2.2), .val (.int .i64 hi.1), .val (.int .i64 hi.2.1), .val (.int .i64 hi.2.2)], .val (.int .i64 k), .agg [.val (.int .i64 c.1), .val (.int .i64 c.2.1), .val (.int .i64 c.2.2)]] 38 [.cell 6 25, .tmp 7] Tryd.func14 rfl rfl rfl (by simp) rfl rfl ?_
  refine W.pure (ds := []) rfl fun K1 hK1 => ?_
  simp only [sx, ty, Bool.false_eq_true, Int.reduceEq, Int.reduceLT, Nat.reduceAdd, Nat.reduceSub, Nat.reduceMul, Nat.reduceLT, Nat.reduceLeDiff, Nat.reduceEqDiff, List.reduceReplicate, reduceIte, beq_self_eq_true, bne_self_eq_false, Int.reduceBEq, Int.reduceBNe, Bool.or_false, Bool.false_or, Bool.not_false, Bool.not_true]; with_reducible refine hK1 _ ?_; clear hK1
  refine W.seqK fun K2 hK2 => W.region ?_
  refine WO.go 1 (ds := []) rfl ?_
  simp only [sx, ty, Bool.false_eq_true, Int.reduceEq, Int.reduceLT, Nat.reduceAdd, Nat.reduceSub, Nat.reduceMul, Nat.reduceLT, Nat.reduceLeDiff, Nat.reduceEqDiff, List.reduceReplicate, reduceIte, beq_self_eq_true, bne_self_eq_false, Int.reduceBEq, Int.reduceBNe, Bool.or_false, Bool.false_or, Bool.not_false, Bool.not_true]
  refine WO.call (.bool (writtenF a b lo hi)) (ds := []) rfl rfl rfl rfl co24 (fun ρ w1 hb => rpart_spec w1 q a b lo hi) ?_
  refine WO.go 1 (ds := []) rfl ?_
  simp only [sx, ty, Bool.false_eq_true, Int.reduceEq, Int.reduceLT, Nat.reduceAdd, Nat.reduceSub, Nat.reduceMul, Nat.reduceLT, Nat.reduceLeDiff, Nat.reduceEqDiff, List.reduceReplicate, reduceIte, beq_self_eq_true, bne_self_eq_false, Int.reduceBEq, Int.reduceBNe, Bool.or_false, Bool.false_or, Bool.not_false, Bool.not_true]
  with_reducible refine WO.nil ?_
  refine hK2 _ ?_; clear hK2
  refine W.seqK fun K3 hK3 => W.region ?_
  refine WO.go 1 (ds := []) rfl ?_
  simp only [sx, ty, Bool.false_eq_true, Int.reduceEq, Int.reduceLT, Nat.reduceAdd, Nat.reduceSub, Nat.reduceMul, Nat.reduceLT, Nat.reduceLeDiff, Nat.reduceEqDiff, List.reduceReplicate, reduceIte, beq_self_eq_true, bne_self_eq_false, Int.reduceBEq, Int.reduceBNe, Bool.or_false, Bool.false_or, Bool.not_false, Bool.not_true]
  refine WO.call (.bool (validP c)) (ds := []) rfl rfl rfl rfl co23 (fun ρ w1 hb => r2valid_spec w1 c) ?_
  refine WO.go 1 (ds := []) rfl ?_
  simp only [sx, ty, Bool.false_eq_true, Int.reduceEq, Int.reduceLT, Nat.reduceAdd, Nat.reduceSub, Nat.reduceMul, Nat.reduceLT, Nat.reduceLeDiff, Nat.reduceEqDiff, List.reduceReplicate, reduceIte, beq_self_eq_true, bne_self_eq_false, Int.reduceBEq, Int.reduceBNe, Bool.or_false, Bool.false_or, Bool.not_false, Bool.not_true]
  with_reducible refine WO.nil ?_
  refine hK3 _ ?_; clear hK3
  refine W.seqK fun K4 hK4 => ?_
  refine W.join 26 (.val (.bool (!((okI a b lo hi k) && validP c)))) [1, 3, 5, 6] (W.region ?_) ?_
  · skip
    refine WO.go 3 (ds := [some 16, some 17, some 18, some 19, some 20, some 21, some 22, some 23, some 24, some 25, some 26]) rfl ?_
    simp only [sx, ty, Bool.false_eq_true, Int.reduceEq, Int.reduceLT, Nat.reduceAdd, Nat.reduceSub, Nat.reduceMul, Nat.reduceLT, Nat.reduceLeDiff, Nat.reduceEqDiff, List.reduceReplicate, reduceIte, beq_self_eq_true, bne_self_eq_false, Int.reduceBEq, Int.reduceBNe, Bool.or_false, Bool.false_or, Bool.not_false, Bool.not_true]
    refine WO.cases 18 _ rfl (fun hg18 => ?_) (fun hg18 => ?_)
    · skip
      refine WO.go 8 (ds := [some 16, some 17, some 18, some 19, some 20, some 21, some 22, some 23, some 24, some 25, some 26]) rfl ?_
      simp only [sx, ty, Bool.false_eq_true, Int.reduceEq, Int.reduceLT, Nat.reduceAdd, Nat.reduceSub, Nat.reduceMul, Nat.reduceLT, Nat.reduceLeDiff, Nat.reduceEqDiff, List.reduceReplicate, reduceIte, beq_self_eq_true, bne_self_eq_false, Int.reduceBEq, Int.reduceBNe, Bool.or_false, Bool.false_or, Bool.not_false, Bool.not_true]
      with_reducible refine WO.nil ?_
      refine ⟨rfl, ?_, ⟨_, rfl⟩, by simp [Own.bnd, bndL, bnd, boxO], by simp⟩
      try rw [hg18]
      try rw [hg23]
      simp [getE, bnd, keepE]
      try simp_all [okI]
    · skip
      refine WO.go 1 (ds := [some 16, some 17, some 18, some 19, some 20, some 21, some 22, some 23, some 24, some 25, some 26]) rfl ?_
      simp only [sx, ty, Bool.false_eq_true, Int.reduceEq, Int.reduceLT, Nat.reduceAdd, Nat.reduceSub, Nat.reduceMul, Nat.reduceLT, Nat.reduceLeDiff, Nat.reduceEqDiff, List.reduceReplicate, reduceIte, beq_self_eq_true, bne_self_eq_false, Int.reduceBEq, Int.reduceBNe, Bool.or_false, Bool.false_or, Bool.not_false, Bool.not_true]
      refine WO.call (.bool (isKey k)) (ds := [some 16, some 17, some 18, some 19, some 20, some 21, some 22, some 23, some 24, some 25, some 26]) rfl rfl rfl rfl co26 (fun ρ w1 hb => rKey_spec w1 k) ?_
      refine WO.go 3 (ds := [some 16, some 17, some 18, some 19, some 20, some 21, some 22, some 23, some 24, some 25, some 26]) rfl ?_
      simp only [sx, ty, Bool.false_eq_true, Int.reduceEq, Int.reduceLT, Nat.reduceAdd, Nat.reduceSub, Nat.reduceMul, Nat.reduceLT, Nat.reduceLeDiff, Nat.reduceEqDiff, List.reduceReplicate, reduceIte, beq_self_eq_true, bne_self_eq_false, Int.reduceBEq, Int.reduceBNe, Bool.or_false, Bool.false_or, Bool.not_false, Bool.not_true]
      refine WO.cases 23 _ rfl (fun hg23 => ?_) (fun hg23 => ?_)
      · skip
        refine WO.go 3 (ds := [some 16, some 17, some 18, some 19, some 20, some 21, some 22, some 23, some 24, some 25, some 26]) rfl ?_
        simp only [sx, ty, Bool.false_eq_true, Int.reduceEq, Int.reduceLT, Nat.reduceAdd, Nat.reduceSub, Nat.reduceMul, Nat.reduceLT, Nat.reduceLeDiff, Nat.reduceEqDiff, List.reduceReplicate, reduceIte, beq_self_eq_true, bne_self_eq_false, Int.reduceBEq, Int.reduceBNe, Bool.or_false, Bool.false_or, Bool.not_false, Bool.not_true]
        with_reducible refine WO.nil ?_
        refine ⟨rfl, ?_, ⟨_, rfl⟩, by simp [Own.bnd, bndL, bnd, boxO], by simp⟩
        try rw [hg18]
        try rw [hg23]
        simp [getE, bnd, keepE]
        try simp_all [okI]
      · skip
        refine WO.go 3 (ds := [some 16, some 17, some 18, some 19, some 20, some 21, some 22, some 23, some 24, some 25, some 26]) rfl ?_
        simp only [sx, ty, Bool.false_eq_true, Int.reduceEq, Int.reduceLT, Nat.reduceAdd, Nat.reduceSub, Nat.reduceMul, Nat.reduceLT, Nat.reduceLeDiff, Nat.reduceEqDiff, List.reduceReplicate, reduceIte, beq_self_eq_true, bne_self_eq_false, Int.reduceBEq, Int.reduceBNe, Bool.or_false, Bool.false_or, Bool.not_false, Bool.not_true]
        with_reducible refine WO.nil ?_
        refine ⟨rfl, ?_, ⟨_, rfl⟩, by simp [Own.bnd, bndL, bnd, boxO], by simp⟩
        try rw [hg18]
        try rw [hg23]
        simp [getE, bnd, keepE]
        try simp_all [okI]
  · simp only [sx, ty, Bool.false_eq_true, Int.reduceEq, Int.reduceLT, Nat.reduceAdd, Nat.reduceSub, Nat.reduceMul, Nat.reduceLT, Nat.reduceLeDiff, Nat.reduceEqDiff, List.reduceReplicate, reduceIte, sxk, beq_self_eq_true, bne_self_eq_false, Int.reduceBEq, Int.reduceBNe, Bool.or_false, Bool.false_or, Bool.not_false, Bool.not_true]
    refine W.cond rfl rfl (fun hc => ?_) (fun hc => ?_)
    · skip
      have hno : ((okI a b lo hi k) && validP c) = false := by simpa only [Bool.not_eq_true'] using hc
      refine W.pure (ds := []) rfl fun K6 hK6 => ?_
      simp only [sx, ty, Bool.false_eq_true, Int.reduceEq, Int.reduceLT, Nat.reduceAdd, Nat.reduceSub, Nat.reduceMul, Nat.reduceLT, Nat.reduceLeDiff, Nat.reduceEqDiff, List.reduceReplicate, reduceIte, beq_self_eq_true, bne_self_eq_false, Int.reduceBEq, Int.reduceBNe, Bool.or_false, Bool.false_or, Bool.not_false, Bool.not_true]; with_reducible refine hK6 _ ?_; clear hK6
      refine W.ret ?_
      refine ⟨by simp, RunR.ex ?_⟩
      simp only [sx, ty, Bool.false_eq_true, Int.reduceEq, Int.reduceLT, Nat.reduceAdd, Nat.reduceSub, Nat.reduceMul, Nat.reduceLT, Nat.reduceLeDiff, Nat.reduceEqDiff, List.reduceReplicate, reduceIte, sxr, beq_self_eq_true, bne_self_eq_false, Int.reduceBEq, Int.reduceBNe, Bool.or_false, Bool.false_or, Bool.not_false, Bool.not_true]
      intro ρ w1 hb
      rw [writeF_no hno]; rfl
    · skip
      have hyes : ((okI a b lo hi k) && validP c) = true := by simpa only [Bool.not_eq_false'] using hc
      have hy2 := hyes
      simp only [Bool.and_eq_true] at hy2
      have hok := hy2.1
      have hfA : formed (mvI a b k).2.1 (mvI a b k).2.2 = true := by obtain ⟨t, _, h2, _, _, h5, _⟩ := ok_fact hok; rw [h2]; exact h5
      refine W.skip (hK4 _ ?_)
      refine W.seqK fun K7 hK7 => ?_
      refine W.regionS (ds := [some 29, some 30, some 31, some 32, some 33, some 28, some 34, some 35, some 10, none, some 11]) (tg := [none, none, none, none, none, none, none, none, some 3, some 3, none]) [⟨[], [], [5], [3], none, false⟩, ⟨[], [], [3], [3], none, false⟩, ⟨[], [], [1], [3], none, false⟩, ⟨[1, 2], [1, 2], [], [3], none, false⟩, ⟨[0, 1, 2, 3], [0, 3], [], [3], none, false⟩, ⟨[0, 1, 2, 3, 4], [4], [], [3], none, false⟩, ⟨[0, 1, 2, 3, 4, 5], [5], [], [3], none, false⟩, ⟨[0, 1, 2, 3, 4, 5], [5], [], [3], none, false⟩, ⟨[], [], [], [], some 3, true⟩, ⟨[0, 1, 2, 3, 4, 5, 6, 8], [8, 6], [], [], some 3, false⟩, ⟨[0, 1, 2, 3, 4, 5, 6, 7, 8, 9], [7], [], [], none, false⟩] 1 3 38 mixed rfl rfl (by kernel_rfl) (by kernel_rfl) ?_
      simp only [sx, ty, Bool.false_eq_true, Int.reduceEq, Int.reduceLT, Nat.reduceAdd, Nat.reduceSub, Nat.reduceMul, Nat.reduceLT, Nat.reduceLeDiff, Nat.reduceEqDiff, List.reduceReplicate, reduceIte, sxs, List.toList_toArray, List.cons_append, List.nil_append, List.append_nil, beq_self_eq_true, bne_self_eq_false, Int.reduceBEq, Int.reduceBNe, Bool.or_false, Bool.false_or, Bool.not_false, Bool.not_true]
      refine WS.go rfl rfl rfl ?_
      simp only [sx, ty, Bool.false_eq_true, Int.reduceEq, Int.reduceLT, Nat.reduceAdd, Nat.reduceSub, Nat.reduceMul, Nat.reduceLT, Nat.reduceLeDiff, Nat.reduceEqDiff, List.reduceReplicate, reduceIte, sxs, List.toList_toArray, List.cons_append, List.nil_append, List.append_nil, beq_self_eq_true, bne_self_eq_false, Int.reduceBEq, Int.reduceBNe, Bool.or_false, Bool.false_or, Bool.not_false, Bool.not_true]
      refine WS.go rfl rfl rfl ?_
      simp only [sx, ty, Bool.false_eq_true, Int.reduceEq, Int.reduceLT, Nat.reduceAdd, Nat.reduceSub, Nat.reduceMul, Nat.reduceLT, Nat.reduceLeDiff, Nat.reduceEqDiff, List.reduceReplicate, reduceIte, sxs, List.toList_toArray, List.cons_append, List.nil_append, List.append_nil, beq_self_eq_true, bne_self_eq_false, Int.reduceBEq, Int.reduceBNe, Bool.or_false, Bool.false_or, Bool.not_false, Bool.not_true]
      refine WS.go rfl rfl rfl ?_
      simp only [sx, ty, Bool.false_eq_true, Int.reduceEq, Int.reduceLT, Nat.reduceAdd, Nat.reduceSub, Nat.reduceMul, Nat.reduceLT, Nat.reduceLeDiff, Nat.reduceEqDiff, List.reduceReplicate, reduceIte, sxs, List.toList_toArray, List.cons_append, List.nil_append, List.append_nil, beq_self_eq_true, bne_self_eq_false, Int.reduceBEq, Int.reduceBNe, Bool.or_false, Bool.false_or, Bool.not_false, Bool.not_true]
      refine WS.call (.agg #[.int .i64 (mvI a b k).2.1, .int .i64 (mvI a b k).2.2]) rfl rfl rfl co40 (fun ρ w1 hb => by have := rinterval_spec w1 q a b lo hi k hok; simpa [denL_eq, den, denL] using this) ?_
      simp only [sx, ty, Bool.false_eq_true, Int.reduceEq, Int.reduceLT, Nat.reduceAdd, Nat.reduceSub, Nat.reduceMul, Nat.reduceLT, Nat.reduceLeDiff, Nat.reduceEqDiff, List.reduceReplicate, reduceIte, sxs, List.toList_toArray, List.cons_append, List.nil_append, List.append_nil, beq_self_eq_true, bne_self_eq_false, Int.reduceBEq, Int.reduceBNe, Bool.or_false, Bool.false_or, Bool.not_false, Bool.not_true]
      refine WS.call (.tuple #[.agg #[.int .i64 (addF c (mvI a b k).2.1 (mvI a b k).2.2).1.1, .int .i64 (addF c (mvI a b k).2.1 (mvI a b k).2.2).1.2.1, .int .i64 (addF c (mvI a b k).2.1 (mvI a b k).2.2).1.2.2], .int .i64 (addF c (mvI a b k).2.1 (mvI a b k).2.2).2]) rfl rfl rfl co39 (fun ρ w1 hb => by have := r2add_spec w1 c (mvI a b k).2.1 (mvI a b k).2.2; simpa [denL_eq, den, denL] using this) ?_
      simp only [sx, ty, Bool.false_eq_true, Int.reduceEq, Int.reduceLT, Nat.reduceAdd, Nat.reduceSub, Nat.reduceMul, Nat.reduceLT, Nat.reduceLeDiff, Nat.reduceEqDiff, List.reduceReplicate, reduceIte, sxs, List.toList_toArray, List.cons_append, List.nil_append, List.append_nil, beq_self_eq_true, bne_self_eq_false, Int.reduceBEq, Int.reduceBNe, Bool.or_false, Bool.false_or, Bool.not_false, Bool.not_true]
      refine WS.go rfl rfl rfl ?_
      simp only [sx, ty, Bool.false_eq_true, Int.reduceEq, Int.reduceLT, Nat.reduceAdd, Nat.reduceSub, Nat.reduceMul, Nat.reduceLT, Nat.reduceLeDiff, Nat.reduceEqDiff, List.reduceReplicate, reduceIte, sxs, List.toList_toArray, List.cons_append, List.nil_append, List.append_nil, beq_self_eq_true, bne_self_eq_false, Int.reduceBEq, Int.reduceBNe, Bool.or_false, Bool.false_or, Bool.not_false, Bool.not_true]
      refine WS.go rfl rfl rfl ?_
      simp only [sx, ty, Bool.false_eq_true, Int.reduceEq, Int.reduceLT, Nat.reduceAdd, Nat.reduceSub, Nat.reduceMul, Nat.reduceLT, Nat.reduceLeDiff, Nat.reduceEqDiff, List.reduceReplicate, reduceIte, sxs, List.toList_toArray, List.cons_append, List.nil_append, List.append_nil, beq_self_eq_true, bne_self_eq_false, Int.reduceBEq, Int.reduceBNe, Bool.or_false, Bool.false_or, Bool.not_false, Bool.not_true]
      refine WS.go rfl rfl rfl ?_
      simp only [sx, ty, Bool.false_eq_true, Int.reduceEq, Int.reduceLT, Nat.reduceAdd, Nat.reduceSub, Nat.reduceMul, Nat.reduceLT, Nat.reduceLeDiff, Nat.reduceEqDiff, List.reduceReplicate, reduceIte, sxs, List.toList_toArray, List.cons_append, List.nil_append, List.append_nil, beq_self_eq_true, bne_self_eq_false, Int.reduceBEq, Int.reduceBNe, Bool.or_false, Bool.false_or, Bool.not_false, Bool.not_true]
      refine WS.alloc rfl rfl ze25 rfl rfl ?_
      simp only [sx, ty, Bool.false_eq_true, Int.reduceEq, Int.reduceLT, Nat.reduceAdd, Nat.reduceSub, Nat.reduceMul, Nat.reduceLT, Nat.reduceLeDiff, Nat.reduceEqDiff, List.reduceReplicate, reduceIte, sxs, List.toList_toArray, List.cons_append, List.nil_append, List.append_nil, beq_self_eq_true, bne_self_eq_false, Int.reduceBEq, Int.reduceBNe, Bool.or_false, Bool.false_or, Bool.not_false, Bool.not_true]
      refine WS.store rfl rfl rfl rfl rfl rfl rfl sz25 (Nat.le_of_ble_eq_true rfl) rfl ?_
      simp only [sx, ty, Bool.false_eq_true, Int.reduceEq, Int.reduceLT, Nat.reduceAdd, Nat.reduceSub, Nat.reduceMul, Nat.reduceLT, Nat.reduceLeDiff, Nat.reduceEqDiff, List.reduceReplicate, reduceIte, sxs, List.toList_toArray, List.cons_append, List.nil_append, List.append_nil, beq_self_eq_true, bne_self_eq_false, Int.reduceBEq, Int.reduceBNe, Bool.or_false, Bool.false_or, Bool.not_false, Bool.not_true]
      refine WS.go rfl rfl rfl ?_
      simp only [sx, ty, Bool.false_eq_true, Int.reduceEq, Int.reduceLT, Nat.reduceAdd, Nat.reduceSub, Nat.reduceMul, Nat.reduceLT, Nat.reduceLeDiff, Nat.reduceEqDiff, List.reduceReplicate, reduceIte, sxs, List.toList_toArray, List.cons_append, List.nil_append, List.append_nil, beq_self_eq_true, bne_self_eq_false, Int.reduceBEq, Int.reduceBNe, Bool.or_false, Bool.false_or, Bool.not_false, Bool.not_true]
      refine WS.nil [0, 1, 2, 3, 4, 5, 6, 7, 8, 9, 10] rfl rfl ?_
      simp only [sx, ty, Bool.false_eq_true, Int.reduceEq, Int.reduceLT, Nat.reduceAdd, Nat.reduceSub, Nat.reduceMul, Nat.reduceLT, Nat.reduceLeDiff, Nat.reduceEqDiff, List.reduceReplicate, reduceIte, sxs, List.toList_toArray, List.cons_append, List.nil_append, List.append_nil, beq_self_eq_true, bne_self_eq_false, Int.reduceBEq, Int.reduceBNe, Bool.or_false, Bool.false_or, Bool.not_false, Bool.not_true]
      refine hK7 _ ?_; clear hK7
      refine W.pure (ds := []) rfl fun K8 hK8 => ?_
      simp only [sx, ty, Bool.false_eq_true, Int.reduceEq, Int.reduceLT, Nat.reduceAdd, Nat.reduceSub, Nat.reduceMul, Nat.reduceLT, Nat.reduceLeDiff, Nat.reduceEqDiff, List.reduceReplicate, reduceIte, beq_self_eq_true, bne_self_eq_false, Int.reduceBEq, Int.reduceBNe, Bool.or_false, Bool.false_or, Bool.not_false, Bool.not_true]; with_reducible refine hK8 _ ?_; clear hK8
      refine W.ret ?_
      refine ⟨by simp, RunR.ex ?_⟩
      simp only [sx, ty, Bool.false_eq_true, Int.reduceEq, Int.reduceLT, Nat.reduceAdd, Nat.reduceSub, Nat.reduceMul, Nat.reduceLT, Nat.reduceLeDiff, Nat.reduceEqDiff, List.reduceReplicate, reduceIte, sxr, beq_self_eq_true, bne_self_eq_false, Int.reduceBEq, Int.reduceBNe, Bool.or_false, Bool.false_or, Bool.not_false, Bool.not_true]
      intro ρ w1 hb
      rw [writeF_yes hyes]; rfl
/-- function 16 -/
theorem rsnd_spec (w : World) (q : Int × Int × Int × Int × Int) (a b : Int) (lo hi : Pit) (k : Int) (c : Pit) : Gives Tryd.prog 16 #[.agg #[.int .i64 q.1, .int .i64 q.2.1, .int .i64 q.2.2.1, .int .i64 q.2.2.2.1, .int .i64 q.2.2.2.2, .int .i64 a, .int .i64 b, .int .i64 lo.1, .int .i64 lo.2.1, .int .i64 lo.2.2, .int .i64 hi.1, .int .i64 hi.2.1, .int .i64 hi.2.2], .int .i64 k, .agg #[.int .i64 c.1, .int .i64 c.2.1, .int .i64 c.2.2]] w fun r _ => r = .tuple #[.agg #[.int .i64 (soundF a b lo hi k c).1.1, .int .i64 (soundF a b lo hi k c).1.2.1, .int .i64 (soundF a b lo hi k c).1.2.2], .int .i64 (soundF a b lo hi k c).2] := by
  refine gives_of [.agg [.val (.int .i64 q.1), .val (.int .i64 q.2.1), .val (.int .i64 q.2.2.1), .val (.int .i64 q.2.2.2.1), .val (.int .i64 q.2.2.2.2), .val (.int .i64 a), .val (.int .i64 b), .val (.int .i64 lo.1), .val (.int .i64 lo.2.1), .val (.int .i64 lo.2.2), .val (.int .i64 hi.1), .val (.int .i64 hi.2.1), .val (.int .i64 hi.2.2)], .val (.int .i64 k), .agg [.val (.int .i64 c.1), .val (.int .i64 c.2.1), .val (.int .i64 c.2.2)]] 45 [.cell 6 25, .tmp 7] Tryd.func16 rfl rfl rfl (by simp) rfl rfl ?_
  refine W.pure (ds := []) rfl fun K1 hK1 => ?_
  simp only [sx, ty, Bool.false_eq_true, Int.reduceEq, Int.reduceLT, Nat.reduceAdd, Nat.reduceSub, Nat.reduceMul, Nat.reduceLT, Nat.reduceLeDiff, Nat.reduceEqDiff, List.reduceReplicate, reduceIte, beq_self_eq_true, bne_self_eq_false, Int.reduceBEq, Int.reduceBNe, Bool.or_false, Bool.false_or, Bool.not_false, Bool.not_true]; with_reducible refine hK1 _ ?_; clear hK1
  refine W.seqK fun K2 hK2 => W.region ?_
  refine WO.go 1 (ds := []) rfl ?_
  simp only [sx, ty, Bool.false_eq_true, Int.reduceEq, Int.reduceLT, Nat.reduceAdd, Nat.reduceSub, Nat.reduceMul, Nat.reduceLT, Nat.reduceLeDiff, Nat.reduceEqDiff, List.reduceReplicate, reduceIte, beq_self_eq_true, bne_self_eq_false, Int.reduceBEq, Int.reduceBNe, Bool.or_false, Bool.false_or, Bool.not_false, Bool.not_true]
  refine WO.call (.bool (writtenF a b lo hi)) (ds := []) rfl rfl rfl rfl co24 (fun ρ w1 hb => rpart_spec w1 q a b lo hi) ?_
  refine WO.go 1 (ds := []) rfl ?_
  simp only [sx, ty, Bool.false_eq_true, Int.reduceEq, Int.reduceLT, Nat.reduceAdd, Nat.reduceSub, Nat.reduceMul, Nat.reduceLT, Nat.reduceLeDiff, Nat.reduceEqDiff, List.reduceReplicate, reduceIte, beq_self_eq_true, bne_self_eq_false, Int.reduceBEq, Int.reduceBNe, Bool.or_false, Bool.false_or, Bool.not_false, Bool.not_true]
  with_reducible refine WO.nil ?_
  refine hK2 _ ?_; clear hK2
  refine W.seqK fun K3 hK3 => W.region ?_
  refine WO.go 1 (ds := []) rfl ?_
  simp only [sx, ty, Bool.false_eq_true, Int.reduceEq, Int.reduceLT, Nat.reduceAdd, Nat.reduceSub, Nat.reduceMul, Nat.reduceLT, Nat.reduceLeDiff, Nat.reduceEqDiff, List.reduceReplicate, reduceIte, beq_self_eq_true, bne_self_eq_false, Int.reduceBEq, Int.reduceBNe, Bool.or_false, Bool.false_or, Bool.not_false, Bool.not_true]
  refine WO.call (.bool (validP c)) (ds := []) rfl rfl rfl rfl co23 (fun ρ w1 hb => r2valid_spec w1 c) ?_
  refine WO.go 1 (ds := []) rfl ?_
  simp only [sx, ty, Bool.false_eq_true, Int.reduceEq, Int.reduceLT, Nat.reduceAdd, Nat.reduceSub, Nat.reduceMul, Nat.reduceLT, Nat.reduceLeDiff, Nat.reduceEqDiff, List.reduceReplicate, reduceIte, beq_self_eq_true, bne_self_eq_false, Int.reduceBEq, Int.reduceBNe, Bool.or_false, Bool.false_or, Bool.not_false, Bool.not_true]
  with_reducible refine WO.nil ?_
  refine hK3 _ ?_; clear hK3
  refine W.seqK fun K4 hK4 => ?_
  refine W.join 28 (.val (.bool (!((okI a b lo hi k) && validP c)))) [1, 3, 5, 6] (W.region ?_) ?_
  · skip
    refine WO.go 3 (ds := [some 18, some 19, some 20, some 21, some 22, some 23, some 24, some 25, some 26, some 27, some 28]) rfl ?_
    simp only [sx, ty, Bool.false_eq_true, Int.reduceEq, Int.reduceLT, Nat.reduceAdd, Nat.reduceSub, Nat.reduceMul, Nat.reduceLT, Nat.reduceLeDiff, Nat.reduceEqDiff, List.reduceReplicate, reduceIte, beq_self_eq_true, bne_self_eq_false, Int.reduceBEq, Int.reduceBNe, Bool.or_false, Bool.false_or, Bool.not_false, Bool.not_true]
    refine WO.cases 20 _ rfl (fun hg20 => ?_) (fun hg20 => ?_)
    · skip
      refine WO.go 8 (ds := [some 18, some 19, some 20, some 21, some 22, some 23, some 24, some 25, some 26, some 27, some 28]) rfl ?_
      simp only [sx, ty, Bool.false_eq_true, Int.reduceEq, Int.reduceLT, Nat.reduceAdd, Nat.reduceSub, Nat.reduceMul, Nat.reduceLT, Nat.reduceLeDiff, Nat.reduceEqDiff, List.reduceReplicate, reduceIte, beq_self_eq_true, bne_self_eq_false, Int.reduceBEq, Int.reduceBNe, Bool.or_false, Bool.false_or, Bool.not_false, Bool.not_true]
      with_reducible refine WO.nil ?_
      refine ⟨rfl, ?_, ⟨_, rfl⟩, by simp [Own.bnd, bndL, bnd, boxO], by simp⟩
      try rw [hg20]
      try rw [hg25]
      simp [getE, bnd, keepE]
      try simp_all [okI]
    · skip
      refine WO.go 1 (ds := [some 18, some 19, some 20, some 21, some 22, some 23, some 24, some 25, some 26, some 27, some 28]) rfl ?_
      simp only [sx, ty, Bool.false_eq_true, Int.reduceEq, Int.reduceLT, Nat.reduceAdd, Nat.reduceSub, Nat.reduceMul, Nat.reduceLT, Nat.reduceLeDiff, Nat.reduceEqDiff, List.reduceReplicate, reduceIte, beq_self_eq_true, bne_self_eq_false, Int.reduceBEq, Int.reduceBNe, Bool.or_false, Bool.false_or, Bool.not_false, Bool.not_true]
      refine WO.call (.bool (isKey k)) (ds := [some 18, some 19, some 20, some 21, some 22, some 23, some 24, some 25, some 26, some 27, some 28]) rfl rfl rfl rfl co26 (fun ρ w1 hb => rKey_spec w1 k) ?_
      refine WO.go 3 (ds := [some 18, some 19, some 20, some 21, some 22, some 23, some 24, some 25, some 26, some 27, some 28]) rfl ?_
      simp only [sx, ty, Bool.false_eq_true, Int.reduceEq, Int.reduceLT, Nat.reduceAdd, Nat.reduceSub, Nat.reduceMul, Nat.reduceLT, Nat.reduceLeDiff, Nat.reduceEqDiff, List.reduceReplicate, reduceIte, beq_self_eq_true, bne_self_eq_false, Int.reduceBEq, Int.reduceBNe, Bool.or_false, Bool.false_or, Bool.not_false, Bool.not_true]
      refine WO.cases 25 _ rfl (fun hg25 => ?_) (fun hg25 => ?_)
      · skip
        refine WO.go 3 (ds := [some 18, some 19, some 20, some 21, some 22, some 23, some 24, some 25, some 26, some 27, some 28]) rfl ?_
        simp only [sx, ty, Bool.false_eq_true, Int.reduceEq, Int.reduceLT, Nat.reduceAdd, Nat.reduceSub, Nat.reduceMul, Nat.reduceLT, Nat.reduceLeDiff, Nat.reduceEqDiff, List.reduceReplicate, reduceIte, beq_self_eq_true, bne_self_eq_false, Int.reduceBEq, Int.reduceBNe, Bool.or_false, Bool.false_or, Bool.not_false, Bool.not_true]
        with_reducible refine WO.nil ?_
        refine ⟨rfl, ?_, ⟨_, rfl⟩, by simp [Own.bnd, bndL, bnd, boxO], by simp⟩
        try rw [hg20]
        try rw [hg25]
        simp [getE, bnd, keepE]
        try simp_all [okI]
      · skip
        refine WO.go 3 (ds := [some 18, some 19, some 20, some 21, some 22, some 23, some 24, some 25, some 26, some 27, some 28]) rfl ?_
        simp only [sx, ty, Bool.false_eq_true, Int.reduceEq, Int.reduceLT, Nat.reduceAdd, Nat.reduceSub, Nat.reduceMul, Nat.reduceLT, Nat.reduceLeDiff, Nat.reduceEqDiff, List.reduceReplicate, reduceIte, beq_self_eq_true, bne_self_eq_false, Int.reduceBEq, Int.reduceBNe, Bool.or_false, Bool.false_or, Bool.not_false, Bool.not_true]
        with_reducible refine WO.nil ?_
        refine ⟨rfl, ?_, ⟨_, rfl⟩, by simp [Own.bnd, bndL, bnd, boxO], by simp⟩
        try rw [hg20]
        try rw [hg25]
        simp [getE, bnd, keepE]
        try simp_all [okI]
  · simp only [sx, ty, Bool.false_eq_true, Int.reduceEq, Int.reduceLT, Nat.reduceAdd, Nat.reduceSub, Nat.reduceMul, Nat.reduceLT, Nat.reduceLeDiff, Nat.reduceEqDiff, List.reduceReplicate, reduceIte, sxk, beq_self_eq_true, bne_self_eq_false, Int.reduceBEq, Int.reduceBNe, Bool.or_false, Bool.false_or, Bool.not_false, Bool.not_true]
    refine W.cond rfl rfl (fun hc => ?_) (fun hc => ?_)
    · skip
      have hno : ((okI a b lo hi k) && validP c) = false := by simpa only [Bool.not_eq_true'] using hc
      refine W.pure (ds := []) rfl fun K6 hK6 => ?_
      simp only [sx, ty, Bool.false_eq_true, Int.reduceEq, Int.reduceLT, Nat.reduceAdd, Nat.reduceSub, Nat.reduceMul, Nat.reduceLT, Nat.reduceLeDiff, Nat.reduceEqDiff, List.reduceReplicate, reduceIte, beq_self_eq_true, bne_self_eq_false, Int.reduceBEq, Int.reduceBNe, Bool.or_false, Bool.false_or, Bool.not_false, Bool.not_true]; with_reducible refine hK6 _ ?_; clear hK6
      refine W.ret ?_
      refine ⟨by simp, RunR.ex ?_⟩
      simp only [sx, ty, Bool.false_eq_true, Int.reduceEq, Int.reduceLT, Nat.reduceAdd, Nat.reduceSub, Nat.reduceMul, Nat.reduceLT, Nat.reduceLeDiff, Nat.reduceEqDiff, List.reduceReplicate, reduceIte, sxr, beq_self_eq_true, bne_self_eq_false, Int.reduceBEq, Int.reduceBNe, Bool.or_false, Bool.false_or, Bool.not_false, Bool.not_true]
      intro ρ w1 hb
      rw [soundF_no hno]; rfl
    · skip
      have hyes : ((okI a b lo hi k) && validP c) = true := by simpa only [Bool.not_eq_false'] using hc
      have hy2 := hyes
      simp only [Bool.and_eq_true] at hy2
      have hok := hy2.1
      have hfA : formed (mvI a b k).2.1 (mvI a b k).2.2 = true := by obtain ⟨t, _, h2, _, _, h5, _⟩ := ok_fact hok; rw [h2]; exact h5
      refine W.skip (hK4 _ ?_)
      refine W.seqK fun K7 hK7 => W.region ?_
      refine WO.go 2 (ds := []) rfl ?_
      simp only [sx, ty, Bool.false_eq_true, Int.reduceEq, Int.reduceLT, Nat.reduceAdd, Nat.reduceSub, Nat.reduceMul, Nat.reduceLT, Nat.reduceLeDiff, Nat.reduceEqDiff, List.reduceReplicate, reduceIte, beq_self_eq_true, bne_self_eq_false, Int.reduceBEq, Int.reduceBNe, Bool.or_false, Bool.false_or, Bool.not_false, Bool.not_true]
      refine WO.call (.agg #[.int .i64 (mvI a b k).2.1, .int .i64 (mvI a b k).2.2]) (ds := []) rfl rfl rfl rfl co40 (fun ρ w1 hb => by have := rinterval_spec w1 q a b lo hi k hok; simpa [denL_eq, den, denL] using this) ?_
      simp only [sx, ty, Bool.false_eq_true, Int.reduceEq, Int.reduceLT, Nat.reduceAdd, Nat.reduceSub, Nat.reduceMul, Nat.reduceLT, Nat.reduceLeDiff, Nat.reduceEqDiff, List.reduceReplicate, reduceIte, beq_self_eq_true, bne_self_eq_false, Int.reduceBEq, Int.reduceBNe, Bool.or_false, Bool.false_or, Bool.not_false, Bool.not_true]
      refine WO.call (.tuple #[.agg #[.int .i64 (-(mvI a b k).2.1), .int .i64 (-(mvI a b k).2.2)], .int .i64 0]) (ds := []) rfl rfl rfl rfl co43 (fun ρ w1 hb => by have := r2back_spec w1 (mvI a b k).2.1 (mvI a b k).2.2; rw [backF_yes hfA] at this; simpa [denL_eq, den, denL] using this) ?_
      refine WO.go 6 (ds := []) rfl ?_
      simp only [sx, ty, Bool.false_eq_true, Int.reduceEq, Int.reduceLT, Nat.reduceAdd, Nat.reduceSub, Nat.reduceMul, Nat.reduceLT, Nat.reduceLeDiff, Nat.reduceEqDiff, List.reduceReplicate, reduceIte, beq_self_eq_true, bne_self_eq_false, Int.reduceBEq, Int.reduceBNe, Bool.or_false, Bool.false_or, Bool.not_false, Bool.not_true]
      with_reducible refine WO.nil ?_
      refine hK7 _ ?_; clear hK7
      refine W.seqK fun K8 hK8 => W.region ?_
      refine WO.go 2 (ds := []) rfl ?_
      simp only [sx, ty, Bool.false_eq_true, Int.reduceEq, Int.reduceLT, Nat.reduceAdd, Nat.reduceSub, Nat.reduceMul, Nat.reduceLT, Nat.reduceLeDiff, Nat.reduceEqDiff, List.reduceReplicate, reduceIte, beq_self_eq_true, bne_self_eq_false, Int.reduceBEq, Int.reduceBNe, Bool.or_false, Bool.false_or, Bool.not_false, Bool.not_true]
      refine WO.call (.tuple #[.agg #[.int .i64 (addF c (-(mvI a b k).2.1) (-(mvI a b k).2.2)).1.1, .int .i64 (addF c (-(mvI a b k).2.1) (-(mvI a b k).2.2)).1.2.1, .int .i64 (addF c (-(mvI a b k).2.1) (-(mvI a b k).2.2)).1.2.2], .int .i64 (addF c (-(mvI a b k).2.1) (-(mvI a b k).2.2)).2]) (ds := []) rfl rfl rfl rfl co39 (fun ρ w1 hb => by have := r2add_spec w1 c (-(mvI a b k).2.1) (-(mvI a b k).2.2); simpa [denL_eq, den, denL] using this) ?_
      refine WO.go 6 (ds := []) rfl ?_
      simp only [sx, ty, Bool.false_eq_true, Int.reduceEq, Int.reduceLT, Nat.reduceAdd, Nat.reduceSub, Nat.reduceMul, Nat.reduceLT, Nat.reduceLeDiff, Nat.reduceEqDiff, List.reduceReplicate, reduceIte, beq_self_eq_true, bne_self_eq_false, Int.reduceBEq, Int.reduceBNe, Bool.or_false, Bool.false_or, Bool.not_false, Bool.not_true]
      with_reducible refine WO.nil ?_
      refine hK8 _ ?_; clear hK8
      refine W.pure (ds := []) rfl fun K9 hK9 => ?_
      simp only [sx, ty, Bool.false_eq_true, Int.reduceEq, Int.reduceLT, Nat.reduceAdd, Nat.reduceSub, Nat.reduceMul, Nat.reduceLT, Nat.reduceLeDiff, Nat.reduceEqDiff, List.reduceReplicate, reduceIte, beq_self_eq_true, bne_self_eq_false, Int.reduceBEq, Int.reduceBNe, Bool.or_false, Bool.false_or, Bool.not_false, Bool.not_true]; with_reducible refine hK9 _ ?_; clear hK9
      refine W.ret ?_
      refine ⟨by simp, RunR.ex ?_⟩
      simp only [sx, ty, Bool.false_eq_true, Int.reduceEq, Int.reduceLT, Nat.reduceAdd, Nat.reduceSub, Nat.reduceMul, Nat.reduceLT, Nat.reduceLeDiff, Nat.reduceEqDiff, List.reduceReplicate, reduceIte, sxr, beq_self_eq_true, bne_self_eq_false, Int.reduceBEq, Int.reduceBNe, Bool.or_false, Bool.false_or, Bool.not_false, Bool.not_true]
      intro ρ w1 hb
      rw [soundF_yes hyes]; rfl
/-- function 18 -/
theorem rfits_spec (w : World) (q : Int × Int × Int × Int × Int) (a b : Int) (lo hi : Pit) (c : Pit) : Gives Tryd.prog 18 #[.agg #[.int .i64 q.1, .int .i64 q.2.1, .int .i64 q.2.2.1, .int .i64 q.2.2.2.1, .int .i64 q.2.2.2.2, .int .i64 a, .int .i64 b, .int .i64 lo.1, .int .i64 lo.2.1, .int .i64 lo.2.2, .int .i64 hi.1, .int .i64 hi.2.1, .int .i64 hi.2.2], .agg #[.int .i64 c.1, .int .i64 c.2.1, .int .i64 c.2.2]] w fun r _ => r = .tuple #[.bool (fitsF a b lo hi c).1, .int .i64 (fitsF a b lo hi c).2] := by
  refine gives_of [.agg [.val (.int .i64 q.1), .val (.int .i64 q.2.1), .val (.int .i64 q.2.2.1), .val (.int .i64 q.2.2.2.1), .val (.int .i64 q.2.2.2.2), .val (.int .i64 a), .val (.int .i64 b), .val (.int .i64 lo.1), .val (.int .i64 lo.2.1), .val (.int .i64 lo.2.2), .val (.int .i64 hi.1), .val (.int .i64 hi.2.1), .val (.int .i64 hi.2.2)], .agg [.val (.int .i64 c.1), .val (.int .i64 c.2.1), .val (.int .i64 c.2.2)]] 27 [.tmp 4, .tmp 5] Tryd.func18 rfl rfl rfl (by simp) rfl rfl ?_
  refine W.pure (ds := []) rfl fun K1 hK1 => ?_
  simp only [sx, ty, Bool.false_eq_true, Int.reduceEq, Int.reduceLT, Nat.reduceAdd, Nat.reduceSub, Nat.reduceMul, Nat.reduceLT, Nat.reduceLeDiff, Nat.reduceEqDiff, List.reduceReplicate, reduceIte, beq_self_eq_true, bne_self_eq_false, Int.reduceBEq, Int.reduceBNe, Bool.or_false, Bool.false_or, Bool.not_false, Bool.not_true]; with_reducible refine hK1 _ ?_; clear hK1
  refine W.seqK fun K2 hK2 => W.region ?_
  refine WO.go 1 (ds := []) rfl ?_
  simp only [sx, ty, Bool.false_eq_true, Int.reduceEq, Int.reduceLT, Nat.reduceAdd, Nat.reduceSub, Nat.reduceMul, Nat.reduceLT, Nat.reduceLeDiff, Nat.reduceEqDiff, List.reduceReplicate, reduceIte, beq_self_eq_true, bne_self_eq_false, Int.reduceBEq, Int.reduceBNe, Bool.or_false, Bool.false_or, Bool.not_false, Bool.not_true]
  refine WO.call (.bool (writtenF a b lo hi)) (ds := []) rfl rfl rfl rfl co24 (fun ρ w1 hb => rpart_spec w1 q a b lo hi) ?_
  refine WO.go 1 (ds := []) rfl ?_
  simp only [sx, ty, Bool.false_eq_true, Int.reduceEq, Int.reduceLT, Nat.reduceAdd, Nat.reduceSub, Nat.reduceMul, Nat.reduceLT, Nat.reduceLeDiff, Nat.reduceEqDiff, List.reduceReplicate, reduceIte, beq_self_eq_true, bne_self_eq_false, Int.reduceBEq, Int.reduceBNe, Bool.or_false, Bool.false_or, Bool.not_false, Bool.not_true]
  with_reducible refine WO.nil ?_
  refine hK2 _ ?_; clear hK2
  refine W.seqK fun K3 hK3 => W.region ?_
  refine WO.go 1 (ds := []) rfl ?_
  simp only [sx, ty, Bool.false_eq_true, Int.reduceEq, Int.reduceLT, Nat.reduceAdd, Nat.reduceSub, Nat.reduceMul, Nat.reduceLT, Nat.reduceLeDiff, Nat.reduceEqDiff, List.reduceReplicate, reduceIte, beq_self_eq_true, bne_self_eq_false, Int.reduceBEq, Int.reduceBNe, Bool.or_false, Bool.false_or, Bool.not_false, Bool.not_true]
  refine WO.call (.bool (validP c)) (ds := []) rfl rfl rfl rfl co23 (fun ρ w1 hb => r2valid_spec w1 c) ?_
  refine WO.go 1 (ds := []) rfl ?_
  simp only [sx, ty, Bool.false_eq_true, Int.reduceEq, Int.reduceLT, Nat.reduceAdd, Nat.reduceSub, Nat.reduceMul, Nat.reduceLT, Nat.reduceLeDiff, Nat.reduceEqDiff, List.reduceReplicate, reduceIte, beq_self_eq_true, bne_self_eq_false, Int.reduceBEq, Int.reduceBNe, Bool.or_false, Bool.false_or, Bool.not_false, Bool.not_true]
  with_reducible refine WO.nil ?_
  refine hK3 _ ?_; clear hK3
  refine W.seqK fun K4 hK4 => ?_
  refine W.join 17 (.val (.bool (!(writtenF a b lo hi && validP c)))) [2, 3] (W.region ?_) ?_
  · skip
    refine WO.go 3 (ds := [some 12, some 13, some 14, some 15, some 16, some 17]) rfl ?_
    simp only [sx, ty, Bool.false_eq_true, Int.reduceEq, Int.reduceLT, Nat.reduceAdd, Nat.reduceSub, Nat.reduceMul, Nat.reduceLT, Nat.reduceLeDiff, Nat.reduceEqDiff, List.reduceReplicate, reduceIte, beq_self_eq_true, bne_self_eq_false, Int.reduceBEq, Int.reduceBNe, Bool.or_false, Bool.false_or, Bool.not_false, Bool.not_true]
    refine WO.cases 14 _ rfl (fun hg14 => ?_) (fun hg14 => ?_)
    · skip
      refine WO.go 3 (ds := [some 12, some 13, some 14, some 15, some 16, some 17]) rfl ?_
      simp only [sx, ty, Bool.false_eq_true, Int.reduceEq, Int.reduceLT, Nat.reduceAdd, Nat.reduceSub, Nat.reduceMul, Nat.reduceLT, Nat.reduceLeDiff, Nat.reduceEqDiff, List.reduceReplicate, reduceIte, beq_self_eq_true, bne_self_eq_false, Int.reduceBEq, Int.reduceBNe, Bool.or_false, Bool.false_or, Bool.not_false, Bool.not_true]
      with_reducible refine WO.nil ?_
      refine ⟨rfl, ?_, ⟨_, rfl⟩, by simp [Own.bnd, bndL, bnd, boxO], by simp⟩
      try rw [hg14]
      simp [getE, bnd, keepE]
      try simp_all
    · skip
      refine WO.go 3 (ds := [some 12, some 13, some 14, some 15, some 16, some 17]) rfl ?_
      simp only [sx, ty, Bool.false_eq_true, Int.reduceEq, Int.reduceLT, Nat.reduceAdd, Nat.reduceSub, Nat.reduceMul, Nat.reduceLT, Nat.reduceLeDiff, Nat.reduceEqDiff, List.reduceReplicate, reduceIte, beq_self_eq_true, bne_self_eq_false, Int.reduceBEq, Int.reduceBNe, Bool.or_false, Bool.false_or, Bool.not_false, Bool.not_true]
      with_reducible refine WO.nil ?_
      refine ⟨rfl, ?_, ⟨_, rfl⟩, by simp [Own.bnd, bndL, bnd, boxO], by simp⟩
      try rw [hg14]
      simp [getE, bnd, keepE]
      try simp_all
  · simp only [sx, ty, Bool.false_eq_true, Int.reduceEq, Int.reduceLT, Nat.reduceAdd, Nat.reduceSub, Nat.reduceMul, Nat.reduceLT, Nat.reduceLeDiff, Nat.reduceEqDiff, List.reduceReplicate, reduceIte, sxk, beq_self_eq_true, bne_self_eq_false, Int.reduceBEq, Int.reduceBNe, Bool.or_false, Bool.false_or, Bool.not_false, Bool.not_true]
    refine W.cond rfl rfl (fun hc => ?_) (fun hc => ?_)
    · skip
      have hno : (writtenF a b lo hi && validP c) = false := by simpa only [Bool.not_eq_true'] using hc
      refine W.pure (ds := []) rfl fun K6 hK6 => ?_
      simp only [sx, ty, Bool.false_eq_true, Int.reduceEq, Int.reduceLT, Nat.reduceAdd, Nat.reduceSub, Nat.reduceMul, Nat.reduceLT, Nat.reduceLeDiff, Nat.reduceEqDiff, List.reduceReplicate, reduceIte, beq_self_eq_true, bne_self_eq_false, Int.reduceBEq, Int.reduceBNe, Bool.or_false, Bool.false_or, Bool.not_false, Bool.not_true]; with_reducible refine hK6 _ ?_; clear hK6
      refine W.ret ⟨by simp, _, rfl, fun ρ w1 hb => ?_⟩
      rw [fitsF_no hno]; rfl
    · skip
      have hyes : (writtenF a b lo hi && validP c) = true := by simpa only [Bool.not_eq_false'] using hc
      have hy2 := hyes
      simp only [Bool.and_eq_true] at hy2
      have hwf := written_iff.1 hy2.1
      have hvl := validP_iff.1 hwf.2.1
      have hvh := validP_iff.1 hwf.2.2.1
      have hvc := validP_iff.1 hy2.2
      refine W.skip (hK4 _ ?_)
      refine W.seqK fun K7 hK7 => ?_
      refine W.regionQ mixed (by kernel_rfl) ?_
      refine WQ.go 1 (ds := []) rfl ?_
      simp only [sx, ty, Bool.false_eq_true, Int.reduceEq, Int.reduceLT, Nat.reduceAdd, Nat.reduceSub, Nat.reduceMul, Nat.reduceLT, Nat.reduceLeDiff, Nat.reduceEqDiff, List.reduceReplicate, reduceIte, sxq, Bool.false_eq_true, beq_self_eq_true, bne_self_eq_false, Int.reduceBEq, Int.reduceBNe, Bool.or_false, Bool.false_or, Bool.not_false, Bool.not_true]
      refine WQ.call (.int .i64 (numF c)) (ds := []) rfl rfl rfl rfl co27 (fun ρ w1 hb => r2sound_spec w1 c hvc.1 (by omega)) ?_
      refine WQ.go 2 (ds := []) rfl ?_
      simp only [sx, ty, Bool.false_eq_true, Int.reduceEq, Int.reduceLT, Nat.reduceAdd, Nat.reduceSub, Nat.reduceMul, Nat.reduceLT, Nat.reduceLeDiff, Nat.reduceEqDiff, List.reduceReplicate, reduceIte, sxq, Bool.false_eq_true, beq_self_eq_true, bne_self_eq_false, Int.reduceBEq, Int.reduceBNe, Bool.or_false, Bool.false_or, Bool.not_false, Bool.not_true]
      refine WQ.call (.int .i64 (numF lo)) (ds := []) rfl rfl rfl rfl co27 (fun ρ w1 hb => r2sound_spec w1 lo hvl.1 (by omega)) ?_
      refine WQ.go 2 (ds := []) rfl ?_
      simp only [sx, ty, Bool.false_eq_true, Int.reduceEq, Int.reduceLT, Nat.reduceAdd, Nat.reduceSub, Nat.reduceMul, Nat.reduceLT, Nat.reduceLeDiff, Nat.reduceEqDiff, List.reduceReplicate, reduceIte, sxq, Bool.false_eq_true, beq_self_eq_true, bne_self_eq_false, Int.reduceBEq, Int.reduceBNe, Bool.or_false, Bool.false_or, Bool.not_false, Bool.not_true]
      refine WQ.call (.int .i64 (numF hi)) (ds := []) rfl rfl rfl rfl co27 (fun ρ w1 hb => r2sound_spec w1 hi hvh.1 (by omega)) ?_
      simp only [sx, ty, Bool.false_eq_true, Int.reduceEq, Int.reduceLT, Nat.reduceAdd, Nat.reduceSub, Nat.reduceMul, Nat.reduceLT, Nat.reduceLeDiff, Nat.reduceEqDiff, List.reduceReplicate, reduceIte, beq_self_eq_true, bne_self_eq_false, Int.reduceBEq, Int.reduceBNe, Bool.or_false, Bool.false_or, Bool.not_false, Bool.not_true]
      refine WQ.call (.bool (within (numF lo) (numF hi) (numF c))) (ds := []) rfl rfl rfl rfl co46 (fun ρ w1 hb => r13in_spec w1 _ _ _) ?_
      refine WQ.go 2 (ds := []) rfl ?_
      simp only [sx, ty, Bool.false_eq_true, Int.reduceEq, Int.reduceLT, Nat.reduceAdd, Nat.reduceSub, Nat.reduceMul, Nat.reduceLT, Nat.reduceLeDiff, Nat.reduceEqDiff, List.reduceReplicate, reduceIte, sxq, Bool.false_eq_true, beq_self_eq_true, bne_self_eq_false, Int.reduceBEq, Int.reduceBNe, Bool.or_false, Bool.false_or, Bool.not_false, Bool.not_true]
      with_reducible refine WQ.nil ?_
      refine hK7 _ ?_; clear hK7
      refine W.ret ⟨by simp, _, rfl, fun ρ w1 hb => ?_⟩
      rw [fitsF_yes hyes]; rfl
end Go.Proofs.YtpbohhfpbjofaaaDoor
