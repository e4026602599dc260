/-
  Keys: how a key is moved: walks.
-/
import Derived.Test.YtpbohhfpbjofaaaDoorK2
set_option linter.unusedVariables false
set_option linter.unusedSimpArgs false
set_option maxHeartbeats 400000
namespace Go.Proofs.YtpbohhfpbjofaaaDoor
open Go Go.SX Go.RowKit

def turns (n : Int) : Int := if 7 < n then (n + 4) / 12 else if n < -7 then -((4 - n) / 12) else 0
def moveF (k a b : Int) : Int × Int × Int × Int :=
  if (formed a b && isKey k) = true then (7 * b - 12 * a + k - 12 * turns (7 * b - 12 * a + k), a + turns (7 * b - 12 * a + k), b, 0) else (0, 0, 0, 1)
theorem moveF_yes {k a b : Int} (h : (formed a b && isKey k) = true) : moveF k a b = (7 * b - 12 * a + k - 12 * turns (7 * b - 12 * a + k), a + turns (7 * b - 12 * a + k), b, 0) := if_pos h
theorem moveF_no {k a b : Int} (h : (formed a b && isKey k) = false) : moveF k a b = (0, 0, 0, 1) := if_neg (by rw [h]; decide)
/-- function 70 -/
theorem untilUp_spec {w : World} {bn bi : Nat} {n a b : Int} (hn : w.heap[bn]? = some (.cells #[.int .i64 n] 3 (0, 0))) (hi : w.heap[bi]? = some (.cells #[.int .i64 a, .int .i64 b] 23 (0, 0))) (hne : bn ≠ bi) (hs : 0 < n) (hr : -3000 ≤ n ∧ n ≤ 3000) (ha : -1000 ≤ a ∧ a ≤ 1000) :
    GivesB Tryd.prog 70 #[.int .i64 (1), .pointer (some ⟨bn, 0, none⟩), .pointer (some ⟨bi, 0, none⟩)] w (fun c => c ∈ [bn, bi]) fun r w' => r = .tuple #[] ∧ w'.heap[bn]? = some (.cells #[.int .i64 (n - 12 * turns n)] 3 (0, 0)) ∧ w'.heap[bi]? = some (.cells #[.int .i64 (a + turns n), .int .i64 b] 23 (0, 0)) := by
  refine givesB_of (w := w) [(bn, 3, [.int .i64 n]), (bi, 23, [.int .i64 a, .int .i64 b])] [.val (.int .i64 (1)), .val (.pointer (some ⟨bn, 0, none⟩)), .val (.pointer (some ⟨bi, 0, none⟩))] 16 [] Tryd.func70 rfl rfl rfl (by simp) rfl rfl (all_two ⟨by rw [maxLen_eq]; simp, hn⟩ ⟨by rw [maxLen_eq]; simp, hi⟩) (by simp [hne]) ?_
  refine W.block ?_
  simp only [sx, ty, Bool.false_eq_true, Int.reduceEq, Int.reduceLT, Nat.reduceAdd, Nat.reduceSub, Nat.reduceMul, Nat.reduceLT, Nat.reduceLeDiff, Nat.reduceEqDiff, List.reduceReplicate, reduceIte]
  refine W.loopO (X := Nat) [0, 1, 2] (fun x => []) (fun x => [boxO 3 bn [.int .i64 (n - 12 * (x : Int))], boxO 23 bi [.int .i64 (a + (x : Int)), .int .i64 b]]) (fun x => [((fun c => ¬ c ∈ [bn, bi]), w)]) (fun x => (x : Int) ≤ turns n) (fun x => (turns n - x).toNat) 0 ?_ ?_ ?_
  · exact ⟨rfl, by simp [getE, bnd, keepE], ⟨[], by simp⟩, by simp [Own.bnd, bndL, bnd, boxO], by simp⟩
  · skip
    unfold turns; split <;> (try split) <;> omega
  · rintro x hx
    have htb : -300 ≤ turns n ∧ turns n ≤ 300 := by unfold turns; split <;> (try split) <;> omega
    simp only [sx, ty, Bool.false_eq_true, Int.reduceEq, Int.reduceLT, Nat.reduceAdd, Nat.reduceSub, Nat.reduceMul, Nat.reduceLT, Nat.reduceLeDiff, Nat.reduceEqDiff, List.reduceReplicate, reduceIte, sxk, beq_self_eq_true, bne_self_eq_false, Int.reduceBEq, Int.reduceBNe, Bool.or_false, Bool.false_or, Bool.not_false, Bool.not_true]
    refine W.seqK fun K1 hK1 => ?_
    refine W.seqK fun K2 hK2 => W.region ?_
    refine WO.loadBox (k := 0) (i := 0) rfl (ds := []) rfl rfl rfl rfl rfl (by simp [Addr.add_mid]) (by simp) agg3 sz3 (.inr rfl) ?_
    simp only [sx, ty, Bool.false_eq_true, Int.reduceEq, Int.reduceLT, Nat.reduceAdd, Nat.reduceSub, Nat.reduceMul, Nat.reduceLT, Nat.reduceLeDiff, Nat.reduceEqDiff, List.reduceReplicate, reduceIte, beq_self_eq_true, bne_self_eq_false, Int.reduceBEq, Int.reduceBNe, Bool.or_false, Bool.false_or, Bool.not_false, Bool.not_true]
    refine WO.call (.bool (isKey (n - 12 * (x : Int)))) (ds := []) rfl rfl rfl rfl co59 (fun ρ w1 hb => isKey_spec w1 _) ?_
    refine WO.go 1 (ds := []) rfl ?_
    simp only [sx, ty, Bool.false_eq_true, Int.reduceEq, Int.reduceLT, Nat.reduceAdd, Nat.reduceSub, Nat.reduceMul, Nat.reduceLT, Nat.reduceLeDiff, Nat.reduceEqDiff, List.reduceReplicate, reduceIte, beq_self_eq_true, bne_self_eq_false, Int.reduceBEq, Int.reduceBNe, Bool.or_false, Bool.false_or, Bool.not_false, Bool.not_true]
    with_reducible refine WO.nil ?_
    refine hK2 _ ?_; clear hK2
    refine W.cond rfl rfl (fun hc => ?_) (fun hc => ?_)
    · skip
      have hk : isKey (n - 12 * (x : Int)) = false := by simpa using hc
      have hlt : ((x + 1 : Nat) : Int) ≤ turns n := by simp only [isKey, within, Bool.and_eq_false_iff, decide_eq_false_iff_not] at hk; unfold turns at hx ⊢; split at hx <;> (try split at hx) <;> simp_all <;> omega
      refine W.skip (hK1 _ ?_)
      refine W.block ?_
      refine W.seqK fun K3 hK3 => W.region ?_
      refine WO.loadBox (k := 0) (i := 0) rfl (ds := []) rfl rfl rfl rfl rfl (by simp [Addr.add_mid]) (by simp) agg3 sz3 (.inr rfl) ?_
      refine WO.go 3 (ds := []) rfl ?_
      simp only [sx, ty, Bool.false_eq_true, Int.reduceEq, Int.reduceLT, Nat.reduceAdd, Nat.reduceSub, Nat.reduceMul, Nat.reduceLT, Nat.reduceLeDiff, Nat.reduceEqDiff, List.reduceReplicate, reduceIte, beq_self_eq_true, bne_self_eq_false, Int.reduceBEq, Int.reduceBNe, Bool.or_false, Bool.false_or, Bool.not_false, Bool.not_true]
      refine WO.storeBox (k := 0) (i := 0) rfl (ds := []) rfl rfl rfl rfl rfl (by simp [Addr.add_mid]) (by simp) rfl rfl sz3 ?_
      simp only [sx, ty, Bool.false_eq_true, Int.reduceEq, Int.reduceLT, Nat.reduceAdd, Nat.reduceSub, Nat.reduceMul, Nat.reduceLT, Nat.reduceLeDiff, Nat.reduceEqDiff, List.reduceReplicate, reduceIte, beq_self_eq_true, bne_self_eq_false, Int.reduceBEq, Int.reduceBNe, Bool.or_false, Bool.false_or, Bool.not_false, Bool.not_true]
      with_reducible refine WO.nil ?_
      refine hK3 _ ?_; clear hK3
      refine W.region ?_
      refine WO.go 1 (ds := []) rfl ?_
      simp only [sx, ty, Bool.false_eq_true, Int.reduceEq, Int.reduceLT, Nat.reduceAdd, Nat.reduceSub, Nat.reduceMul, Nat.reduceLT, Nat.reduceLeDiff, Nat.reduceEqDiff, List.reduceReplicate, reduceIte, beq_self_eq_true, bne_self_eq_false, Int.reduceBEq, Int.reduceBNe, Bool.or_false, Bool.false_or, Bool.not_false, Bool.not_true]
      refine WO.loadBox (k := 1) (i := 0) rfl (ds := []) rfl rfl rfl rfl rfl (by simp [Addr.add_mid]) (by simp) agg3 sz3 (.inr rfl) ?_
      refine WO.go 3 (ds := []) rfl ?_
      simp only [sx, ty, Bool.false_eq_true, Int.reduceEq, Int.reduceLT, Nat.reduceAdd, Nat.reduceSub, Nat.reduceMul, Nat.reduceLT, Nat.reduceLeDiff, Nat.reduceEqDiff, List.reduceReplicate, reduceIte, beq_self_eq_true, bne_self_eq_false, Int.reduceBEq, Int.reduceBNe, Bool.or_false, Bool.false_or, Bool.not_false, Bool.not_true]
      refine WO.storeBox (k := 1) (i := 0) rfl (ds := []) rfl rfl rfl rfl rfl (by simp [Addr.add_mid]) (by simp) rfl rfl sz3 ?_
      simp only [sx, ty, Bool.false_eq_true, Int.reduceEq, Int.reduceLT, Nat.reduceAdd, Nat.reduceSub, Nat.reduceMul, Nat.reduceLT, Nat.reduceLeDiff, Nat.reduceEqDiff, List.reduceReplicate, reduceIte, beq_self_eq_true, bne_self_eq_false, Int.reduceBEq, Int.reduceBNe, Bool.or_false, Bool.false_or, Bool.not_false, Bool.not_true]
      with_reducible refine WO.nil ?_
      rw [show IntKind.i64.wrap (1 * 12) = 1 * 12 from wrap_id (by decide) (by decide), wrap_id (x := (n - 12 * (x : Int)) - 1 * 12) (by omega) (by omega), wrap_id (x := (a + (x : Int)) + 1) (by omega) (by omega),
        show (n - 12 * (x : Int)) - 1 * 12 = (n - 12 * ((x + 1 : Nat) : Int)) by omega, show (a + (x : Int)) + 1 = (a + ((x + 1 : Nat) : Int)) by omega]
      refine ⟨x + 1, hlt, by omega, rfl, by simp [getE, bnd, keepE], ⟨[], rfl⟩, by simp [Own.bnd, bndL, bnd, boxO], by simp⟩
    · skip
      have hk : isKey (n - 12 * (x : Int)) = true := by simpa using hc
      have hend : turns n = (x : Int) := by rw [isKey, within_iff] at hk; unfold turns at hx ⊢; split at hx <;> (try split at hx) <;> simp_all <;> omega
      refine W.exit ?_
      refine ⟨by simp, ?_⟩
      simp only [sx, ty, Bool.false_eq_true, Int.reduceEq, Int.reduceLT, Nat.reduceAdd, Nat.reduceSub, Nat.reduceMul, Nat.reduceLT, Nat.reduceLeDiff, Nat.reduceEqDiff, List.reduceReplicate, reduceIte, sxr, beq_self_eq_true, bne_self_eq_false, Int.reduceBEq, Int.reduceBNe, Bool.or_false, Bool.false_or, Bool.not_false, Bool.not_true]
      intro ρ w1 hb
      exact ⟨rfl, by rw [box_heap hb (k := 0) rfl]; simp; omega, by rw [box_heap hb (k := 1) rfl]; simp; omega⟩
/-- function 70 -/
theorem untilDown_spec {w : World} {bn bi : Nat} {n a b : Int} (hn : w.heap[bn]? = some (.cells #[.int .i64 n] 3 (0, 0))) (hi : w.heap[bi]? = some (.cells #[.int .i64 a, .int .i64 b] 23 (0, 0))) (hne : bn ≠ bi) (hs : n ≤ 0) (hr : -3000 ≤ n ∧ n ≤ 3000) (ha : -1000 ≤ a ∧ a ≤ 1000) :
    GivesB Tryd.prog 70 #[.int .i64 (-1), .pointer (some ⟨bn, 0, none⟩), .pointer (some ⟨bi, 0, none⟩)] w (fun c => c ∈ [bn, bi]) fun r w' => r = .tuple #[] ∧ w'.heap[bn]? = some (.cells #[.int .i64 (n - 12 * turns n)] 3 (0, 0)) ∧ w'.heap[bi]? = some (.cells #[.int .i64 (a + turns n), .int .i64 b] 23 (0, 0)) := by
  refine givesB_of (w := w) [(bn, 3, [.int .i64 n]), (bi, 23, [.int .i64 a, .int .i64 b])] [.val (.int .i64 (-1)), .val (.pointer (some ⟨bn, 0, none⟩)), .val (.pointer (some ⟨bi, 0, none⟩))] 16 [] Tryd.func70 rfl rfl rfl (by simp) rfl rfl (all_two ⟨by rw [maxLen_eq]; simp, hn⟩ ⟨by rw [maxLen_eq]; simp, hi⟩) (by simp [hne]) ?_
  refine W.block ?_
  simp only [sx, ty, Bool.false_eq_true, Int.reduceEq, Int.reduceLT, Nat.reduceAdd, Nat.reduceSub, Nat.reduceMul, Nat.reduceLT, Nat.reduceLeDiff, Nat.reduceEqDiff, List.reduceReplicate, reduceIte]
  refine W.loopO (X := Nat) [0, 1, 2] (fun x => []) (fun x => [boxO 3 bn [.int .i64 (n + 12 * (x : Int))], boxO 23 bi [.int .i64 (a - (x : Int)), .int .i64 b]]) (fun x => [((fun c => ¬ c ∈ [bn, bi]), w)]) (fun x => (x : Int) ≤ - turns n) (fun x => (- turns n - x).toNat) 0 ?_ ?_ ?_
  · exact ⟨rfl, by simp [getE, bnd, keepE], ⟨[], by simp⟩, by simp [Own.bnd, bndL, bnd, boxO], by simp⟩
  · skip
    unfold turns; split <;> (try split) <;> omega
  · rintro x hx
    have htb : -300 ≤ turns n ∧ turns n ≤ 300 := by unfold turns; split <;> (try split) <;> omega
    simp only [sx, ty, Bool.false_eq_true, Int.reduceEq, Int.reduceLT, Nat.reduceAdd, Nat.reduceSub, Nat.reduceMul, Nat.reduceLT, Nat.reduceLeDiff, Nat.reduceEqDiff, List.reduceReplicate, reduceIte, sxk, beq_self_eq_true, bne_self_eq_false, Int.reduceBEq, Int.reduceBNe, Bool.or_false, Bool.false_or, Bool.not_false, Bool.not_true]
    refine W.seqK fun K1 hK1 => ?_
    refine W.seqK fun K2 hK2 => W.region ?_
    refine WO.loadBox (k := 0) (i := 0) rfl (ds := []) rfl rfl rfl rfl rfl (by simp [Addr.add_mid]) (by simp) agg3 sz3 (.inr rfl) ?_
    simp only [sx, ty, Bool.false_eq_true, Int.reduceEq, Int.reduceLT, Nat.reduceAdd, Nat.reduceSub, Nat.reduceMul, Nat.reduceLT, Nat.reduceLeDiff, Nat.reduceEqDiff, List.reduceReplicate, reduceIte, beq_self_eq_true, bne_self_eq_false, Int.reduceBEq, Int.reduceBNe, Bool.or_false, Bool.false_or, Bool.not_false, Bool.not_true]
    refine WO.call (.bool (isKey (n + 12 * (x : Int)))) (ds := []) rfl rfl rfl rfl co59 (fun ρ w1 hb => isKey_spec w1 _) ?_
    refine WO.go 1 (ds := []) rfl ?_
    simp only [sx, ty, Bool.false_eq_true, Int.reduceEq, Int.reduceLT, Nat.reduceAdd, Nat.reduceSub, Nat.reduceMul, Nat.reduceLT, Nat.reduceLeDiff, Nat.reduceEqDiff, List.reduceReplicate, reduceIte, beq_self_eq_true, bne_self_eq_false, Int.reduceBEq, Int.reduceBNe, Bool.or_false, Bool.false_or, Bool.not_false, Bool.not_true]
    with_reducible refine WO.nil ?_
    refine hK2 _ ?_; clear hK2
    refine W.cond rfl rfl (fun hc => ?_) (fun hc => ?_)
    · skip
      have hk : isKey (n + 12 * (x : Int)) = false := by simpa using hc
      have hlt : ((x + 1 : Nat) : Int) ≤ - turns n := by simp only [isKey, within, Bool.and_eq_false_iff, decide_eq_false_iff_not] at hk; unfold turns at hx ⊢; split at hx <;> (try split at hx) <;> simp_all <;> omega
      refine W.skip (hK1 _ ?_)
      refine W.block ?_
      refine W.seqK fun K3 hK3 => W.region ?_
      refine WO.loadBox (k := 0) (i := 0) rfl (ds := []) rfl rfl rfl rfl rfl (by simp [Addr.add_mid]) (by simp) agg3 sz3 (.inr rfl) ?_
      refine WO.go 3 (ds := []) rfl ?_
      simp only [sx, ty, Bool.false_eq_true, Int.reduceEq, Int.reduceLT, Nat.reduceAdd, Nat.reduceSub, Nat.reduceMul, Nat.reduceLT, Nat.reduceLeDiff, Nat.reduceEqDiff, List.reduceReplicate, reduceIte, beq_self_eq_true, bne_self_eq_false, Int.reduceBEq, Int.reduceBNe, Bool.or_false, Bool.false_or, Bool.not_false, Bool.not_true]
      refine WO.storeBox (k := 0) (i := 0) rfl (ds := []) rfl rfl rfl rfl rfl (by simp [Addr.add_mid]) (by simp) rfl rfl sz3 ?_
      simp only [sx, ty, Bool.false_eq_true, Int.reduceEq, Int.reduceLT, Nat.reduceAdd, Nat.reduceSub, Nat.reduceMul, Nat.reduceLT, Nat.reduceLeDiff, Nat.reduceEqDiff, List.reduceReplicate, reduceIte, beq_self_eq_true, bne_self_eq_false, Int.reduceBEq, Int.reduceBNe, Bool.or_false, Bool.false_or, Bool.not_false, Bool.not_true]
      with_reducible refine WO.nil ?_
      refine hK3 _ ?_; clear hK3
      refine W.region ?_
      refine WO.go 1 (ds := []) rfl ?_
      simp only [sx, ty, Bool.false_eq_true, Int.reduceEq, Int.reduceLT, Nat.reduceAdd, Nat.reduceSub, Nat.reduceMul, Nat.reduceLT, Nat.reduceLeDiff, Nat.reduceEqDiff, List.reduceReplicate, reduceIte, beq_self_eq_true, bne_self_eq_false, Int.reduceBEq, Int.reduceBNe, Bool.or_false, Bool.false_or, Bool.not_false, Bool.not_true]
      refine WO.loadBox (k := 1) (i := 0) rfl (ds := []) rfl rfl rfl rfl rfl (by simp [Addr.add_mid]) (by simp) agg3 sz3 (.inr rfl) ?_
      refine WO.go 3 (ds := []) rfl ?_
      simp only [sx, ty, Bool.false_eq_true, Int.reduceEq, Int.reduceLT, Nat.reduceAdd, Nat.reduceSub, Nat.reduceMul, Nat.reduceLT, Nat.reduceLeDiff, Nat.reduceEqDiff, List.reduceReplicate, reduceIte, beq_self_eq_true, bne_self_eq_false, Int.reduceBEq, Int.reduceBNe, Bool.or_false, Bool.false_or, Bool.not_false, Bool.not_true]
      refine WO.storeBox (k := 1) (i := 0) rfl (ds := []) rfl rfl rfl rfl rfl (by simp [Addr.add_mid]) (by simp) rfl rfl sz3 ?_
      simp only [sx, ty, Bool.false_eq_true, Int.reduceEq, Int.reduceLT, Nat.reduceAdd, Nat.reduceSub, Nat.reduceMul, Nat.reduceLT, Nat.reduceLeDiff, Nat.reduceEqDiff, List.reduceReplicate, reduceIte, beq_self_eq_true, bne_self_eq_false, Int.reduceBEq, Int.reduceBNe, Bool.or_false, Bool.false_or, Bool.not_false, Bool.not_true]
      with_reducible refine WO.nil ?_
      rw [show IntKind.i64.wrap (-1 * 12) = -1 * 12 from wrap_id (by decide) (by decide), wrap_id (x := (n + 12 * (x : Int)) - -1 * 12) (by omega) (by omega), wrap_id (x := (a - (x : Int)) + -1) (by omega) (by omega),
        show (n + 12 * (x : Int)) - -1 * 12 = (n + 12 * ((x + 1 : Nat) : Int)) by omega, show (a - (x : Int)) + -1 = (a - ((x + 1 : Nat) : Int)) by omega]
      refine ⟨x + 1, hlt, by omega, rfl, by simp [getE, bnd, keepE], ⟨[], rfl⟩, by simp [Own.bnd, bndL, bnd, boxO], by simp⟩
    · skip
      have hk : isKey (n + 12 * (x : Int)) = true := by simpa using hc
      have hend : - turns n = (x : Int) := by rw [isKey, within_iff] at hk; unfold turns at hx ⊢; split at hx <;> (try split at hx) <;> simp_all <;> omega
      refine W.exit ?_
      refine ⟨by simp, ?_⟩
      simp only [sx, ty, Bool.false_eq_true, Int.reduceEq, Int.reduceLT, Nat.reduceAdd, Nat.reduceSub, Nat.reduceMul, Nat.reduceLT, Nat.reduceLeDiff, Nat.reduceEqDiff, List.reduceReplicate, reduceIte, sxr, beq_self_eq_true, bne_self_eq_false, Int.reduceBEq, Int.reduceBNe, Bool.or_false, Bool.false_or, Bool.not_false, Bool.not_true]
      intro ρ w1 hb
      exact ⟨rfl, by rw [box_heap hb (k := 0) rfl]; simp; omega, by rw [box_heap hb (k := 1) rfl]; simp; omega⟩

theorem fifths_ne (a b : Int) : ((fifthsF a b).2 != 0) = !formed a b := by
  cases h : formed a b with
  | true => rw [fifthsF_yes h]; rfl
  | false => rw [fifthsF_no h]; rfl
/-- function 61 -/
theorem move_spec (w : World) (k a b : Int) : Gives Tryd.prog 61 #[.int .i64 k, .agg #[.int .i64 a, .int .i64 b]] w fun r _ => r = .tuple #[.int .i64 (moveF k a b).1, .agg #[.int .i64 (moveF k a b).2.1, .int .i64 (moveF k a b).2.2.1], .int .i64 (moveF k a b).2.2.2] := by
  refine gives_of [.val (.int .i64 k), .agg [.val (.int .i64 a), .val (.int .i64 b)]] 35 [.tmp 4, .cell 5 23, .tmp 6] Tryd.func61 rfl rfl rfl (by simp) rfl rfl ?_
  refine W.pure (ds := []) rfl fun K1 hK1 => ?_
  simp only [sx, ty, Bool.false_eq_true, Int.reduceEq, Int.reduceLT, Nat.reduceAdd, Nat.reduceSub, Nat.reduceMul, Nat.reduceLT, Nat.reduceLeDiff, Nat.reduceEqDiff, List.reduceReplicate, reduceIte, beq_self_eq_true, bne_self_eq_false, Int.reduceBEq, Int.reduceBNe, Bool.or_false, Bool.false_or, Bool.not_false, Bool.not_true]; with_reducible refine hK1 _ ?_; clear hK1
  refine W.seqK fun K2 hK2 => W.region ?_
  refine WO.go 1 (ds := []) rfl ?_
  simp only [sx, ty, Bool.false_eq_true, Int.reduceEq, Int.reduceLT, Nat.reduceAdd, Nat.reduceSub, Nat.reduceMul, Nat.reduceLT, Nat.reduceLeDiff, Nat.reduceEqDiff, List.reduceReplicate, reduceIte, beq_self_eq_true, bne_self_eq_false, Int.reduceBEq, Int.reduceBNe, Bool.or_false, Bool.false_or, Bool.not_false, Bool.not_true]
  refine WO.call (.tuple #[.int .i64 (fifthsF a b).1, .int .i64 (fifthsF a b).2]) (ds := []) rfl rfl rfl rfl co25 (fun ρ w1 hb => fifths_spec w1 _ _) ?_
  refine WO.go 6 (ds := []) rfl ?_
  simp only [sx, ty, Bool.false_eq_true, Int.reduceEq, Int.reduceLT, Nat.reduceAdd, Nat.reduceSub, Nat.reduceMul, Nat.reduceLT, Nat.reduceLeDiff, Nat.reduceEqDiff, List.reduceReplicate, reduceIte, beq_self_eq_true, bne_self_eq_false, Int.reduceBEq, Int.reduceBNe, Bool.or_false, Bool.false_or, Bool.not_false, Bool.not_true]
  with_reducible refine WO.nil ?_
  refine hK2 _ ?_; clear hK2
  refine W.seqK fun K3 hK3 => ?_
  refine W.join 21 (.val (.bool (!(formed a b && isKey k)))) [0, 3, 5, 7] (W.region ?_) ?_
  · skip
    refine WO.go 3 (ds := [some 15, some 16, some 17, some 18, some 19, some 20, some 21]) rfl ?_
    simp only [sx, ty, Bool.false_eq_true, Int.reduceEq, Int.reduceLT, Nat.reduceAdd, Nat.reduceSub, Nat.reduceMul, Nat.reduceLT, Nat.reduceLeDiff, Nat.reduceEqDiff, List.reduceReplicate, reduceIte, beq_self_eq_true, bne_self_eq_false, Int.reduceBEq, Int.reduceBNe, Bool.or_false, Bool.false_or, Bool.not_false, Bool.not_true]
    refine WO.cases 17 _ rfl (fun hg17 => ?_) (fun hg17 => ?_)
    · skip
      refine WO.go 4 (ds := [some 15, some 16, some 17, some 18, some 19, some 20, some 21]) rfl ?_
      simp only [sx, ty, Bool.false_eq_true, Int.reduceEq, Int.reduceLT, Nat.reduceAdd, Nat.reduceSub, Nat.reduceMul, Nat.reduceLT, Nat.reduceLeDiff, Nat.reduceEqDiff, List.reduceReplicate, reduceIte, beq_self_eq_true, bne_self_eq_false, Int.reduceBEq, Int.reduceBNe, Bool.or_false, Bool.false_or, Bool.not_false, Bool.not_true]
      with_reducible refine WO.nil ?_
      refine ⟨rfl, ?_, ⟨_, rfl⟩, by simp [Own.bnd, bndL, bnd, boxO], by simp⟩
      first | rw [hg17] | skip
      simp [getE, bnd, keepE, fifths_ne]
      try (cases h : formed a b <;> simp_all [fifths_ne])
    · skip
      refine WO.go 1 (ds := [some 15, some 16, some 17, some 18, some 19, some 20, some 21]) rfl ?_
      simp only [sx, ty, Bool.false_eq_true, Int.reduceEq, Int.reduceLT, Nat.reduceAdd, Nat.reduceSub, Nat.reduceMul, Nat.reduceLT, Nat.reduceLeDiff, Nat.reduceEqDiff, List.reduceReplicate, reduceIte, beq_self_eq_true, bne_self_eq_false, Int.reduceBEq, Int.reduceBNe, Bool.or_false, Bool.false_or, Bool.not_false, Bool.not_true]
      refine WO.call (.bool (isKey k)) (ds := [some 15, some 16, some 17, some 18, some 19, some 20, some 21]) rfl rfl rfl rfl co59 (fun ρ w1 hb => isKey_spec w1 _) ?_
      refine WO.go 2 (ds := [some 15, some 16, some 17, some 18, some 19, some 20, some 21]) rfl ?_
      simp only [sx, ty, Bool.false_eq_true, Int.reduceEq, Int.reduceLT, Nat.reduceAdd, Nat.reduceSub, Nat.reduceMul, Nat.reduceLT, Nat.reduceLeDiff, Nat.reduceEqDiff, List.reduceReplicate, reduceIte, beq_self_eq_true, bne_self_eq_false, Int.reduceBEq, Int.reduceBNe, Bool.or_false, Bool.false_or, Bool.not_false, Bool.not_true]
      with_reducible refine WO.nil ?_
      refine ⟨rfl, ?_, ⟨_, rfl⟩, by simp [Own.bnd, bndL, bnd, boxO], by simp⟩
      first | rw [hg17] | skip
      simp [getE, bnd, keepE, fifths_ne]
      try (cases h : formed a b <;> simp_all [fifths_ne])
  · simp only [sx, ty, Bool.false_eq_true, Int.reduceEq, Int.reduceLT, Nat.reduceAdd, Nat.reduceSub, Nat.reduceMul, Nat.reduceLT, Nat.reduceLeDiff, Nat.reduceEqDiff, List.reduceReplicate, reduceIte, sxk, beq_self_eq_true, bne_self_eq_false, Int.reduceBEq, Int.reduceBNe, Bool.or_false, Bool.false_or, Bool.not_false, Bool.not_true]
    refine W.cond rfl rfl (fun hc => ?_) (fun hc => ?_)
    · skip
      have hf : (formed a b && isKey k) = false := by cases h1 : formed a b <;> cases h2 : isKey k <;> simp [h1, h2] at hc ⊢
      refine W.pure (ds := []) rfl fun K5 hK5 => ?_
      simp only [sx, ty, Bool.false_eq_true, Int.reduceEq, Int.reduceLT, Nat.reduceAdd, Nat.reduceSub, Nat.reduceMul, Nat.reduceLT, Nat.reduceLeDiff, Nat.reduceEqDiff, List.reduceReplicate, reduceIte, beq_self_eq_true, bne_self_eq_false, Int.reduceBEq, Int.reduceBNe, Bool.or_false, Bool.false_or, Bool.not_false, Bool.not_true]; with_reducible refine hK5 _ ?_; clear hK5
      refine W.ret ?_
      refine ⟨by simp, RunR.ex ?_⟩
      simp only [sx, ty, Bool.false_eq_true, Int.reduceEq, Int.reduceLT, Nat.reduceAdd, Nat.reduceSub, Nat.reduceMul, Nat.reduceLT, Nat.reduceLeDiff, Nat.reduceEqDiff, List.reduceReplicate, reduceIte, sxr, beq_self_eq_true, bne_self_eq_false, Int.reduceBEq, Int.reduceBNe, Bool.or_false, Bool.false_or, Bool.not_false, Bool.not_true]
      intro ρ w1 hb
      rw [moveF_no hf]; rfl
    · skip
      have hf : (formed a b && isKey k) = true := by cases h1 : formed a b <;> cases h2 : isKey k <;> simp [h1, h2] at hc ⊢
      have hff : formed a b = true := by simp only [Bool.and_eq_true] at hf; exact hf.1
      have hfb := formed_iff.1 hff
      have hk : isKey k = true := by simp only [Bool.and_eq_true] at hf; exact hf.2
      have hkb := within_iff.1 hk
      simp only [fifthsF_yes hff, wrap_id (x := 7 * b - 12 * a + k) (by omega) (by omega)]
      refine W.skip (hK3 _ ?_)
      refine W.pure (ds := []) rfl fun K6 hK6 => ?_
      simp only [sx, ty, Bool.false_eq_true, Int.reduceEq, Int.reduceLT, Nat.reduceAdd, Nat.reduceSub, Nat.reduceMul, Nat.reduceLT, Nat.reduceLeDiff, Nat.reduceEqDiff, List.reduceReplicate, reduceIte, beq_self_eq_true, bne_self_eq_false, Int.reduceBEq, Int.reduceBNe, Bool.or_false, Bool.false_or, Bool.not_false, Bool.not_true]; with_reducible refine hK6 _ ?_; clear hK6
      refine W.pure (ds := []) rfl fun K7 hK7 => ?_
      simp only [sx, ty, Bool.false_eq_true, Int.reduceEq, Int.reduceLT, Nat.reduceAdd, Nat.reduceSub, Nat.reduceMul, Nat.reduceLT, Nat.reduceLeDiff, Nat.reduceEqDiff, List.reduceReplicate, reduceIte, beq_self_eq_true, bne_self_eq_false, Int.reduceBEq, Int.reduceBNe, Bool.or_false, Bool.false_or, Bool.not_false, Bool.not_true]; with_reducible refine hK7 _ ?_; clear hK7
      refine W.seqK fun K8 hK8 => ?_
      simp only [wrap_id (x := 7 * b - 12 * a + k) (by omega) (by omega)]
      refine W.pure (ds := []) rfl fun K9 hK9 => ?_
      simp only [sx, ty, Bool.false_eq_true, Int.reduceEq, Int.reduceLT, Nat.reduceAdd, Nat.reduceSub, Nat.reduceMul, Nat.reduceLT, Nat.reduceLeDiff, Nat.reduceEqDiff, List.reduceReplicate, reduceIte, beq_self_eq_true, bne_self_eq_false, Int.reduceBEq, Int.reduceBNe, Bool.or_false, Bool.false_or, Bool.not_false, Bool.not_true]; with_reducible refine hK9 _ ?_; clear hK9
      refine W.cond rfl rfl (fun hc => ?_) (fun hc => ?_)
      · skip
        have hpos : 0 < 7 * b - 12 * a + k := by simpa using hc
        refine W.region ?_
        refine WO.go 1 (ds := []) rfl ?_
        simp only [sx, ty, Bool.false_eq_true, Int.reduceEq, Int.reduceLT, Nat.reduceAdd, Nat.reduceSub, Nat.reduceMul, Nat.reduceLT, Nat.reduceLeDiff, Nat.reduceEqDiff, List.reduceReplicate, reduceIte, beq_self_eq_true, bne_self_eq_false, Int.reduceBEq, Int.reduceBNe, Bool.or_false, Bool.false_or, Bool.not_false, Bool.not_true]
        refine WO.callBox2 (k1 := 2) (k2 := 0) [.val (.int .i64 ((7 * b - 12 * a + k) - 12 * turns (7 * b - 12 * a + k)))] [.val (.int .i64 (a + turns (7 * b - 12 * a + k))), .val (.int .i64 b)] (.tuple #[]) (ds := []) rfl rfl rfl rfl co70 rfl rfl (by decide) rfl rfl (fun ρ w1 hb g1 g2 hne => untilUp_spec g1 g2 hne (by omega) (by omega) (by omega)) ?_
        simp only [sx, ty, Bool.false_eq_true, Int.reduceEq, Int.reduceLT, Nat.reduceAdd, Nat.reduceSub, Nat.reduceMul, Nat.reduceLT, Nat.reduceLeDiff, Nat.reduceEqDiff, List.reduceReplicate, reduceIte, beq_self_eq_true, bne_self_eq_false, Int.reduceBEq, Int.reduceBNe, Bool.or_false, Bool.false_or, Bool.not_false, Bool.not_true]
        with_reducible refine WO.nil ?_
        refine hK8 _ ?_
        refine W.seqK fun K10 hK10 => ?_
        refine W.regionT' 3 [] [0, 1, 2] mixed (by kernel_rfl) ?_
        simp only [sx, ty, Bool.false_eq_true, Int.reduceEq, Int.reduceLT, Nat.reduceAdd, Nat.reduceSub, Nat.reduceMul, Nat.reduceLT, Nat.reduceLeDiff, Nat.reduceEqDiff, List.reduceReplicate, reduceIte, sxt, List.toList_toArray, beq_self_eq_true, bne_self_eq_false, Int.reduceBEq, Int.reduceBNe, Bool.or_false, Bool.false_or, Bool.not_false, Bool.not_true]
        refine WQ.go 3 (ds := []) rfl ?_
        simp only [sx, ty, Bool.false_eq_true, Int.reduceEq, Int.reduceLT, Nat.reduceAdd, Nat.reduceSub, Nat.reduceMul, Nat.reduceLT, Nat.reduceLeDiff, Nat.reduceEqDiff, List.reduceReplicate, reduceIte, sxq, Bool.false_eq_true, beq_self_eq_true, bne_self_eq_false, Int.reduceBEq, Int.reduceBNe, Bool.or_false, Bool.false_or, Bool.not_false, Bool.not_true]
        with_reducible refine WQ.nil ?_
        refine WO.go 2 (ds := []) rfl ?_
        simp only [sx, ty, Bool.false_eq_true, Int.reduceEq, Int.reduceLT, Nat.reduceAdd, Nat.reduceSub, Nat.reduceMul, Nat.reduceLT, Nat.reduceLeDiff, Nat.reduceEqDiff, List.reduceReplicate, reduceIte, beq_self_eq_true, bne_self_eq_false, Int.reduceBEq, Int.reduceBNe, Bool.or_false, Bool.false_or, Bool.not_false, Bool.not_true]
        with_reducible refine WO.nil ?_
        refine hK10 _ ?_; clear hK10
        refine W.ret ?_
        refine ⟨by simp, RunR.ex ?_⟩
        simp only [sx, ty, Bool.false_eq_true, Int.reduceEq, Int.reduceLT, Nat.reduceAdd, Nat.reduceSub, Nat.reduceMul, Nat.reduceLT, Nat.reduceLeDiff, Nat.reduceEqDiff, List.reduceReplicate, reduceIte, sxr, beq_self_eq_true, bne_self_eq_false, Int.reduceBEq, Int.reduceBNe, Bool.or_false, Bool.false_or, Bool.not_false, Bool.not_true]
        intro ρ w1 hb
        rw [moveF_yes hf]; rfl
      · skip
        have hpos : 7 * b - 12 * a + k ≤ 0 := by simpa using hc
        refine W.region ?_
        refine WO.go 1 (ds := []) rfl ?_
        simp only [sx, ty, Bool.false_eq_true, Int.reduceEq, Int.reduceLT, Nat.reduceAdd, Nat.reduceSub, Nat.reduceMul, Nat.reduceLT, Nat.reduceLeDiff, Nat.reduceEqDiff, List.reduceReplicate, reduceIte, beq_self_eq_true, bne_self_eq_false, Int.reduceBEq, Int.reduceBNe, Bool.or_false, Bool.false_or, Bool.not_false, Bool.not_true]
        refine WO.callBox2 (k1 := 2) (k2 := 0) [.val (.int .i64 ((7 * b - 12 * a + k) - 12 * turns (7 * b - 12 * a + k)))] [.val (.int .i64 (a + turns (7 * b - 12 * a + k))), .val (.int .i64 b)] (.tuple #[]) (ds := []) rfl rfl rfl rfl co70 rfl rfl (by decide) rfl rfl (fun ρ w1 hb g1 g2 hne => untilDown_spec g1 g2 hne (by omega) (by omega) (by omega)) ?_
        simp only [sx, ty, Bool.false_eq_true, Int.reduceEq, Int.reduceLT, Nat.reduceAdd, Nat.reduceSub, Nat.reduceMul, Nat.reduceLT, Nat.reduceLeDiff, Nat.reduceEqDiff, List.reduceReplicate, reduceIte, beq_self_eq_true, bne_self_eq_false, Int.reduceBEq, Int.reduceBNe, Bool.or_false, Bool.false_or, Bool.not_false, Bool.not_true]
        with_reducible refine WO.nil ?_
        refine hK8 _ ?_
        refine W.seqK fun K11 hK11 => ?_
        refine W.regionT' 3 [] [0, 1, 2] mixed (by kernel_rfl) ?_
        simp only [sx, ty, Bool.false_eq_true, Int.reduceEq, Int.reduceLT, Nat.reduceAdd, Nat.reduceSub, Nat.reduceMul, Nat.reduceLT, Nat.reduceLeDiff, Nat.reduceEqDiff, List.reduceReplicate, reduceIte, sxt, List.toList_toArray, beq_self_eq_true, bne_self_eq_false, Int.reduceBEq, Int.reduceBNe, Bool.or_false, Bool.false_or, Bool.not_false, Bool.not_true]
        refine WQ.go 3 (ds := []) rfl ?_
        simp only [sx, ty, Bool.false_eq_true, Int.reduceEq, Int.reduceLT, Nat.reduceAdd, Nat.reduceSub, Nat.reduceMul, Nat.reduceLT, Nat.reduceLeDiff, Nat.reduceEqDiff, List.reduceReplicate, reduceIte, sxq, Bool.false_eq_true, beq_self_eq_true, bne_self_eq_false, Int.reduceBEq, Int.reduceBNe, Bool.or_false, Bool.false_or, Bool.not_false, Bool.not_true]
        with_reducible refine WQ.nil ?_
        refine WO.go 2 (ds := []) rfl ?_
        simp only [sx, ty, Bool.false_eq_true, Int.reduceEq, Int.reduceLT, Nat.reduceAdd, Nat.reduceSub, Nat.reduceMul, Nat.reduceLT, Nat.reduceLeDiff, Nat.reduceEqDiff, List.reduceReplicate, reduceIte, beq_self_eq_true, bne_self_eq_false, Int.reduceBEq, Int.reduceBNe, Bool.or_false, Bool.false_or, Bool.not_false, Bool.not_true]
        with_reducible refine WO.nil ?_
        refine hK11 _ ?_; clear hK11
        refine W.ret ?_
        refine ⟨by simp, RunR.ex ?_⟩
        simp only [sx, ty, Bool.false_eq_true, Int.reduceEq, Int.reduceLT, Nat.reduceAdd, Nat.reduceSub, Nat.reduceMul, Nat.reduceLT, Nat.reduceLeDiff, Nat.reduceEqDiff, List.reduceReplicate, reduceIte, sxr, beq_self_eq_true, bne_self_eq_false, Int.reduceBEq, Int.reduceBNe, Bool.or_false, Bool.false_or, Bool.not_false, Bool.not_true]
        intro ρ w1 hb
        rw [moveF_yes hf]; rfl

def upT (n : Int) : Int := if 7 < n then (n + 4) / 12 else 0
def dnT (n : Int) : Int := if n < -7 then (4 - n) / 12 else 0
theorem turns_eq (n : Int) : turns n = upT n - dnT n := by unfold turns upT dnT; split <;> (try split) <;> omega
theorem upT_step {n : Int} {x : Nat} (h : 7 < n - 12 * (x : Int)) : ((x + 1 : Nat) : Int) ≤ upT n := by unfold upT; split <;> omega
theorem upT_end {n : Int} {x : Nat} (hx : (x : Int) ≤ upT n) (h : ¬ 7 < n - 12 * (x : Int)) : upT n = (x : Int) := by unfold upT at hx ⊢; split at hx <;> simp_all <;> omega
theorem dnT_step {n : Int} {x y : Nat} (hu : upT n = (x : Int)) (hx : (y : Int) ≤ dnT n) (h : n - 12 * (x : Int) + 12 * (y : Int) < -7) : ((y + 1 : Nat) : Int) ≤ dnT n := by unfold upT at hu; unfold dnT at hx ⊢; split at hu <;> split at hx <;> simp_all <;> omega
theorem dnT_end {n : Int} {x y : Nat} (hu : upT n = (x : Int)) (hx : (y : Int) ≤ dnT n) (h : ¬ n - 12 * (x : Int) + 12 * (y : Int) < -7) : dnT n = (y : Int) := by unfold upT at hu; unfold dnT at hx ⊢; split at hu <;> split at hx <;> simp_all <;> omega
theorem up_bound {n : Int} (h : -3000 ≤ n ∧ n ≤ 3000) : 0 ≤ upT n ∧ upT n ≤ 300 ∧ 0 ≤ dnT n ∧ dnT n ≤ 300 := by unfold upT dnT; split <;> split <;> omega
/-- function 62 -/
theorem rmove_spec (w : World) (k a b : Int) : Gives Tryd.prog 62 #[.int .i64 k, .agg #[.int .i64 a, .int .i64 b]] w fun r _ => r = .tuple #[.int .i64 (moveF k a b).1, .agg #[.int .i64 (moveF k a b).2.1, .int .i64 (moveF k a b).2.2.1], .int .i64 (moveF k a b).2.2.2] := by
  refine gives_of [.val (.int .i64 k), .agg [.val (.int .i64 a), .val (.int .i64 b)]] 44 [.tmp 4, .cell 5 23, .tmp 6] Tryd.func62 rfl rfl rfl (by simp) rfl rfl ?_
  refine W.pure (ds := []) rfl fun K1 hK1 => ?_
  simp only [sx, ty, Bool.false_eq_true, Int.reduceEq, Int.reduceLT, Nat.reduceAdd, Nat.reduceSub, Nat.reduceMul, Nat.reduceLT, Nat.reduceLeDiff, Nat.reduceEqDiff, List.reduceReplicate, reduceIte, beq_self_eq_true, bne_self_eq_false, Int.reduceBEq, Int.reduceBNe, Bool.or_false, Bool.false_or, Bool.not_false, Bool.not_true]; with_reducible refine hK1 _ ?_; clear hK1
  refine W.seqK fun K2 hK2 => W.region ?_
  refine WO.go 1 (ds := []) rfl ?_
  simp only [sx, ty, Bool.false_eq_true, Int.reduceEq, Int.reduceLT, Nat.reduceAdd, Nat.reduceSub, Nat.reduceMul, Nat.reduceLT, Nat.reduceLeDiff, Nat.reduceEqDiff, List.reduceReplicate, reduceIte, beq_self_eq_true, bne_self_eq_false, Int.reduceBEq, Int.reduceBNe, Bool.or_false, Bool.false_or, Bool.not_false, Bool.not_true]
  refine WO.call (.tuple #[.int .i64 (fifthsF a b).1, .int .i64 (fifthsF a b).2]) (ds := []) rfl rfl rfl rfl co71 (fun ρ w1 hb => rfifths_spec w1 _ _) ?_
  refine WO.go 5 (ds := []) rfl ?_
  simp only [sx, ty, Bool.false_eq_true, Int.reduceEq, Int.reduceLT, Nat.reduceAdd, Nat.reduceSub, Nat.reduceMul, Nat.reduceLT, Nat.reduceLeDiff, Nat.reduceEqDiff, List.reduceReplicate, reduceIte, beq_self_eq_true, bne_self_eq_false, Int.reduceBEq, Int.reduceBNe, Bool.or_false, Bool.false_or, Bool.not_false, Bool.not_true]
  with_reducible refine WO.nil ?_
  refine hK2 _ ?_; clear hK2
  refine W.seqK fun K3 hK3 => ?_
  refine W.join 21 (.val (.bool (!(formed a b && isKey k)))) [0, 3, 5, 7] (W.region ?_) ?_
  · skip
    refine WO.go 3 (ds := [some 15, some 16, some 17, some 18, some 19, some 20, some 21]) rfl ?_
    simp only [sx, ty, Bool.false_eq_true, Int.reduceEq, Int.reduceLT, Nat.reduceAdd, Nat.reduceSub, Nat.reduceMul, Nat.reduceLT, Nat.reduceLeDiff, Nat.reduceEqDiff, List.reduceReplicate, reduceIte, beq_self_eq_true, bne_self_eq_false, Int.reduceBEq, Int.reduceBNe, Bool.or_false, Bool.false_or, Bool.not_false, Bool.not_true]
    refine WO.cases 17 _ rfl (fun hg17 => ?_) (fun hg17 => ?_)
    · skip
      refine WO.go 4 (ds := [some 15, some 16, some 17, some 18, some 19, some 20, some 21]) rfl ?_
      simp only [sx, ty, Bool.false_eq_true, Int.reduceEq, Int.reduceLT, Nat.reduceAdd, Nat.reduceSub, Nat.reduceMul, Nat.reduceLT, Nat.reduceLeDiff, Nat.reduceEqDiff, List.reduceReplicate, reduceIte, beq_self_eq_true, bne_self_eq_false, Int.reduceBEq, Int.reduceBNe, Bool.or_false, Bool.false_or, Bool.not_false, Bool.not_true]
      with_reducible refine WO.nil ?_
      refine ⟨rfl, ?_, ⟨_, rfl⟩, by simp [Own.bnd, bndL, bnd, boxO], by simp⟩
      first | rw [hg17] | skip
      simp [getE, bnd, keepE, fifths_ne]
      try (cases h : formed a b <;> simp_all [fifths_ne])
    · skip
      refine WO.go 1 (ds := [some 15, some 16, some 17, some 18, some 19, some 20, some 21]) rfl ?_
      simp only [sx, ty, Bool.false_eq_true, Int.reduceEq, Int.reduceLT, Nat.reduceAdd, Nat.reduceSub, Nat.reduceMul, Nat.reduceLT, Nat.reduceLeDiff, Nat.reduceEqDiff, List.reduceReplicate, reduceIte, beq_self_eq_true, bne_self_eq_false, Int.reduceBEq, Int.reduceBNe, Bool.or_false, Bool.false_or, Bool.not_false, Bool.not_true]
      refine WO.call (.bool (isKey k)) (ds := [some 15, some 16, some 17, some 18, some 19, some 20, some 21]) rfl rfl rfl rfl co26 (fun ρ w1 hb => rKey_spec w1 _) ?_
      refine WO.go 2 (ds := [some 15, some 16, some 17, some 18, some 19, some 20, some 21]) rfl ?_
      simp only [sx, ty, Bool.false_eq_true, Int.reduceEq, Int.reduceLT, Nat.reduceAdd, Nat.reduceSub, Nat.reduceMul, Nat.reduceLT, Nat.reduceLeDiff, Nat.reduceEqDiff, List.reduceReplicate, reduceIte, beq_self_eq_true, bne_self_eq_false, Int.reduceBEq, Int.reduceBNe, Bool.or_false, Bool.false_or, Bool.not_false, Bool.not_true]
      with_reducible refine WO.nil ?_
      refine ⟨rfl, ?_, ⟨_, rfl⟩, by simp [Own.bnd, bndL, bnd, boxO], by simp⟩
      first | rw [hg17] | skip
      simp [getE, bnd, keepE, fifths_ne]
      try (cases h : formed a b <;> simp_all [fifths_ne])
  · simp only [sx, ty, Bool.false_eq_true, Int.reduceEq, Int.reduceLT, Nat.reduceAdd, Nat.reduceSub, Nat.reduceMul, Nat.reduceLT, Nat.reduceLeDiff, Nat.reduceEqDiff, List.reduceReplicate, reduceIte, sxk, beq_self_eq_true, bne_self_eq_false, Int.reduceBEq, Int.reduceBNe, Bool.or_false, Bool.false_or, Bool.not_false, Bool.not_true]
    refine W.cond rfl rfl (fun hc => ?_) (fun hc => ?_)
    · skip
      have hf : (formed a b && isKey k) = false := by cases h1 : formed a b <;> cases h2 : isKey k <;> simp [h1, h2] at hc ⊢
      refine W.pure (ds := []) rfl fun K5 hK5 => ?_
      simp only [sx, ty, Bool.false_eq_true, Int.reduceEq, Int.reduceLT, Nat.reduceAdd, Nat.reduceSub, Nat.reduceMul, Nat.reduceLT, Nat.reduceLeDiff, Nat.reduceEqDiff, List.reduceReplicate, reduceIte, beq_self_eq_true, bne_self_eq_false, Int.reduceBEq, Int.reduceBNe, Bool.or_false, Bool.false_or, Bool.not_false, Bool.not_true]; with_reducible refine hK5 _ ?_; clear hK5
      refine W.ret ?_
      refine ⟨by simp, RunR.ex ?_⟩
      simp only [sx, ty, Bool.false_eq_true, Int.reduceEq, Int.reduceLT, Nat.reduceAdd, Nat.reduceSub, Nat.reduceMul, Nat.reduceLT, Nat.reduceLeDiff, Nat.reduceEqDiff, List.reduceReplicate, reduceIte, sxr, beq_self_eq_true, bne_self_eq_false, Int.reduceBEq, Int.reduceBNe, Bool.or_false, Bool.false_or, Bool.not_false, Bool.not_true]
      intro ρ w1 hb
      rw [moveF_no hf]; rfl
    · skip
      have hf : (formed a b && isKey k) = true := by cases h1 : formed a b <;> cases h2 : isKey k <;> simp [h1, h2] at hc ⊢
      have hff : formed a b = true := by simp only [Bool.and_eq_true] at hf; exact hf.1
      have hfb := formed_iff.1 hff
      have hk : isKey k = true := by simp only [Bool.and_eq_true] at hf; exact hf.2
      have hkb := within_iff.1 hk
      simp only [fifthsF_yes hff, show k + (7 * b - 12 * a) = 7 * b - 12 * a + k by omega, wrap_id (x := 7 * b - 12 * a + k) (by omega) (by omega)]
      have hub := up_bound (n := 7 * b - 12 * a + k) (by omega)
      refine W.skip (hK3 _ ?_)
      refine W.pure (ds := []) rfl fun K6 hK6 => ?_
      simp only [sx, ty, Bool.false_eq_true, Int.reduceEq, Int.reduceLT, Nat.reduceAdd, Nat.reduceSub, Nat.reduceMul, Nat.reduceLT, Nat.reduceLeDiff, Nat.reduceEqDiff, List.reduceReplicate, reduceIte, beq_self_eq_true, bne_self_eq_false, Int.reduceBEq, Int.reduceBNe, Bool.or_false, Bool.false_or, Bool.not_false, Bool.not_true]; with_reducible refine hK6 _ ?_; clear hK6
      refine W.seqK fun K7 hK7 => ?_
      refine W.block ?_
      simp only [show k + (7 * b - 12 * a) = 7 * b - 12 * a + k by omega, wrap_id (x := 7 * b - 12 * a + k) (by omega) (by omega)]
      refine W.loopO (X := Nat) [3, 5] (fun x => [(9, .val (.int .i64 ((7 * b - 12 * a + k) - 12 * (x : Int))))]) (fun x => [.cells 23 [.val (.int .i64 (a + (x : Int))), .val (.int .i64 b)], .cells 23 [.val (.int .i64 0), .val (.int .i64 0)]]) (fun x => [((fun _ => True), w)]) (fun x => (x : Int) ≤ upT (7 * b - 12 * a + k)) (fun x => (upT (7 * b - 12 * a + k) - x).toNat) 0 ?_ ?_ ?_
      · exact ⟨rfl, by simp [getE, bnd, keepE], ⟨[], by simp⟩, by simp [Own.bnd, bndL, bnd, boxO], by simp⟩
      · skip
        simp; omega
      · rintro x hx
        simp only [sx, ty, Bool.false_eq_true, Int.reduceEq, Int.reduceLT, Nat.reduceAdd, Nat.reduceSub, Nat.reduceMul, Nat.reduceLT, Nat.reduceLeDiff, Nat.reduceEqDiff, List.reduceReplicate, reduceIte, sxk, beq_self_eq_true, bne_self_eq_false, Int.reduceBEq, Int.reduceBNe, Bool.or_false, Bool.false_or, Bool.not_false, Bool.not_true]
        refine W.seqK fun K8 hK8 => ?_
        refine W.pure (ds := []) rfl fun K9 hK9 => ?_
        simp only [sx, ty, Bool.false_eq_true, Int.reduceEq, Int.reduceLT, Nat.reduceAdd, Nat.reduceSub, Nat.reduceMul, Nat.reduceLT, Nat.reduceLeDiff, Nat.reduceEqDiff, List.reduceReplicate, reduceIte, beq_self_eq_true, bne_self_eq_false, Int.reduceBEq, Int.reduceBNe, Bool.or_false, Bool.false_or, Bool.not_false, Bool.not_true]; with_reducible refine hK9 _ ?_; clear hK9
        refine W.cond rfl rfl (fun hc => ?_) (fun hc => ?_)
        · skip
          have hlt := upT_step (n := 7 * b - 12 * a + k) (x := x) (by simpa using hc)
          refine W.skip (hK8 _ ?_)
          refine W.block ?_
          refine W.pure (ds := []) rfl fun K10 hK10 => ?_
          simp only [sx, ty, Bool.false_eq_true, Int.reduceEq, Int.reduceLT, Nat.reduceAdd, Nat.reduceSub, Nat.reduceMul, Nat.reduceLT, Nat.reduceLeDiff, Nat.reduceEqDiff, List.reduceReplicate, reduceIte, beq_self_eq_true, bne_self_eq_false, Int.reduceBEq, Int.reduceBNe, Bool.or_false, Bool.false_or, Bool.not_false, Bool.not_true]; with_reducible refine hK10 _ ?_; clear hK10
          refine W.region ?_
          refine WO.go 5 (ds := []) rfl ?_
          simp only [sx, ty, Bool.false_eq_true, Int.reduceEq, Int.reduceLT, Nat.reduceAdd, Nat.reduceSub, Nat.reduceMul, Nat.reduceLT, Nat.reduceLeDiff, Nat.reduceEqDiff, List.reduceReplicate, reduceIte, beq_self_eq_true, bne_self_eq_false, Int.reduceBEq, Int.reduceBNe, Bool.or_false, Bool.false_or, Bool.not_false, Bool.not_true]
          with_reducible refine WO.nil ?_
          rw [wrap_id (x := (7 * b - 12 * a + k) - 12 * (x : Int) - 12) (by omega) (by omega), wrap_id (x := a + (x : Int) + 1) (by omega) (by omega), show (7 * b - 12 * a + k) - 12 * (x : Int) - 12 = (7 * b - 12 * a + k) - 12 * ((x + 1 : Nat) : Int) by omega, show a + (x : Int) + 1 = a + ((x + 1 : Nat) : Int) by omega]
          refine ⟨x + 1, hlt, by omega, rfl, by simp [getE, bnd, keepE], ⟨[], rfl⟩, by simp [Own.bnd, bndL, bnd], by simp⟩
        · skip
          have hu := upT_end hx (by simpa using hc)
          refine W.exit (hK7 _ ?_)
          refine W.seqK fun K11 hK11 => ?_
          refine W.block ?_
          refine W.loopO (X := Nat) [3, 5] (fun y => [(9, .val (.int .i64 ((7 * b - 12 * a + k) - 12 * (x : Int) + 12 * (y : Int))))]) (fun y => [.cells 23 [.val (.int .i64 (a + (x : Int) - (y : Int))), .val (.int .i64 b)], .cells 23 [.val (.int .i64 0), .val (.int .i64 0)]]) (fun y => [((fun _ => True), w)]) (fun y => (y : Int) ≤ dnT (7 * b - 12 * a + k)) (fun y => (dnT (7 * b - 12 * a + k) - y).toNat) 0 ?_ ?_ ?_
          · exact ⟨rfl, by simp [getE, bnd, keepE], ⟨[], by simp⟩, by simp [Own.bnd, bndL, bnd, boxO], by simp⟩
          · skip
            simp; omega
          · rintro y hy
            simp only [sx, ty, Bool.false_eq_true, Int.reduceEq, Int.reduceLT, Nat.reduceAdd, Nat.reduceSub, Nat.reduceMul, Nat.reduceLT, Nat.reduceLeDiff, Nat.reduceEqDiff, List.reduceReplicate, reduceIte, sxk, beq_self_eq_true, bne_self_eq_false, Int.reduceBEq, Int.reduceBNe, Bool.or_false, Bool.false_or, Bool.not_false, Bool.not_true]
            refine W.seqK fun K12 hK12 => ?_
            refine W.pure (ds := []) rfl fun K13 hK13 => ?_
            simp only [sx, ty, Bool.false_eq_true, Int.reduceEq, Int.reduceLT, Nat.reduceAdd, Nat.reduceSub, Nat.reduceMul, Nat.reduceLT, Nat.reduceLeDiff, Nat.reduceEqDiff, List.reduceReplicate, reduceIte, beq_self_eq_true, bne_self_eq_false, Int.reduceBEq, Int.reduceBNe, Bool.or_false, Bool.false_or, Bool.not_false, Bool.not_true]; with_reducible refine hK13 _ ?_; clear hK13
            refine W.cond rfl rfl (fun hc => ?_) (fun hc => ?_)
            · skip
              have hlt := dnT_step hu hy (by simpa using hc)
              refine W.skip (hK12 _ ?_)
              refine W.block ?_
              refine W.pure (ds := []) rfl fun K14 hK14 => ?_
              simp only [sx, ty, Bool.false_eq_true, Int.reduceEq, Int.reduceLT, Nat.reduceAdd, Nat.reduceSub, Nat.reduceMul, Nat.reduceLT, Nat.reduceLeDiff, Nat.reduceEqDiff, List.reduceReplicate, reduceIte, beq_self_eq_true, bne_self_eq_false, Int.reduceBEq, Int.reduceBNe, Bool.or_false, Bool.false_or, Bool.not_false, Bool.not_true]; with_reducible refine hK14 _ ?_; clear hK14
              refine W.region ?_
              refine WO.go 5 (ds := []) rfl ?_
              simp only [sx, ty, Bool.false_eq_true, Int.reduceEq, Int.reduceLT, Nat.reduceAdd, Nat.reduceSub, Nat.reduceMul, Nat.reduceLT, Nat.reduceLeDiff, Nat.reduceEqDiff, List.reduceReplicate, reduceIte, beq_self_eq_true, bne_self_eq_false, Int.reduceBEq, Int.reduceBNe, Bool.or_false, Bool.false_or, Bool.not_false, Bool.not_true]
              with_reducible refine WO.nil ?_
              rw [wrap_id (x := (7 * b - 12 * a + k) - 12 * (x : Int) + 12 * (y : Int) + 12) (by omega) (by omega), wrap_id (x := a + (x : Int) - (y : Int) - 1) (by omega) (by omega), show (7 * b - 12 * a + k) - 12 * (x : Int) + 12 * (y : Int) + 12 = (7 * b - 12 * a + k) - 12 * (x : Int) + 12 * ((y + 1 : Nat) : Int) by omega, show a + (x : Int) - (y : Int) - 1 = a + (x : Int) - ((y + 1 : Nat) : Int) by omega]
              refine ⟨y + 1, hlt, by omega, rfl, by simp [getE, bnd, keepE], ⟨[], rfl⟩, by simp [Own.bnd, bndL, bnd], by simp⟩
            · skip
              have hd := dnT_end hu hy (by simpa using hc)
              refine W.exit (hK11 _ ?_)
              refine W.seqK fun K15 hK15 => ?_
              refine W.regionT' 3 [] [0, 1, 2] mixed (by kernel_rfl) ?_
              simp only [sx, ty, Bool.false_eq_true, Int.reduceEq, Int.reduceLT, Nat.reduceAdd, Nat.reduceSub, Nat.reduceMul, Nat.reduceLT, Nat.reduceLeDiff, Nat.reduceEqDiff, List.reduceReplicate, reduceIte, sxt, List.toList_toArray, beq_self_eq_true, bne_self_eq_false, Int.reduceBEq, Int.reduceBNe, Bool.or_false, Bool.false_or, Bool.not_false, Bool.not_true]
              refine WQ.go 3 (ds := []) rfl ?_
              simp only [sx, ty, Bool.false_eq_true, Int.reduceEq, Int.reduceLT, Nat.reduceAdd, Nat.reduceSub, Nat.reduceMul, Nat.reduceLT, Nat.reduceLeDiff, Nat.reduceEqDiff, List.reduceReplicate, reduceIte, sxq, Bool.false_eq_true, beq_self_eq_true, bne_self_eq_false, Int.reduceBEq, Int.reduceBNe, Bool.or_false, Bool.false_or, Bool.not_false, Bool.not_true]
              with_reducible refine WQ.nil ?_
              refine WO.go 2 (ds := []) rfl ?_
              simp only [sx, ty, Bool.false_eq_true, Int.reduceEq, Int.reduceLT, Nat.reduceAdd, Nat.reduceSub, Nat.reduceMul, Nat.reduceLT, Nat.reduceLeDiff, Nat.reduceEqDiff, List.reduceReplicate, reduceIte, beq_self_eq_true, bne_self_eq_false, Int.reduceBEq, Int.reduceBNe, Bool.or_false, Bool.false_or, Bool.not_false, Bool.not_true]
              with_reducible refine WO.nil ?_
              refine hK15 _ ?_; clear hK15
              refine W.ret ?_
              refine ⟨by simp, RunR.ex ?_⟩
              simp only [sx, ty, Bool.false_eq_true, Int.reduceEq, Int.reduceLT, Nat.reduceAdd, Nat.reduceSub, Nat.reduceMul, Nat.reduceLT, Nat.reduceLeDiff, Nat.reduceEqDiff, List.reduceReplicate, reduceIte, sxr, beq_self_eq_true, bne_self_eq_false, Int.reduceBEq, Int.reduceBNe, Bool.or_false, Bool.false_or, Bool.not_false, Bool.not_true]
              intro ρ w1 hb
              rw [moveF_yes hf, turns_eq, hu, hd, show (7 * b - 12 * a + k) - 12 * ((x : Int) - (y : Int)) = (7 * b - 12 * a + k) - 12 * (x : Int) + 12 * (y : Int) by omega, show a + ((x : Int) - (y : Int)) = a + (x : Int) - (y : Int) by omega]; rfl
end Go.Proofs.YtpbohhfpbjofaaaDoor
