/-
  Keys: equal lists: walks.
-/
import Derived.Test.YtpkbghnjfjnoiaaDoorK3
set_option linter.unusedVariables false
set_option linter.unusedSimpArgs false
set_option maxHeartbeats 400000
namespace Go.Proofs.YtpkbghnjfjnoiaaDoor
open Go Go.SX Go.RowKit
/-- function 18 -/
theorem sameInts_spec {S S2 : Nat → Prop} {w : World} {v u : Value} {a b : List Int} (hl : rInts.rd S w [v] a) (hl2 : rInts.rd S2 w [u] b) : Gives Tryd.prog 18 #[v, u] w fun r _ => r = .bool (decide (a = b)) := by
  obtain ⟨p, c, rfl, hc1, hc2⟩ := Rp.slice_val hl
  obtain ⟨p2, c2, rfl, hc3, hc4⟩ := Rp.slice_val hl2
  have hl : (Rp.slice rInt).rd (fun _ => True) w _ a := Rp.any hl
  have hl2 : (Rp.slice rInt).rd (fun _ => True) w _ b := Rp.any hl2
  refine gives_of [.val (.slice p a.length c), .val (.slice p2 b.length c2)] 26 [.tmp 4] Tryd.func18 rfl rfl rfl (by simp) rfl rfl ?_
  refine W.pure (ds := []) rfl fun K1 hK1 => ?_
  simp only [sx, ty, Bool.false_eq_true, Int.reduceEq, Int.reduceLT, Nat.reduceAdd, Nat.reduceSub, Nat.reduceMul, Nat.reduceLT, Nat.reduceLeDiff, Nat.reduceEqDiff, List.reduceReplicate, reduceIte, beq_self_eq_true, bne_self_eq_false, Int.reduceBEq, Int.reduceBNe, Bool.or_false, Bool.false_or, Bool.not_false, Bool.not_true]; with_reducible refine hK1 _ ?_; clear hK1
  refine W.seqK fun K2 hK2 => ?_
  refine W.pure (ds := []) rfl fun K3 hK3 => ?_
  simp only [sx, ty, Bool.false_eq_true, Int.reduceEq, Int.reduceLT, Nat.reduceAdd, Nat.reduceSub, Nat.reduceMul, Nat.reduceLT, Nat.reduceLeDiff, Nat.reduceEqDiff, List.reduceReplicate, reduceIte, beq_self_eq_true, bne_self_eq_false, Int.reduceBEq, Int.reduceBNe, Bool.or_false, Bool.false_or, Bool.not_false, Bool.not_true]; with_reducible refine hK3 _ ?_; clear hK3
  refine W.cond rfl rfl (fun hc => ?_) (fun hc => ?_)
  · skip
    have h0 : a.length ≠ b.length := by simp at hc; omega
    refine W.pure (ds := []) rfl fun K4 hK4 => ?_
    simp only [sx, ty, Bool.false_eq_true, Int.reduceEq, Int.reduceLT, Nat.reduceAdd, Nat.reduceSub, Nat.reduceMul, Nat.reduceLT, Nat.reduceLeDiff, Nat.reduceEqDiff, List.reduceReplicate, reduceIte, beq_self_eq_true, bne_self_eq_false, Int.reduceBEq, Int.reduceBNe, Bool.or_false, Bool.false_or, Bool.not_false, Bool.not_true]; with_reducible refine hK4 _ ?_; clear hK4
    refine W.ret ⟨by simp, _, rfl, fun ρ w1 hb => ?_⟩
    simp only [den, Value.bool.injEq]
    rw [eq_comm, decide_eq_false_iff_not]
    rintro rfl
    exact h0 rfl
  · skip
    have h0 : a.length = b.length := by simp at hc; omega
    refine W.skip (hK2 _ ?_)
    refine W.seqK fun K5 hK5 => ?_
    refine W.pure (ds := []) rfl fun K6 hK6 => ?_
    simp only [sx, ty, Bool.false_eq_true, Int.reduceEq, Int.reduceLT, Nat.reduceAdd, Nat.reduceSub, Nat.reduceMul, Nat.reduceLT, Nat.reduceLeDiff, Nat.reduceEqDiff, List.reduceReplicate, reduceIte, beq_self_eq_true, bne_self_eq_false, Int.reduceBEq, Int.reduceBNe, Bool.or_false, Bool.false_or, Bool.not_false, Bool.not_true]; with_reducible refine hK6 _ ?_; clear hK6
    refine W.block ?_
    refine W.loopK (X := Nat) [0, 1] (fun x => [(5, .val (.int .i64 x))]) (fun x => x ≤ a.length ∧ ∀ j, j < x → a[j]? = b[j]?) (fun x => a.length - x) 0 ?_ ?_ ?_
    · exact ⟨rfl, by simp [getE, bnd, keepE], ⟨[], by simp⟩, by simp [Own.bnd, bndL, bnd, boxO], by simp⟩
    · skip
      exact ⟨Nat.zero_le _, fun j h => by omega⟩
    · rintro i ⟨hi, hno⟩
      simp only [sx, ty, Bool.false_eq_true, Int.reduceEq, Int.reduceLT, Nat.reduceAdd, Nat.reduceSub, Nat.reduceMul, Nat.reduceLT, Nat.reduceLeDiff, Nat.reduceEqDiff, List.reduceReplicate, reduceIte, sxk, beq_self_eq_true, bne_self_eq_false, Int.reduceBEq, Int.reduceBNe, Bool.or_false, Bool.false_or, Bool.not_false, Bool.not_true]
      refine W.seqK fun K7 hK7 => ?_
      refine W.pure (ds := []) rfl fun K8 hK8 => ?_
      simp only [sx, ty, Bool.false_eq_true, Int.reduceEq, Int.reduceLT, Nat.reduceAdd, Nat.reduceSub, Nat.reduceMul, Nat.reduceLT, Nat.reduceLeDiff, Nat.reduceEqDiff, List.reduceReplicate, reduceIte, beq_self_eq_true, bne_self_eq_false, Int.reduceBEq, Int.reduceBNe, Bool.or_false, Bool.false_or, Bool.not_false, Bool.not_true]; with_reducible refine hK8 _ ?_; clear hK8
      refine W.cond rfl rfl (fun hc => ?_) (fun hc => ?_)
      · skip
        have hlt : i < a.length := by simpa using hc
        have hltb : i < b.length := by omega
        refine W.skip (hK7 _ ?_)
        refine W.seqK fun K9 hK9 => ?_
        refine W.block ?_
        refine W.seqK fun K10 hK10 => ?_
        refine W.regionQ mixed (by kernel_rfl) ?_
        refine WQ.go 2 (ds := []) rfl ?_
        simp only [sx, ty, Bool.false_eq_true, Int.reduceEq, Int.reduceLT, Nat.reduceAdd, Nat.reduceSub, Nat.reduceMul, Nat.reduceLT, Nat.reduceLeDiff, Nat.reduceEqDiff, List.reduceReplicate, reduceIte, sxq, Bool.false_eq_true, beq_self_eq_true, bne_self_eq_false, Int.reduceBEq, Int.reduceBNe, Bool.or_false, Bool.false_or, Bool.not_false, Bool.not_true]
        refine WQ.elem (y := a[i]) hl (by simp [St.put]) (ds := []) rfl rfl rfl (by simp [St.put]) (fun _ => rfl) rfl rfl rfl rfl rfl el25 agg3 sz3 (.inr rfl) (by omega) (getIdx a hlt) fun p ces hces => ?_
        obtain rfl := rInt_open hces
        clear hces
        refine WQ.go 2 (ds := []) rfl ?_
        simp only [sx, ty, Bool.false_eq_true, Int.reduceEq, Int.reduceLT, Nat.reduceAdd, Nat.reduceSub, Nat.reduceMul, Nat.reduceLT, Nat.reduceLeDiff, Nat.reduceEqDiff, List.reduceReplicate, reduceIte, sxq, Bool.false_eq_true, beq_self_eq_true, bne_self_eq_false, Int.reduceBEq, Int.reduceBNe, Bool.or_false, Bool.false_or, Bool.not_false, Bool.not_true]
        refine WQ.elem (y := b[i]) hl2 (by simp [St.put]) (ds := []) rfl rfl rfl (by simp [St.put]) (fun _ => rfl) rfl rfl rfl rfl rfl el25 agg3 sz3 (.inr rfl) (by omega) (getIdx b hltb) fun p ces hces => ?_
        obtain rfl := rInt_open hces
        clear hces
        refine WQ.go 1 (ds := []) rfl ?_
        simp only [sx, ty, Bool.false_eq_true, Int.reduceEq, Int.reduceLT, Nat.reduceAdd, Nat.reduceSub, Nat.reduceMul, Nat.reduceLT, Nat.reduceLeDiff, Nat.reduceEqDiff, List.reduceReplicate, reduceIte, sxq, Bool.false_eq_true, beq_self_eq_true, bne_self_eq_false, Int.reduceBEq, Int.reduceBNe, Bool.or_false, Bool.false_or, Bool.not_false, Bool.not_true]
        with_reducible refine WQ.nil ?_
        refine hK10 _ ?_; clear hK10
        refine W.cond rfl rfl (fun hc => ?_) (fun hc => ?_)
        · skip
          have hy : a[i] ≠ b[i] := by simpa using hc
          refine W.pure (ds := []) rfl fun K11 hK11 => ?_
          simp only [sx, ty, Bool.false_eq_true, Int.reduceEq, Int.reduceLT, Nat.reduceAdd, Nat.reduceSub, Nat.reduceMul, Nat.reduceLT, Nat.reduceLeDiff, Nat.reduceEqDiff, List.reduceReplicate, reduceIte, beq_self_eq_true, bne_self_eq_false, Int.reduceBEq, Int.reduceBNe, Bool.or_false, Bool.false_or, Bool.not_false, Bool.not_true]; with_reducible refine hK11 _ ?_; clear hK11
          refine W.ret ⟨by simp, _, rfl, fun ρ w1 hb => ?_⟩
          simp only [den, Value.bool.injEq]
          rw [eq_comm, decide_eq_false_iff_not]
          rintro rfl
          exact hy rfl
        · skip
          have hy : a[i] = b[i] := by simpa using hc
          refine W.skip (hK9 _ ?_)
          refine W.region ?_
          refine WO.go 3 (ds := []) rfl ?_
          simp only [sx, ty, Bool.false_eq_true, Int.reduceEq, Int.reduceLT, Nat.reduceAdd, Nat.reduceSub, Nat.reduceMul, Nat.reduceLT, Nat.reduceLeDiff, Nat.reduceEqDiff, List.reduceReplicate, reduceIte, beq_self_eq_true, bne_self_eq_false, Int.reduceBEq, Int.reduceBNe, Bool.or_false, Bool.false_or, Bool.not_false, Bool.not_true]
          with_reducible refine WO.nil ?_
          refine ⟨i + 1, ?_, by first | omega | (simp; omega), rfl, by simp [getE, bnd, keepE, wrap_succ (show i + 1 ≤ 9223372036854775807 by omega)], ⟨_, rfl⟩, by simp [Own.bnd, bndL, bnd, boxO], by simp⟩
          refine ⟨hlt, fun j h => ?_⟩
          rcases Nat.lt_succ_iff_lt_or_eq.1 h with h | rfl
          · exact hno j h
          · rw [getIdx a hlt, getIdx b hltb, hy]
      · skip
        refine W.exit (hK5 _ ?_)
        refine W.pure (ds := []) rfl fun K12 hK12 => ?_
        simp only [sx, ty, Bool.false_eq_true, Int.reduceEq, Int.reduceLT, Nat.reduceAdd, Nat.reduceSub, Nat.reduceMul, Nat.reduceLT, Nat.reduceLeDiff, Nat.reduceEqDiff, List.reduceReplicate, reduceIte, beq_self_eq_true, bne_self_eq_false, Int.reduceBEq, Int.reduceBNe, Bool.or_false, Bool.false_or, Bool.not_false, Bool.not_true]; with_reducible refine hK12 _ ?_; clear hK12
        refine W.ret ⟨by simp, _, rfl, fun ρ w1 hb => ?_⟩
        have hge : a.length ≤ i := by simpa using hc
        simp only [den, Value.bool.injEq]
        rw [eq_comm, decide_eq_true_eq]
        apply List.ext_getElem?
        intro q
        rcases Nat.lt_or_ge q i with hq | hq
        · exact hno q hq
        · rw [List.getElem?_eq_none (by omega), List.getElem?_eq_none (by omega)]

/-- a pitch: Step, Alter, Octave -/
abbrev Pit := Int × Int × Int
def rPit : Rp Pit := Rp.pair rInt (Rp.pair rInt rInt)
def rPits : Rp (List Pit) := Rp.slice rPit
theorem rPit_open {S : Nat → Prop} {w : World} {ces : List Value} {d : Pit} (h : rPit.rd S w ces d) : ces = [.int .i64 d.1, .int .i64 d.2.1, .int .i64 d.2.2] := by
  obtain ⟨c1, c2, rfl, h1, d1, d2, rfl, h2, h3⟩ := h
  have h1 : c1 = [.int .i64 d.1] := h1
  have h2 : d1 = [.int .i64 d.2.1] := h2
  have h3 : d2 = [.int .i64 d.2.2] := h3
  subst h1; subst h2; subst h3
  rfl
theorem rPit_mk {S : Nat → Prop} {w : World} (a b c : Int) : rPit.rd S w [.int .i64 a, .int .i64 b, .int .i64 c] (a, b, c) := ⟨[.int .i64 a], _, rfl, rfl, [.int .i64 b], _, rfl, rfl, rfl⟩
theorem pit_eq (a b : Pit) : ([a.1, a.2.1, a.2.2] == [b.1, b.2.1, b.2.2]) = decide (a = b) := by
  obtain ⟨a1, a2, a3⟩ := a
  obtain ⟨b1, b2, b3⟩ := b
  by_cases h : (a1, a2, a3) = (b1, b2, b3)
  · rw [decide_eq_true h]; simp only [Prod.mk.injEq] at h; obtain ⟨rfl, rfl, rfl⟩ := h; simp
  · rw [decide_eq_false h, beq_eq_false_iff_ne]; intro h'; simp only [List.cons.injEq, and_true] at h'; exact h (by simp only [Prod.mk.injEq]; exact h')
/-- function 21 -/
theorem same_spec {S S2 : Nat → Prop} {w : World} {v u : Value} {a b : List Pit} (hl : rPits.rd S w [v] a) (hl2 : rPits.rd S2 w [u] b) : Gives Tryd.prog 21 #[v, u] w fun r _ => r = .bool (decide (a = b)) := by
  obtain ⟨p, c, rfl, hc1, hc2⟩ := Rp.slice_val hl
  obtain ⟨p2, c2, rfl, hc3, hc4⟩ := Rp.slice_val hl2
  have hl : (Rp.slice rPit).rd (fun _ => True) w _ a := Rp.any hl
  have hl2 : (Rp.slice rPit).rd (fun _ => True) w _ b := Rp.any hl2
  refine gives_of [.val (.slice p a.length c), .val (.slice p2 b.length c2)] 26 [.tmp 4] Tryd.func21 rfl rfl rfl (by simp) rfl rfl ?_
  refine W.pure (ds := []) rfl fun K1 hK1 => ?_
  simp only [sx, ty, Bool.false_eq_true, Int.reduceEq, Int.reduceLT, Nat.reduceAdd, Nat.reduceSub, Nat.reduceMul, Nat.reduceLT, Nat.reduceLeDiff, Nat.reduceEqDiff, List.reduceReplicate, reduceIte, beq_self_eq_true, bne_self_eq_false, Int.reduceBEq, Int.reduceBNe, Bool.or_false, Bool.false_or, Bool.not_false, Bool.not_true]; with_reducible refine hK1 _ ?_; clear hK1
  refine W.seqK fun K2 hK2 => ?_
  refine W.pure (ds := []) rfl fun K3 hK3 => ?_
  simp only [sx, ty, Bool.false_eq_true, Int.reduceEq, Int.reduceLT, Nat.reduceAdd, Nat.reduceSub, Nat.reduceMul, Nat.reduceLT, Nat.reduceLeDiff, Nat.reduceEqDiff, List.reduceReplicate, reduceIte, beq_self_eq_true, bne_self_eq_false, Int.reduceBEq, Int.reduceBNe, Bool.or_false, Bool.false_or, Bool.not_false, Bool.not_true]; with_reducible refine hK3 _ ?_; clear hK3
  refine W.cond rfl rfl (fun hc => ?_) (fun hc => ?_)
  · skip
    have h0 : a.length ≠ b.length := by simp at hc; omega
    refine W.pure (ds := []) rfl fun K4 hK4 => ?_
    simp only [sx, ty, Bool.false_eq_true, Int.reduceEq, Int.reduceLT, Nat.reduceAdd, Nat.reduceSub, Nat.reduceMul, Nat.reduceLT, Nat.reduceLeDiff, Nat.reduceEqDiff, List.reduceReplicate, reduceIte, beq_self_eq_true, bne_self_eq_false, Int.reduceBEq, Int.reduceBNe, Bool.or_false, Bool.false_or, Bool.not_false, Bool.not_true]; with_reducible refine hK4 _ ?_; clear hK4
    refine W.ret ⟨by simp, _, rfl, fun ρ w1 hb => ?_⟩
    simp only [den, Value.bool.injEq]
    rw [eq_comm, decide_eq_false_iff_not]
    rintro rfl
    exact h0 rfl
  · skip
    have h0 : a.length = b.length := by simp at hc; omega
    refine W.skip (hK2 _ ?_)
    refine W.seqK fun K5 hK5 => ?_
    refine W.pure (ds := []) rfl fun K6 hK6 => ?_
    simp only [sx, ty, Bool.false_eq_true, Int.reduceEq, Int.reduceLT, Nat.reduceAdd, Nat.reduceSub, Nat.reduceMul, Nat.reduceLT, Nat.reduceLeDiff, Nat.reduceEqDiff, List.reduceReplicate, reduceIte, beq_self_eq_true, bne_self_eq_false, Int.reduceBEq, Int.reduceBNe, Bool.or_false, Bool.false_or, Bool.not_false, Bool.not_true]; with_reducible refine hK6 _ ?_; clear hK6
    refine W.block ?_
    refine W.loopK (X := Nat) [0, 1] (fun x => [(5, .val (.int .i64 x))]) (fun x => x ≤ a.length ∧ ∀ j, j < x → a[j]? = b[j]?) (fun x => a.length - x) 0 ?_ ?_ ?_
    · exact ⟨rfl, by simp [getE, bnd, keepE], ⟨[], by simp⟩, by simp [Own.bnd, bndL, bnd, boxO], by simp⟩
    · skip
      exact ⟨Nat.zero_le _, fun j h => by omega⟩
    · rintro i ⟨hi, hno⟩
      simp only [sx, ty, Bool.false_eq_true, Int.reduceEq, Int.reduceLT, Nat.reduceAdd, Nat.reduceSub, Nat.reduceMul, Nat.reduceLT, Nat.reduceLeDiff, Nat.reduceEqDiff, List.reduceReplicate, reduceIte, sxk, beq_self_eq_true, bne_self_eq_false, Int.reduceBEq, Int.reduceBNe, Bool.or_false, Bool.false_or, Bool.not_false, Bool.not_true]
      refine W.seqK fun K7 hK7 => ?_
      refine W.pure (ds := []) rfl fun K8 hK8 => ?_
      simp only [sx, ty, Bool.false_eq_true, Int.reduceEq, Int.reduceLT, Nat.reduceAdd, Nat.reduceSub, Nat.reduceMul, Nat.reduceLT, Nat.reduceLeDiff, Nat.reduceEqDiff, List.reduceReplicate, reduceIte, beq_self_eq_true, bne_self_eq_false, Int.reduceBEq, Int.reduceBNe, Bool.or_false, Bool.false_or, Bool.not_false, Bool.not_true]; with_reducible refine hK8 _ ?_; clear hK8
      refine W.cond rfl rfl (fun hc => ?_) (fun hc => ?_)
      · skip
        have hlt : i < a.length := by simpa using hc
        have hltb : i < b.length := by omega
        refine W.skip (hK7 _ ?_)
        refine W.seqK fun K9 hK9 => ?_
        refine W.block ?_
        refine W.seqK fun K10 hK10 => ?_
        refine W.regionQ mixed (by kernel_rfl) ?_
        refine WQ.go 2 (ds := []) rfl ?_
        simp only [sx, ty, Bool.false_eq_true, Int.reduceEq, Int.reduceLT, Nat.reduceAdd, Nat.reduceSub, Nat.reduceMul, Nat.reduceLT, Nat.reduceLeDiff, Nat.reduceEqDiff, List.reduceReplicate, reduceIte, sxq, Bool.false_eq_true, beq_self_eq_true, bne_self_eq_false, Int.reduceBEq, Int.reduceBNe, Bool.or_false, Bool.false_or, Bool.not_false, Bool.not_true]
        refine WQ.elem (y := a[i]) hl (by simp [St.put]) (ds := []) rfl rfl rfl (by simp [St.put]) (fun _ => rfl) rfl rfl rfl rfl rfl el24 agg46 sz46 (.inl rfl) (by omega) (getIdx a hlt) fun p ces hces => ?_
        obtain rfl := rPit_open hces
        clear hces
        refine WQ.go 2 (ds := []) rfl ?_
        simp only [sx, ty, Bool.false_eq_true, Int.reduceEq, Int.reduceLT, Nat.reduceAdd, Nat.reduceSub, Nat.reduceMul, Nat.reduceLT, Nat.reduceLeDiff, Nat.reduceEqDiff, List.reduceReplicate, reduceIte, sxq, Bool.false_eq_true, beq_self_eq_true, bne_self_eq_false, Int.reduceBEq, Int.reduceBNe, Bool.or_false, Bool.false_or, Bool.not_false, Bool.not_true]
        refine WQ.elem (y := b[i]) hl2 (by simp [St.put]) (ds := []) rfl rfl rfl (by simp [St.put]) (fun _ => rfl) rfl rfl rfl rfl rfl el24 agg46 sz46 (.inl rfl) (by omega) (getIdx b hltb) fun p ces hces => ?_
        obtain rfl := rPit_open hces
        clear hces
        simp only [sx, ty, Bool.false_eq_true, Int.reduceEq, Int.reduceLT, Nat.reduceAdd, Nat.reduceSub, Nat.reduceMul, Nat.reduceLT, Nat.reduceLeDiff, Nat.reduceEqDiff, List.reduceReplicate, reduceIte, beq_self_eq_true, bne_self_eq_false, Int.reduceBEq, Int.reduceBNe, Bool.or_false, Bool.false_or, Bool.not_false, Bool.not_true]
        refine WQ.aggCmp [a[i].1, a[i].2.1, a[i].2.2] [b[i].1, b[i].2.1, b[i].2.2] (ds := []) rfl rfl rfl rfl ⟨_, rfl, fun _ => rfl⟩ ⟨_, rfl, fun _ => rfl⟩ it46 rfl rfl rfl ?_
        simp only [sx, ty, Bool.false_eq_true, Int.reduceEq, Int.reduceLT, Nat.reduceAdd, Nat.reduceSub, Nat.reduceMul, Nat.reduceLT, Nat.reduceLeDiff, Nat.reduceEqDiff, List.reduceReplicate, reduceIte, beq_self_eq_true, bne_self_eq_false, Int.reduceBEq, Int.reduceBNe, Bool.or_false, Bool.false_or, Bool.not_false, Bool.not_true]
        with_reducible refine WQ.nil ?_
        refine hK10 _ ?_; clear hK10
        refine W.cond rfl rfl (fun hc => ?_) (fun hc => ?_)
        · skip
          rw [pit_eq] at hc
          have hy : a[i] ≠ b[i] := by simpa using hc
          refine W.pure (ds := []) rfl fun K11 hK11 => ?_
          simp only [sx, ty, Bool.false_eq_true, Int.reduceEq, Int.reduceLT, Nat.reduceAdd, Nat.reduceSub, Nat.reduceMul, Nat.reduceLT, Nat.reduceLeDiff, Nat.reduceEqDiff, List.reduceReplicate, reduceIte, beq_self_eq_true, bne_self_eq_false, Int.reduceBEq, Int.reduceBNe, Bool.or_false, Bool.false_or, Bool.not_false, Bool.not_true]; with_reducible refine hK11 _ ?_; clear hK11
          refine W.ret ⟨by simp, _, rfl, fun ρ w1 hb => ?_⟩
          simp only [den, Value.bool.injEq]
          rw [eq_comm, decide_eq_false_iff_not]
          rintro rfl
          exact hy rfl
        · skip
          rw [pit_eq] at hc
          have hy : a[i] = b[i] := by simpa using hc
          refine W.skip (hK9 _ ?_)
          refine W.region ?_
          refine WO.go 3 (ds := []) rfl ?_
          simp only [sx, ty, Bool.false_eq_true, Int.reduceEq, Int.reduceLT, Nat.reduceAdd, Nat.reduceSub, Nat.reduceMul, Nat.reduceLT, Nat.reduceLeDiff, Nat.reduceEqDiff, List.reduceReplicate, reduceIte, beq_self_eq_true, bne_self_eq_false, Int.reduceBEq, Int.reduceBNe, Bool.or_false, Bool.false_or, Bool.not_false, Bool.not_true]
          with_reducible refine WO.nil ?_
          refine ⟨i + 1, ?_, by first | omega | (simp; omega), rfl, by simp [getE, bnd, keepE, wrap_succ (show i + 1 ≤ 9223372036854775807 by omega)], ⟨_, rfl⟩, by simp [Own.bnd, bndL, bnd, boxO], by simp⟩
          refine ⟨hlt, fun j h => ?_⟩
          rcases Nat.lt_succ_iff_lt_or_eq.1 h with h | rfl
          · exact hno j h
          · rw [getIdx a hlt, getIdx b hltb, hy]
      · skip
        refine W.exit (hK5 _ ?_)
        refine W.pure (ds := []) rfl fun K12 hK12 => ?_
        simp only [sx, ty, Bool.false_eq_true, Int.reduceEq, Int.reduceLT, Nat.reduceAdd, Nat.reduceSub, Nat.reduceMul, Nat.reduceLT, Nat.reduceLeDiff, Nat.reduceEqDiff, List.reduceReplicate, reduceIte, beq_self_eq_true, bne_self_eq_false, Int.reduceBEq, Int.reduceBNe, Bool.or_false, Bool.false_or, Bool.not_false, Bool.not_true]; with_reducible refine hK12 _ ?_; clear hK12
        refine W.ret ⟨by simp, _, rfl, fun ρ w1 hb => ?_⟩
        have hge : a.length ≤ i := by simpa using hc
        simp only [den, Value.bool.injEq]
        rw [eq_comm, decide_eq_true_eq]
        apply List.ext_getElem?
        intro q
        rcases Nat.lt_or_ge q i with hq | hq
        · exact hno q hq
        · rw [List.getElem?_eq_none (by omega), List.getElem?_eq_none (by omega)]
end Go.Proofs.YtpkbghnjfjnoiaaDoor
