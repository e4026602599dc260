/-
  Keys: what is written is read, intervals added, scales: walks.
-/
import Derived.Test.YtpkbghnjfjnoiaaDoorPlainC
set_option linter.unusedVariables false
set_option linter.unusedSimpArgs false
set_option maxHeartbeats 1000000
namespace Go.Proofs.YtpkbghnjfjnoiaaDoor
open Go Go.SX Go.RowKit

theorem ints_cells {S : Nat → Prop} {w : World} : ∀ {xs : List Int} {olds : List Value}, olds.length = xs.length → (∀ i y, xs[i]? = some y → rInt.rd S w ((olds.drop (i * rInt.sz)).take rInt.sz) y) → olds = xs.map (.int .i64)
  | [], olds, h, _ => List.eq_nil_of_length_eq_zero h
  | x :: xs, [], h, _ => by simp at h
  | x :: xs, o :: olds, h, hr => by
    have h0 := hr 0 x rfl
    have h0' : [o] = [Value.int .i64 x] := h0
    simp only [List.cons.injEq, and_true] at h0'
    rw [List.map_cons, h0', ints_cells (xs := xs) (olds := olds) (w := w) (S := S) (by simpa using h) fun i y hy => by
      have := hr (i + 1) y (by simpa using hy)
      rwa [show (i + 1) * rInt.sz = i * rInt.sz + 1 from by show (i + 1) * 1 = i * 1 + 1; omega, List.drop_succ_cons] at this]
theorem rem16 {i : Int} {n : Nat} (h : 0 ≤ i ∧ i ≤ 65535) (hn : 0 < n) : ∃ m : Nat, (IntKind.i64.wrap i).tmod (n : Int) = (m : Int) ∧ m < n := by
  rw [wrap_id (by omega) (by omega)]
  refine ⟨(i.tmod n).toNat, ?_, ?_⟩
  · have := Int.tmod_nonneg (n : Int) h.1; omega
  · have := Int.tmod_nonneg (n : Int) h.1; have := Int.tmod_lt_of_pos i (show (0 : Int) < n by omega); omega
theorem rem8 {i d : Int} (h : 0 ≤ i ∧ i ≤ 255) (hd : 0 < d) : ∃ m : Int, (IntKind.i64.wrap i).tmod d = m ∧ 0 ≤ m ∧ m ≤ d - 1 := by
  rw [wrap_id (by omega) (by omega)]
  have := Int.tmod_nonneg d h.1
  have := Int.tmod_lt_of_pos i hd
  exact ⟨_, rfl, by omega, by omega⟩
theorem u8_range {x : Int} (h : (Lit.int .u8 x).wf = true) : 0 ≤ x ∧ x ≤ 255 := by
  simp [Lit.wf, IntKind.min, IntKind.max, IntKind.signed, IntKind.bits] at h; omega
theorem u16_range {x : Int} (h : (Lit.int .u16 x).wf = true) : 0 ≤ x ∧ x ≤ 65535 := by
  simp [Lit.wf, IntKind.min, IntKind.max, IntKind.signed, IntKind.bits] at h; omega
def usableK (k : Int) (l : List Pit) : Bool := isKey k && (decide (l.length ≤ 60) && l.all validP)
/-- function 24 -/
theorem usable_spec {S : Nat → Prop} {w : World} {v : Value} {l : List Pit} (hl : rPits.rd S w [v] l) (k : Int) : Gives Tryd.prog 24 #[.int .i64 k, v] w fun r _ => r = .bool (usableK k l) := by
  obtain ⟨p, c, rfl, hc1, hc2⟩ := Rp.slice_val hl
  have hl : (Rp.slice rPit).rd (fun _ => True) w _ l := Rp.any hl
  refine gives_of [.val (.int .i64 k), .val (.slice p l.length c)] 25 [.tmp 4] Tryd.func24 rfl rfl rfl (by simp) rfl rfl ?_
  refine W.pure (ds := []) rfl fun K1 hK1 => ?_
  simp only [sx, ty, Bool.false_eq_true, Int.reduceEq, Int.reduceLT, Nat.reduceAdd, Nat.reduceSub, Nat.reduceMul, Nat.reduceLT, Nat.reduceLeDiff, Nat.reduceEqDiff, List.reduceReplicate, reduceIte, beq_self_eq_true, bne_self_eq_false, Int.reduceBEq, Int.reduceBNe, Bool.or_false, Bool.false_or, Bool.not_false, Bool.not_true]; with_reducible refine hK1 _ ?_; clear hK1
  refine W.seqK fun K2 hK2 => ?_
  refine W.join 14 (.val (.bool (!(isKey k) || decide ((60 : Int) < (l.length : Int))))) [1] (W.region ?_) ?_
  · skip
    refine WO.go 1 (ds := [some 7, some 8, some 9, some 10, some 11, some 12, some 13, some 14]) rfl ?_
    simp only [sx, ty, Bool.false_eq_true, Int.reduceEq, Int.reduceLT, Nat.reduceAdd, Nat.reduceSub, Nat.reduceMul, Nat.reduceLT, Nat.reduceLeDiff, Nat.reduceEqDiff, List.reduceReplicate, reduceIte, beq_self_eq_true, bne_self_eq_false, Int.reduceBEq, Int.reduceBNe, Bool.or_false, Bool.false_or, Bool.not_false, Bool.not_true]
    refine WO.call (.bool (isKey k)) (ds := [some 7, some 8, some 9, some 10, some 11, some 12, some 13, some 14]) rfl rfl rfl rfl co22 (fun ρ w1 hb => rKey_spec w1 k) ?_
    refine WO.go 2 (ds := [some 7, some 8, some 9, some 10, some 11, some 12, some 13, some 14]) rfl ?_
    simp only [sx, ty, Bool.false_eq_true, Int.reduceEq, Int.reduceLT, Nat.reduceAdd, Nat.reduceSub, Nat.reduceMul, Nat.reduceLT, Nat.reduceLeDiff, Nat.reduceEqDiff, List.reduceReplicate, reduceIte, beq_self_eq_true, bne_self_eq_false, Int.reduceBEq, Int.reduceBNe, Bool.or_false, Bool.false_or, Bool.not_false, Bool.not_true]
    refine WO.cases 10 _ rfl (fun hg10 => ?_) (fun hg10 => ?_)
    · skip
      refine WO.go 4 (ds := [some 7, some 8, some 9, some 10, some 11, some 12, some 13, some 14]) rfl ?_
      simp only [sx, ty, Bool.false_eq_true, Int.reduceEq, Int.reduceLT, Nat.reduceAdd, Nat.reduceSub, Nat.reduceMul, Nat.reduceLT, Nat.reduceLeDiff, Nat.reduceEqDiff, List.reduceReplicate, reduceIte, beq_self_eq_true, bne_self_eq_false, Int.reduceBEq, Int.reduceBNe, Bool.or_false, Bool.false_or, Bool.not_false, Bool.not_true]
      with_reducible refine WO.nil ?_
      refine ⟨rfl, ?_, ⟨_, rfl⟩, by simp [Own.bnd, bndL, bnd, boxO], by simp⟩
      try rw [hg10]
      simp [getE, bnd, keepE]
    · skip
      refine WO.go 4 (ds := [some 7, some 8, some 9, some 10, some 11, some 12, some 13, some 14]) rfl ?_
      simp only [sx, ty, Bool.false_eq_true, Int.reduceEq, Int.reduceLT, Nat.reduceAdd, Nat.reduceSub, Nat.reduceMul, Nat.reduceLT, Nat.reduceLeDiff, Nat.reduceEqDiff, List.reduceReplicate, reduceIte, beq_self_eq_true, bne_self_eq_false, Int.reduceBEq, Int.reduceBNe, Bool.or_false, Bool.false_or, Bool.not_false, Bool.not_true]
      with_reducible refine WO.nil ?_
      refine ⟨rfl, ?_, ⟨_, rfl⟩, by simp [Own.bnd, bndL, bnd, boxO], by simp⟩
      try rw [hg10]
      simp [getE, bnd, keepE]
  · simp only [sx, ty, Bool.false_eq_true, Int.reduceEq, Int.reduceLT, Nat.reduceAdd, Nat.reduceSub, Nat.reduceMul, Nat.reduceLT, Nat.reduceLeDiff, Nat.reduceEqDiff, List.reduceReplicate, reduceIte, sxk, beq_self_eq_true, bne_self_eq_false, Int.reduceBEq, Int.reduceBNe, Bool.or_false, Bool.false_or, Bool.not_false, Bool.not_true]
    refine W.cond rfl rfl (fun hc => ?_) (fun hc => ?_)
    · skip
      have hno : usableK k l = false := by unfold usableK; cases hk : isKey k <;> simp [hk] at hc ⊢; intro h; omega
      refine W.pure (ds := []) rfl fun K4 hK4 => ?_
      simp only [sx, ty, Bool.false_eq_true, Int.reduceEq, Int.reduceLT, Nat.reduceAdd, Nat.reduceSub, Nat.reduceMul, Nat.reduceLT, Nat.reduceLeDiff, Nat.reduceEqDiff, List.reduceReplicate, reduceIte, beq_self_eq_true, bne_self_eq_false, Int.reduceBEq, Int.reduceBNe, Bool.or_false, Bool.false_or, Bool.not_false, Bool.not_true]; with_reducible refine hK4 _ ?_; clear hK4
      refine W.ret ⟨by simp, _, rfl, fun ρ w1 hb => ?_⟩
      simp only [den, hno]
    · skip
      have hk : isKey k = true := by cases hk : isKey k <;> simp [hk] at hc ⊢
      have hl6 : l.length ≤ 60 := by simp [hk] at hc; omega
      refine W.skip (hK2 _ ?_)
      refine W.seqK fun K5 hK5 => ?_
      refine W.pure (ds := []) rfl fun K6 hK6 => ?_
      simp only [sx, ty, Bool.false_eq_true, Int.reduceEq, Int.reduceLT, Nat.reduceAdd, Nat.reduceSub, Nat.reduceMul, Nat.reduceLT, Nat.reduceLeDiff, Nat.reduceEqDiff, List.reduceReplicate, reduceIte, beq_self_eq_true, bne_self_eq_false, Int.reduceBEq, Int.reduceBNe, Bool.or_false, Bool.false_or, Bool.not_false, Bool.not_true]; with_reducible refine hK6 _ ?_; clear hK6
      refine W.block ?_
      refine W.loopK (X := Nat) [15, 16] (fun x => [(17, .val (.int .i64 x))]) (fun x => x ≤ l.length ∧ ∀ j, j < x → ∀ q, l[j]? = some q → validP q = true) (fun x => l.length - x) 0 ?_ ?_ ?_
      · exact ⟨rfl, by simp [getE, bnd, keepE], ⟨[], by simp⟩, by simp [Own.bnd, bndL, bnd, boxO], by simp⟩
      · skip
        exact ⟨Nat.zero_le _, fun j h => by omega⟩
      · rintro i ⟨hi, hno⟩
        simp only [sx, ty, Bool.false_eq_true, Int.reduceEq, Int.reduceLT, Nat.reduceAdd, Nat.reduceSub, Nat.reduceMul, Nat.reduceLT, Nat.reduceLeDiff, Nat.reduceEqDiff, List.reduceReplicate, reduceIte, sxk, beq_self_eq_true, bne_self_eq_false, Int.reduceBEq, Int.reduceBNe, Bool.or_false, Bool.false_or, Bool.not_false, Bool.not_true]
        refine W.pure (ds := []) rfl fun K7 hK7 => ?_
        simp only [sx, ty, Bool.false_eq_true, Int.reduceEq, Int.reduceLT, Nat.reduceAdd, Nat.reduceSub, Nat.reduceMul, Nat.reduceLT, Nat.reduceLeDiff, Nat.reduceEqDiff, List.reduceReplicate, reduceIte, beq_self_eq_true, bne_self_eq_false, Int.reduceBEq, Int.reduceBNe, Bool.or_false, Bool.false_or, Bool.not_false, Bool.not_true]; with_reducible refine hK7 _ ?_; clear hK7
        refine W.seqK fun K8 hK8 => ?_
        refine W.cond rfl rfl (fun hc => ?_) (fun hc => ?_)
        · skip
          have hlt : i < l.length := by simpa using hc
          refine W.skip (hK8 _ ?_)
          refine W.seqK fun K9 hK9 => ?_
          refine W.block ?_
          refine W.seqK fun K10 hK10 => W.region ?_
          refine WO.elem (y := l[i]) hl (by simp [St.put]) (ds := []) rfl rfl rfl (by simp [St.put]) (fun _ => rfl) rfl rfl rfl rfl rfl el24 agg46 sz46 (.inl rfl) (by omega) (getIdx l hlt) fun p ces hces => ?_
          obtain rfl := rPit_open hces
          clear hces
          refine WO.go 2 (ds := []) rfl ?_
          simp only [sx, ty, Bool.false_eq_true, Int.reduceEq, Int.reduceLT, Nat.reduceAdd, Nat.reduceSub, Nat.reduceMul, Nat.reduceLT, Nat.reduceLeDiff, Nat.reduceEqDiff, List.reduceReplicate, reduceIte, beq_self_eq_true, bne_self_eq_false, Int.reduceBEq, Int.reduceBNe, Bool.or_false, Bool.false_or, Bool.not_false, Bool.not_true]
          with_reducible refine WO.nil ?_
          refine hK10 _ ?_; clear hK10
          refine W.seqK fun K11 hK11 => W.region ?_
          refine WO.go 1 (ds := []) rfl ?_
          simp only [sx, ty, Bool.false_eq_true, Int.reduceEq, Int.reduceLT, Nat.reduceAdd, Nat.reduceSub, Nat.reduceMul, Nat.reduceLT, Nat.reduceLeDiff, Nat.reduceEqDiff, List.reduceReplicate, reduceIte, beq_self_eq_true, bne_self_eq_false, Int.reduceBEq, Int.reduceBNe, Bool.or_false, Bool.false_or, Bool.not_false, Bool.not_true]
          refine WO.call (.bool (validP l[i])) (ds := []) rfl rfl rfl rfl co36 (fun ρ w1 hb => valid_spec w1 l[i]) ?_
          refine WO.go 1 (ds := []) rfl ?_
          simp only [sx, ty, Bool.false_eq_true, Int.reduceEq, Int.reduceLT, Nat.reduceAdd, Nat.reduceSub, Nat.reduceMul, Nat.reduceLT, Nat.reduceLeDiff, Nat.reduceEqDiff, List.reduceReplicate, reduceIte, beq_self_eq_true, bne_self_eq_false, Int.reduceBEq, Int.reduceBNe, Bool.or_false, Bool.false_or, Bool.not_false, Bool.not_true]
          with_reducible refine WO.nil ?_
          refine hK11 _ ?_; clear hK11
          refine W.cond rfl rfl (fun hc => ?_) (fun hc => ?_)
          · skip
            have hbad : validP l[i] = false := by simpa using hc
            refine W.pure (ds := []) rfl fun K12 hK12 => ?_
            simp only [sx, ty, Bool.false_eq_true, Int.reduceEq, Int.reduceLT, Nat.reduceAdd, Nat.reduceSub, Nat.reduceMul, Nat.reduceLT, Nat.reduceLeDiff, Nat.reduceEqDiff, List.reduceReplicate, reduceIte, beq_self_eq_true, bne_self_eq_false, Int.reduceBEq, Int.reduceBNe, Bool.or_false, Bool.false_or, Bool.not_false, Bool.not_true]; with_reducible refine hK12 _ ?_; clear hK12
            refine W.ret ⟨by simp, _, rfl, fun ρ w1 hb => ?_⟩
            simp only [den, usableK, all_false (getIdx l hlt) hbad, Bool.and_false]
          · skip
            have hok : validP l[i] = true := by simpa using hc
            refine W.skip (hK9 _ ?_)
            refine W.region ?_
            refine WO.go 2 (ds := []) rfl ?_
            simp only [sx, ty, Bool.false_eq_true, Int.reduceEq, Int.reduceLT, Nat.reduceAdd, Nat.reduceSub, Nat.reduceMul, Nat.reduceLT, Nat.reduceLeDiff, Nat.reduceEqDiff, List.reduceReplicate, reduceIte, beq_self_eq_true, bne_self_eq_false, Int.reduceBEq, Int.reduceBNe, Bool.or_false, Bool.false_or, Bool.not_false, Bool.not_true]
            with_reducible refine WO.nil ?_
            refine ⟨i + 1, ?_, by first | omega | (simp; omega), rfl, by simp [getE, bnd, keepE, wrap_succ (show i + 1 ≤ 9223372036854775807 by omega)], ⟨_, rfl⟩, by simp [Own.bnd, bndL, bnd, boxO], by simp⟩
            refine ⟨hlt, fun j hj y hy => ?_⟩
            rcases Nat.lt_succ_iff_lt_or_eq.1 hj with h | rfl
            · exact hno j h y hy
            · rw [getIdx l hlt] at hy; obtain rfl := Option.some.inj hy; exact hok
        · skip
          obtain rfl : i = l.length := Nat.le_antisymm hi (by simpa using hc)
          have hv : l.all validP = true := all_idx (Nat.le_refl _) hno
          refine W.exit (hK5 _ ?_)
          refine W.pure (ds := []) rfl fun K13 hK13 => ?_
          simp only [sx, ty, Bool.false_eq_true, Int.reduceEq, Int.reduceLT, Nat.reduceAdd, Nat.reduceSub, Nat.reduceMul, Nat.reduceLT, Nat.reduceLeDiff, Nat.reduceEqDiff, List.reduceReplicate, reduceIte, beq_self_eq_true, bne_self_eq_false, Int.reduceBEq, Int.reduceBNe, Bool.or_false, Bool.false_or, Bool.not_false, Bool.not_true]; with_reducible refine hK13 _ ?_; clear hK13
          refine W.ret ⟨by simp, _, rfl, fun ρ w1 hb => ?_⟩
          simp only [den, usableK, hk, hv, decide_eq_true hl6, Bool.and_self]
/-- function 6 -/
theorem law4 {S : Nat → Prop} {w : World} (hG : GS w) (k : Int) {v : Value} {l : List Pit} (hl : rPits.rd S w [v] l) (x : Int) (hx : 0 ≤ x ∧ x ≤ 65535) : Gives Tryd.prog 6 #[.int .i64 k, v, .int .u16 x] w fun r _ => r = .bool true := by
  obtain ⟨p, c, rfl, hc1, hc2⟩ := Rp.slice_val hl
  have hl : (Rp.slice rPit).rd (fun _ => True) w _ l := Rp.any hl
  have hlen := sg_length k l
  refine gives_of [.val (.int .i64 k), .val (.slice p l.length c), .val (.int .u16 x)] 114 [.tmp 6] Tryd.func6 rfl rfl rfl (by simp) rfl rfl ?_
  refine W.pure (ds := []) rfl fun K1 hK1 => ?_
  simp only [sx, ty, Bool.false_eq_true, Int.reduceEq, Int.reduceLT, Nat.reduceAdd, Nat.reduceSub, Nat.reduceMul, Nat.reduceLT, Nat.reduceLeDiff, Nat.reduceEqDiff, List.reduceReplicate, reduceIte, beq_self_eq_true, bne_self_eq_false, Int.reduceBEq, Int.reduceBNe, Bool.or_false, Bool.false_or, Bool.not_false, Bool.not_true]; with_reducible refine hK1 _ ?_; clear hK1
  refine W.seqK fun K2 hK2 => W.region ?_
  refine WO.call (.bool true) (ds := []) rfl rfl rfl rfl co9 (fun ρ w1 hb => head_spec (hG.now (hb.first (by simp)))) ?_
  refine WO.go 1 (ds := []) rfl ?_
  simp only [sx, ty, Bool.false_eq_true, Int.reduceEq, Int.reduceLT, Nat.reduceAdd, Nat.reduceSub, Nat.reduceMul, Nat.reduceLT, Nat.reduceLeDiff, Nat.reduceEqDiff, List.reduceReplicate, reduceIte, beq_self_eq_true, bne_self_eq_false, Int.reduceBEq, Int.reduceBNe, Bool.or_false, Bool.false_or, Bool.not_false, Bool.not_true]
  with_reducible refine WO.nil ?_
  refine hK2 _ ?_; clear hK2
  refine W.seqK fun K3 hK3 => ?_
  refine W.seqK fun K4 hK4 => W.region ?_
  refine WO.go 2 (ds := []) rfl ?_
  simp only [sx, ty, Bool.false_eq_true, Int.reduceEq, Int.reduceLT, Nat.reduceAdd, Nat.reduceSub, Nat.reduceMul, Nat.reduceLT, Nat.reduceLeDiff, Nat.reduceEqDiff, List.reduceReplicate, reduceIte, beq_self_eq_true, bne_self_eq_false, Int.reduceBEq, Int.reduceBNe, Bool.or_false, Bool.false_or, Bool.not_false, Bool.not_true]
  refine WO.call (.bool (usableK k l)) (ds := []) rfl rfl rfl rfl co24 (fun ρ w1 hb => usable_spec (Rp.now hl (hb.first (by simp))) k) ?_
  refine WO.go 1 (ds := []) rfl ?_
  simp only [sx, ty, Bool.false_eq_true, Int.reduceEq, Int.reduceLT, Nat.reduceAdd, Nat.reduceSub, Nat.reduceMul, Nat.reduceLT, Nat.reduceLeDiff, Nat.reduceEqDiff, List.reduceReplicate, reduceIte, beq_self_eq_true, bne_self_eq_false, Int.reduceBEq, Int.reduceBNe, Bool.or_false, Bool.false_or, Bool.not_false, Bool.not_true]
  with_reducible refine WO.nil ?_
  refine hK4 _ ?_; clear hK4
  refine W.cond rfl rfl (fun hc => ?_) (fun hc => ?_)
  · skip
    refine W.pure (ds := []) rfl fun K5 hK5 => ?_
    simp only [sx, ty, Bool.false_eq_true, Int.reduceEq, Int.reduceLT, Nat.reduceAdd, Nat.reduceSub, Nat.reduceMul, Nat.reduceLT, Nat.reduceLeDiff, Nat.reduceEqDiff, List.reduceReplicate, reduceIte, beq_self_eq_true, bne_self_eq_false, Int.reduceBEq, Int.reduceBNe, Bool.or_false, Bool.false_or, Bool.not_false, Bool.not_true]; with_reducible refine hK5 _ ?_; clear hK5
    refine W.ret ⟨by simp, _, rfl, fun ρ w1 hb => ?_⟩
    rfl
  · skip
    have hU : usableK k l = true := by simpa using hc
    simp only [usableK, Bool.and_eq_true, decide_eq_true_eq] at hU
    obtain ⟨hk, hl60, hv⟩ := hU
    have hsg : signsF k l = ((sgRun k l).2, 0) := signsF_good (by omega) (by rw [hk, hv]; rfl)
    refine W.skip (hK3 _ ?_)
    refine W.seqK fun K6 hK6 => W.region ?_
    refine WO.go 2 (ds := []) rfl ?_
    simp only [sx, ty, Bool.false_eq_true, Int.reduceEq, Int.reduceLT, Nat.reduceAdd, Nat.reduceSub, Nat.reduceMul, Nat.reduceLT, Nat.reduceLeDiff, Nat.reduceEqDiff, List.reduceReplicate, reduceIte, beq_self_eq_true, bne_self_eq_false, Int.reduceBEq, Int.reduceBNe, Bool.or_false, Bool.false_or, Bool.not_false, Bool.not_true]
    refine WO.callM (fun x : Option Addr × Nat => .tuple #[.slice x.1 (sgRun k l).2.length x.2, .int .i64 0]) (fun lo x s9 => rInts.rd (fun b => lo ≤ b) s9 [.slice x.1 (sgRun k l).2.length x.2] (sgRun k l).2) (ds := []) rfl rfl rfl rfl co16 (fun ρ w1 hb => signs_call (hG.now (hb.first (by simp))) hsg (Rp.now hl (hb.first (by simp)))) fun x lo hr1s hr1 => ?_
    obtain ⟨hr1p, hr1c⟩ := x
    simp only at hr1
    simp only [hlen] at hr1 ⊢
    refine WO.go 5 (ds := []) rfl ?_
    simp only [sx, ty, Bool.false_eq_true, Int.reduceEq, Int.reduceLT, Nat.reduceAdd, Nat.reduceSub, Nat.reduceMul, Nat.reduceLT, Nat.reduceLeDiff, Nat.reduceEqDiff, List.reduceReplicate, reduceIte, beq_self_eq_true, bne_self_eq_false, Int.reduceBEq, Int.reduceBNe, Bool.or_false, Bool.false_or, Bool.not_false, Bool.not_true]
    with_reducible refine WO.nil ?_
    refine hK6 _ ?_; clear hK6
    refine W.seqK fun K7 hK7 => ?_
    refine W.seqK fun K8 hK8 => W.region ?_
    refine WO.go 9 (ds := [some 28, some 29, some 30, some 31, some 32, some 33, some 34, some 35, some 36]) rfl ?_
    simp only [sx, ty, Bool.false_eq_true, Int.reduceEq, Int.reduceLT, Nat.reduceAdd, Nat.reduceSub, Nat.reduceMul, Nat.reduceLT, Nat.reduceLeDiff, Nat.reduceEqDiff, List.reduceReplicate, reduceIte, beq_self_eq_true, bne_self_eq_false, Int.reduceBEq, Int.reduceBNe, Bool.or_false, Bool.false_or, Bool.not_false, Bool.not_true]
    with_reducible refine WO.nil ?_
    refine hK8 _ ?_; clear hK8
    refine W.cond rfl rfl (fun hc => ?_) (fun hc => ?_)
    · skip
      simp at hc
    · skip
      refine W.skip (hK7 _ ?_)
      refine W.seqK fun K9 hK9 => W.region ?_
      refine WO.go 3 (ds := []) rfl ?_
      simp only [sx, ty, Bool.false_eq_true, Int.reduceEq, Int.reduceLT, Nat.reduceAdd, Nat.reduceSub, Nat.reduceMul, Nat.reduceLT, Nat.reduceLeDiff, Nat.reduceEqDiff, List.reduceReplicate, reduceIte, beq_self_eq_true, bne_self_eq_false, Int.reduceBEq, Int.reduceBNe, Bool.or_false, Bool.false_or, Bool.not_false, Bool.not_true]
      refine WO.callM (fun x : Option Addr × Nat => .tuple #[.slice x.1 l.length x.2, .int .i64 0]) (fun lo x s9 => rPits.rd (fun b => lo ≤ b) s9 [.slice x.1 l.length x.2] l) (ds := []) rfl rfl rfl rfl co19 (fun ρ w1 hb => read_call (hG.now (hb.first (by simp))) (reads_back hk hl60 hv) (Rp.now hl (hb.first (by simp))) (Rp.keep hr1 (hb.at (by simp)))) fun x lo hr2s hr2 => ?_
      obtain ⟨hr2p, hr2c⟩ := x
      simp only at hr2
      refine WO.go 5 (ds := []) rfl ?_
      simp only [sx, ty, Bool.false_eq_true, Int.reduceEq, Int.reduceLT, Nat.reduceAdd, Nat.reduceSub, Nat.reduceMul, Nat.reduceLT, Nat.reduceLeDiff, Nat.reduceEqDiff, List.reduceReplicate, reduceIte, beq_self_eq_true, bne_self_eq_false, Int.reduceBEq, Int.reduceBNe, Bool.or_false, Bool.false_or, Bool.not_false, Bool.not_true]
      with_reducible refine WO.nil ?_
      refine hK9 _ ?_; clear hK9
      refine W.seqK fun K10 hK10 => ?_
      refine W.seqK fun K11 hK11 => W.region ?_
      refine WO.go 5 (ds := [some 44, some 45, some 46, some 47, some 48, some 49, some 50, some 51, some 52, some 53, some 54, some 55, some 56]) rfl ?_
      simp only [sx, ty, Bool.false_eq_true, Int.reduceEq, Int.reduceLT, Nat.reduceAdd, Nat.reduceSub, Nat.reduceMul, Nat.reduceLT, Nat.reduceLeDiff, Nat.reduceEqDiff, List.reduceReplicate, reduceIte, beq_self_eq_true, bne_self_eq_false, Int.reduceBEq, Int.reduceBNe, Bool.or_false, Bool.false_or, Bool.not_false, Bool.not_true]
      refine WO.call (.bool true) (ds := [some 44, some 45, some 46, some 47, some 48, some 49, some 50, some 51, some 52, some 53, some 54, some 55, some 56]) rfl rfl rfl rfl co21 (fun ρ w1 hb => same_call (Rp.now hl (hb.first (by simp))) (Rp.keep hr2 (hb.at (by simp)))) ?_
      refine WO.go 7 (ds := [some 44, some 45, some 46, some 47, some 48, some 49, some 50, some 51, some 52, some 53, some 54, some 55, some 56]) rfl ?_
      simp only [sx, ty, Bool.false_eq_true, Int.reduceEq, Int.reduceLT, Nat.reduceAdd, Nat.reduceSub, Nat.reduceMul, Nat.reduceLT, Nat.reduceLeDiff, Nat.reduceEqDiff, List.reduceReplicate, reduceIte, beq_self_eq_true, bne_self_eq_false, Int.reduceBEq, Int.reduceBNe, Bool.or_false, Bool.false_or, Bool.not_false, Bool.not_true]
      with_reducible refine WO.nil ?_
      refine hK11 _ ?_; clear hK11
      refine W.cond rfl rfl (fun hc => ?_) (fun hc => ?_)
      · skip
        refine W.seqK fun K12 hK12 => W.region ?_
        refine WO.go 8 (ds := [some 57, some 58, some 59, some 60, some 61, some 62, some 63, some 64, some 65, some 66, some 6]) rfl ?_
        simp only [sx, ty, Bool.false_eq_true, Int.reduceEq, Int.reduceLT, Nat.reduceAdd, Nat.reduceSub, Nat.reduceMul, Nat.reduceLT, Nat.reduceLeDiff, Nat.reduceEqDiff, List.reduceReplicate, reduceIte, beq_self_eq_true, bne_self_eq_false, Int.reduceBEq, Int.reduceBNe, Bool.or_false, Bool.false_or, Bool.not_false, Bool.not_true]
        refine WO.call (.bool true) (ds := [some 57, some 58, some 59, some 60, some 61, some 62, some 63, some 64, some 65, some 66, some 6]) rfl rfl rfl rfl co21 (fun ρ w1 hb => same_call (Rp.now hl (hb.first (by simp))) (Rp.keep hr2 (hb.at (by simp)))) ?_
        refine WO.go 2 (ds := [some 57, some 58, some 59, some 60, some 61, some 62, some 63, some 64, some 65, some 66, some 6]) rfl ?_
        simp only [sx, ty, Bool.false_eq_true, Int.reduceEq, Int.reduceLT, Nat.reduceAdd, Nat.reduceSub, Nat.reduceMul, Nat.reduceLT, Nat.reduceLeDiff, Nat.reduceEqDiff, List.reduceReplicate, reduceIte, beq_self_eq_true, bne_self_eq_false, Int.reduceBEq, Int.reduceBNe, Bool.or_false, Bool.false_or, Bool.not_false, Bool.not_true]
        with_reducible refine WO.nil ?_
        refine hK12 _ ?_; clear hK12
        refine W.ret ⟨by simp, _, rfl, fun ρ w1 hb => ?_⟩
        rfl
      · skip
        have hne : 0 < l.length := Nat.pos_of_ne_zero fun h => by rw [h] at hc; simp at hc
        obtain ⟨m, hm, hml⟩ := rem16 hx hne
        have hdn : ¬ ((l.length : Int) = 0) := by omega
        obtain h | ⟨a1, olds, ha1, hnl, hSD, hzD, holD, hatD, hrdD⟩ := Rp.slice_cells hr1
        · exact absurd (congrArg List.length h) (by rw [hlen]; simp only [List.length_nil]; omega)
        subst ha1
        obtain rfl := ints_cells (by rw [holD, hlen]; exact Nat.mul_one _) hrdD
        obtain ⟨o, ho1, ho2, y, hy1, hy2⟩ := reads_less hk hl60 hv hml
        refine W.skip (hK10 _ ?_)
        refine W.seqK fun K13 hK13 => W.region ?_
        refine WO.go 4 (ds := []) rfl ?_
        simp only [sx, ty, Bool.false_eq_true, Int.reduceEq, Int.reduceLT, Nat.reduceAdd, Nat.reduceSub, Nat.reduceMul, Nat.reduceLT, Nat.reduceLeDiff, Nat.reduceEqDiff, List.reduceReplicate, reduceIte, beq_self_eq_true, bne_self_eq_false, Int.reduceBEq, Int.reduceBNe, Bool.or_false, Bool.false_or, Bool.not_false, Bool.not_true]
        refine WO.go 1 (ds := []) rfl ?_
        simp only [sx, ty, Bool.false_eq_true, Int.reduceEq, Int.reduceLT, Nat.reduceAdd, Nat.reduceSub, Nat.reduceMul, Nat.reduceLT, Nat.reduceLeDiff, Nat.reduceEqDiff, List.reduceReplicate, reduceIte, beq_self_eq_true, bne_self_eq_false, Int.reduceBEq, Int.reduceBNe, Bool.or_false, Bool.false_or, Bool.not_false, Bool.not_true, if_neg hdn, hm]
        refine WO.go 1 (ds := []) rfl ?_
        simp only [sx, ty, Bool.false_eq_true, Int.reduceEq, Int.reduceLT, Nat.reduceAdd, Nat.reduceSub, Nat.reduceMul, Nat.reduceLT, Nat.reduceLeDiff, Nat.reduceEqDiff, List.reduceReplicate, reduceIte, beq_self_eq_true, bne_self_eq_false, Int.reduceBEq, Int.reduceBNe, Bool.or_false, Bool.false_or, Bool.not_false, Bool.not_true]
        with_reducible refine WO.nil ?_
        refine hK13 _ ?_; clear hK13
        refine W.seqK fun K14 hK14 => W.region ?_
        refine WO.go 2 (ds := []) rfl ?_
        simp only [sx, ty, Bool.false_eq_true, Int.reduceEq, Int.reduceLT, Nat.reduceAdd, Nat.reduceSub, Nat.reduceMul, Nat.reduceLT, Nat.reduceLeDiff, Nat.reduceEqDiff, List.reduceReplicate, reduceIte, beq_self_eq_true, bne_self_eq_false, Int.reduceBEq, Int.reduceBNe, Bool.or_false, Bool.false_or, Bool.not_false, Bool.not_true]
        refine WO.appendFull (n := 0) (m := l.length) [] ((sgRun k l).2.map (.int .i64)) (ds := []) rfl rfl rfl rfl ⟨_, rfl, fun ρ w1 hb => ⟨⟨ρ 0, 0, none⟩, rfl, fun j v hv => by simp at hv⟩⟩ rfl ek25 rfl (by omega) (fun ρ w1 hb => ⟨a1, hr1c, rfl, hatD.now hb (by simp) hSD hzD⟩) (by simp [hlen]) (by rw [maxLen_eq]; omega) (by omega) fun q1 cq1 => ?_
        simp only [Nat.zero_add, List.nil_append]
        refine WO.go 1 (ds := []) rfl ?_
        simp only [sx, ty, Bool.false_eq_true, Int.reduceEq, Int.reduceLT, Nat.reduceAdd, Nat.reduceSub, Nat.reduceMul, Nat.reduceLT, Nat.reduceLeDiff, Nat.reduceEqDiff, List.reduceReplicate, reduceIte, beq_self_eq_true, bne_self_eq_false, Int.reduceBEq, Int.reduceBNe, Bool.or_false, Bool.false_or, Bool.not_false, Bool.not_true]
        with_reducible refine WO.nil ?_
        refine hK14 _ ?_; clear hK14
        refine W.ownAddr (k := 1) rfl (by omega) fun b9 hb9 => ?_
        subst hb9
        refine W.seqK fun K15 hK15 => W.region ?_
        refine WO.go 2 (ds := []) rfl ?_
        simp only [sx, ty, Bool.false_eq_true, Int.reduceEq, Int.reduceLT, Nat.reduceAdd, Nat.reduceSub, Nat.reduceMul, Nat.reduceLT, Nat.reduceLeDiff, Nat.reduceEqDiff, List.reduceReplicate, reduceIte, beq_self_eq_true, bne_self_eq_false, Int.reduceBEq, Int.reduceBNe, Bool.or_false, Bool.false_or, Bool.not_false, Bool.not_true]
        refine WO.index (ds := []) rfl rfl rfl rfl rfl rfl el25 (by omega) (by omega) ?_
        simp only [sx, ty, Bool.false_eq_true, Int.reduceEq, Int.reduceLT, Nat.reduceAdd, Nat.reduceSub, Nat.reduceMul, Nat.reduceLT, Nat.reduceLeDiff, Nat.reduceEqDiff, List.reduceReplicate, reduceIte, beq_self_eq_true, bne_self_eq_false, Int.reduceBEq, Int.reduceBNe, Bool.or_false, Bool.false_or, Bool.not_false, Bool.not_true]
        refine WO.storeOwn (k := 1) (i := m) (ds := []) rfl rfl rfl rfl rfl rfl rfl hml rfl rfl sz3 ?_
        rw [show ((sgRun k l).2.map (Value.int .i64)).set m (.int .i64 0) = ((sgRun k l).2.set m 0).map (.int .i64) by rw [List.map_set]]
        simp only [sx, ty, Bool.false_eq_true, Int.reduceEq, Int.reduceLT, Nat.reduceAdd, Nat.reduceSub, Nat.reduceMul, Nat.reduceLT, Nat.reduceLeDiff, Nat.reduceEqDiff, List.reduceReplicate, reduceIte, beq_self_eq_true, bne_self_eq_false, Int.reduceBEq, Int.reduceBNe, Bool.or_false, Bool.false_or, Bool.not_false, Bool.not_true]
        with_reducible refine WO.nil ?_
        refine hK15 _ ?_; clear hK15
        refine W.seqK fun K16 hK16 => W.region ?_
        refine WO.go 3 (ds := []) rfl ?_
        simp only [sx, ty, Bool.false_eq_true, Int.reduceEq, Int.reduceLT, Nat.reduceAdd, Nat.reduceSub, Nat.reduceMul, Nat.reduceLT, Nat.reduceLeDiff, Nat.reduceEqDiff, List.reduceReplicate, reduceIte, beq_self_eq_true, bne_self_eq_false, Int.reduceBEq, Int.reduceBNe, Bool.or_false, Bool.false_or, Bool.not_false, Bool.not_true]
        refine WO.callM (fun x : Option Addr × Nat => .tuple #[.slice x.1 o.length x.2, .int .i64 0]) (fun lo x s9 => rPits.rd (fun b => lo ≤ b) s9 [.slice x.1 o.length x.2] o) (ds := []) rfl rfl rfl rfl co19 (fun ρ w1 hb => read_call (hG.now (hb.first (by simp))) ho1 (Rp.now hl (hb.first (by simp))) (own_slice (A := rInt) (S := fun _ => True) (k := 1) hb rfl (by simp [hlen]) (fun _ _ => trivial) (ints_read _))) fun x lo hr3s hr3 => ?_
        obtain ⟨hr3p, hr3c⟩ := x
        simp only at hr3
        simp only [ho2] at hr3 ⊢
        refine WO.go 5 (ds := []) rfl ?_
        simp only [sx, ty, Bool.false_eq_true, Int.reduceEq, Int.reduceLT, Nat.reduceAdd, Nat.reduceSub, Nat.reduceMul, Nat.reduceLT, Nat.reduceLeDiff, Nat.reduceEqDiff, List.reduceReplicate, reduceIte, beq_self_eq_true, bne_self_eq_false, Int.reduceBEq, Int.reduceBNe, Bool.or_false, Bool.false_or, Bool.not_false, Bool.not_true]
        with_reducible refine WO.nil ?_
        refine hK16 _ ?_; clear hK16
        refine W.seqK fun K17 hK17 => ?_
        refine W.regionQ mixed (by kernel_rfl) ?_
        refine WQ.go 15 (ds := [some 85, some 86, some 87, some 88, some 89, some 90, some 91, some 92, some 93, some 94, some 95, some 96, some 97, some 98, some 99, some 100, some 101, some 102, some 103, some 104, some 105, some 106, some 107, some 108, some 109, some 110, some 111, some 112, some 113, some 6]) rfl ?_
        simp only [sx, ty, Bool.false_eq_true, Int.reduceEq, Int.reduceLT, Nat.reduceAdd, Nat.reduceSub, Nat.reduceMul, Nat.reduceLT, Nat.reduceLeDiff, Nat.reduceEqDiff, List.reduceReplicate, reduceIte, sxq, Bool.false_eq_true, beq_self_eq_true, bne_self_eq_false, Int.reduceBEq, Int.reduceBNe, Bool.or_false, Bool.false_or, Bool.not_false, Bool.not_true]
        refine WQ.elem (y := y) hr3 (by simp [St.put]) (ds := [some 85, some 86, some 87, some 88, some 89, some 90, some 91, some 92, some 93, some 94, some 95, some 96, some 97, some 98, some 99, some 100, some 101, some 102, some 103, some 104, some 105, some 106, some 107, some 108, some 109, some 110, some 111, some 112, some 113, some 6]) rfl rfl rfl (by simp [St.put]) (fun _ => rfl) rfl rfl rfl rfl rfl el24 agg46 sz46 (.inl rfl) (by omega) (hy1) fun p ces hces => ?_
        obtain rfl := rPit_open hces
        clear hces
        refine WQ.go 2 (ds := [some 85, some 86, some 87, some 88, some 89, some 90, some 91, some 92, some 93, some 94, some 95, some 96, some 97, some 98, some 99, some 100, some 101, some 102, some 103, some 104, some 105, some 106, some 107, some 108, some 109, some 110, some 111, some 112, some 113, some 6]) rfl ?_
        simp only [sx, ty, Bool.false_eq_true, Int.reduceEq, Int.reduceLT, Nat.reduceAdd, Nat.reduceSub, Nat.reduceMul, Nat.reduceLT, Nat.reduceLeDiff, Nat.reduceEqDiff, List.reduceReplicate, reduceIte, sxq, Bool.false_eq_true, beq_self_eq_true, bne_self_eq_false, Int.reduceBEq, Int.reduceBNe, Bool.or_false, Bool.false_or, Bool.not_false, Bool.not_true]
        refine WQ.elem (y := l[m]) hl (by simp [St.put]) (ds := [some 85, some 86, some 87, some 88, some 89, some 90, some 91, some 92, some 93, some 94, some 95, some 96, some 97, some 98, some 99, some 100, some 101, some 102, some 103, some 104, some 105, some 106, some 107, some 108, some 109, some 110, some 111, some 112, some 113, some 6]) rfl rfl rfl (by simp [St.put]) (fun _ => rfl) rfl rfl rfl rfl rfl el24 agg46 sz46 (.inl rfl) (by omega) (getIdx l hml) fun p ces hces => ?_
        obtain rfl := rPit_open hces
        clear hces
        simp only [sx, ty, Bool.false_eq_true, Int.reduceEq, Int.reduceLT, Nat.reduceAdd, Nat.reduceSub, Nat.reduceMul, Nat.reduceLT, Nat.reduceLeDiff, Nat.reduceEqDiff, List.reduceReplicate, reduceIte, beq_self_eq_true, bne_self_eq_false, Int.reduceBEq, Int.reduceBNe, Bool.or_false, Bool.false_or, Bool.not_false, Bool.not_true]
        refine WQ.aggCmp [y.1, y.2.1, y.2.2] [l[m].1, l[m].2.1, l[m].2.2] (ds := [some 85, some 86, some 87, some 88, some 89, some 90, some 91, some 92, some 93, some 94, some 95, some 96, some 97, some 98, some 99, some 100, some 101, some 102, some 103, some 104, some 105, some 106, some 107, some 108, some 109, some 110, some 111, some 112, some 113, some 6]) rfl rfl rfl rfl ⟨_, rfl, fun _ => rfl⟩ ⟨_, rfl, fun _ => rfl⟩ it46 rfl rfl rfl ?_
        refine WQ.go 2 (ds := [some 85, some 86, some 87, some 88, some 89, some 90, some 91, some 92, some 93, some 94, some 95, some 96, some 97, some 98, some 99, some 100, some 101, some 102, some 103, some 104, some 105, some 106, some 107, some 108, some 109, some 110, some 111, some 112, some 113, some 6]) rfl ?_
        simp only [sx, ty, Bool.false_eq_true, Int.reduceEq, Int.reduceLT, Nat.reduceAdd, Nat.reduceSub, Nat.reduceMul, Nat.reduceLT, Nat.reduceLeDiff, Nat.reduceEqDiff, List.reduceReplicate, reduceIte, sxq, Bool.false_eq_true, beq_self_eq_true, bne_self_eq_false, Int.reduceBEq, Int.reduceBNe, Bool.or_false, Bool.false_or, Bool.not_false, Bool.not_true]
        refine WQ.elem (y := ((sgRun k l).2[m]'(by omega))) hr1 (by simp [St.put]) (ds := [some 85, some 86, some 87, some 88, some 89, some 90, some 91, some 92, some 93, some 94, some 95, some 96, some 97, some 98, some 99, some 100, some 101, some 102, some 103, some 104, some 105, some 106, some 107, some 108, some 109, some 110, some 111, some 112, some 113, some 6]) rfl rfl rfl (by simp [St.put]) (fun _ => rfl) rfl rfl rfl rfl rfl el25 agg3 sz3 (.inr rfl) (by omega) (getIdx (sgRun k l).2 (by omega)) fun p ces hces => ?_
        obtain rfl := rInt_open hces
        clear hces
        refine WQ.go 4 (ds := [some 85, some 86, some 87, some 88, some 89, some 90, some 91, some 92, some 93, some 94, some 95, some 96, some 97, some 98, some 99, some 100, some 101, some 102, some 103, some 104, some 105, some 106, some 107, some 108, some 109, some 110, some 111, some 112, some 113, some 6]) rfl ?_
        simp only [sx, ty, Bool.false_eq_true, Int.reduceEq, Int.reduceLT, Nat.reduceAdd, Nat.reduceSub, Nat.reduceMul, Nat.reduceLT, Nat.reduceLeDiff, Nat.reduceEqDiff, List.reduceReplicate, reduceIte, sxq, Bool.false_eq_true, beq_self_eq_true, bne_self_eq_false, Int.reduceBEq, Int.reduceBNe, Bool.or_false, Bool.false_or, Bool.not_false, Bool.not_true]
        with_reducible refine WQ.nil ?_
        refine hK17 _ ?_; clear hK17
        refine W.ret ⟨by simp, _, rfl, fun ρ w1 hb => ?_⟩
        rw [getIdx (sgRun k l).2 (show m < (sgRun k l).2.length by omega)] at hy2
        simp only [den]
        rw [pit_eq]
        exact congrArg Value.bool hy2
/-- function 7 -/
theorem law5 {w : World} (hG : GS w) (a b c d : Int) : Gives Tryd.prog 7 #[.agg #[.int .i64 a, .int .i64 b], .agg #[.int .i64 c, .int .i64 d]] w fun r _ => r = .bool true := by
  refine gives_of [.agg [.val (.int .i64 a), .val (.int .i64 b)], .agg [.val (.int .i64 c), .val (.int .i64 d)]] 98 [.tmp 4] Tryd.func7 rfl rfl rfl (by simp) rfl rfl ?_
  refine W.pure (ds := []) rfl fun K1 hK1 => ?_
  simp only [sx, ty, Bool.false_eq_true, Int.reduceEq, Int.reduceLT, Nat.reduceAdd, Nat.reduceSub, Nat.reduceMul, Nat.reduceLT, Nat.reduceLeDiff, Nat.reduceEqDiff, List.reduceReplicate, reduceIte, beq_self_eq_true, bne_self_eq_false, Int.reduceBEq, Int.reduceBNe, Bool.or_false, Bool.false_or, Bool.not_false, Bool.not_true, Int.reduceBEq, Int.reduceBNe]; with_reducible refine hK1 _ ?_; clear hK1
  refine W.seqK fun K2 hK2 => W.region ?_
  refine WO.call (.bool true) (ds := []) rfl rfl rfl rfl co9 (fun ρ w1 hb => head_spec (hG.now (hb.first (by simp)))) ?_
  refine WO.go 1 (ds := []) rfl ?_
  simp only [sx, ty, Bool.false_eq_true, Int.reduceEq, Int.reduceLT, Nat.reduceAdd, Nat.reduceSub, Nat.reduceMul, Nat.reduceLT, Nat.reduceLeDiff, Nat.reduceEqDiff, List.reduceReplicate, reduceIte, beq_self_eq_true, bne_self_eq_false, Int.reduceBEq, Int.reduceBNe, Bool.or_false, Bool.false_or, Bool.not_false, Bool.not_true, Int.reduceBEq, Int.reduceBNe]
  with_reducible refine WO.nil ?_
  refine hK2 _ ?_; clear hK2
  refine W.seqK fun K3 hK3 => W.region ?_
  refine WO.go 2 (ds := []) rfl ?_
  simp only [sx, ty, Bool.false_eq_true, Int.reduceEq, Int.reduceLT, Nat.reduceAdd, Nat.reduceSub, Nat.reduceMul, Nat.reduceLT, Nat.reduceLeDiff, Nat.reduceEqDiff, List.reduceReplicate, reduceIte, beq_self_eq_true, bne_self_eq_false, Int.reduceBEq, Int.reduceBNe, Bool.or_false, Bool.false_or, Bool.not_false, Bool.not_true, Int.reduceBEq, Int.reduceBNe]
  refine WO.call (.tuple #[.agg #[.int .i64 (joinF a b c d).1, .int .i64 (joinF a b c d).2.1], .int .i64 (joinF a b c d).2.2]) (ds := []) rfl rfl rfl rfl co25 (fun ρ w1 hb => join_spec w1 a b c d) ?_
  refine WO.go 6 (ds := []) rfl ?_
  simp only [sx, ty, Bool.false_eq_true, Int.reduceEq, Int.reduceLT, Nat.reduceAdd, Nat.reduceSub, Nat.reduceMul, Nat.reduceLT, Nat.reduceLeDiff, Nat.reduceEqDiff, List.reduceReplicate, reduceIte, beq_self_eq_true, bne_self_eq_false, Int.reduceBEq, Int.reduceBNe, Bool.or_false, Bool.false_or, Bool.not_false, Bool.not_true, Int.reduceBEq, Int.reduceBNe]
  with_reducible refine WO.nil ?_
  refine hK3 _ ?_; clear hK3
  refine W.seqK fun K4 hK4 => W.region ?_
  refine WO.go 1 (ds := []) rfl ?_
  simp only [sx, ty, Bool.false_eq_true, Int.reduceEq, Int.reduceLT, Nat.reduceAdd, Nat.reduceSub, Nat.reduceMul, Nat.reduceLT, Nat.reduceLeDiff, Nat.reduceEqDiff, List.reduceReplicate, reduceIte, beq_self_eq_true, bne_self_eq_false, Int.reduceBEq, Int.reduceBNe, Bool.or_false, Bool.false_or, Bool.not_false, Bool.not_true, Int.reduceBEq, Int.reduceBNe]
  refine WO.call (.tuple #[.agg #[.int .i64 (backF a b).1, .int .i64 (backF a b).2.1], .int .i64 (backF a b).2.2]) (ds := []) rfl rfl rfl rfl co26 (fun ρ w1 hb => back_spec w1 a b) ?_
  refine WO.go 6 (ds := []) rfl ?_
  simp only [sx, ty, Bool.false_eq_true, Int.reduceEq, Int.reduceLT, Nat.reduceAdd, Nat.reduceSub, Nat.reduceMul, Nat.reduceLT, Nat.reduceLeDiff, Nat.reduceEqDiff, List.reduceReplicate, reduceIte, beq_self_eq_true, bne_self_eq_false, Int.reduceBEq, Int.reduceBNe, Bool.or_false, Bool.false_or, Bool.not_false, Bool.not_true, Int.reduceBEq, Int.reduceBNe]
  with_reducible refine WO.nil ?_
  refine hK4 _ ?_; clear hK4
  refine W.seqK fun K5 hK5 => ?_
  refine W.join 37 (.val (.bool (!(formed a b && formed c d)))) [2, 3, 5, 6, 7, 8, 9] (W.region ?_) ?_
  · skip
    refine WO.go 1 (ds := [some 30, some 31, some 32, some 33, some 34, some 35, some 36, some 37]) rfl ?_
    simp only [sx, ty, Bool.false_eq_true, Int.reduceEq, Int.reduceLT, Nat.reduceAdd, Nat.reduceSub, Nat.reduceMul, Nat.reduceLT, Nat.reduceLeDiff, Nat.reduceEqDiff, List.reduceReplicate, reduceIte, beq_self_eq_true, bne_self_eq_false, Int.reduceBEq, Int.reduceBNe, Bool.or_false, Bool.false_or, Bool.not_false, Bool.not_true, Int.reduceBEq, Int.reduceBNe]
    refine WO.call (.bool (formed a b)) (ds := [some 30, some 31, some 32, some 33, some 34, some 35, some 36, some 37]) rfl rfl rfl rfl co23 (fun ρ w1 hb => rInterval_spec w1 _ _) ?_
    refine WO.go 2 (ds := [some 30, some 31, some 32, some 33, some 34, some 35, some 36, some 37]) rfl ?_
    simp only [sx, ty, Bool.false_eq_true, Int.reduceEq, Int.reduceLT, Nat.reduceAdd, Nat.reduceSub, Nat.reduceMul, Nat.reduceLT, Nat.reduceLeDiff, Nat.reduceEqDiff, List.reduceReplicate, reduceIte, beq_self_eq_true, bne_self_eq_false, Int.reduceBEq, Int.reduceBNe, Bool.or_false, Bool.false_or, Bool.not_false, Bool.not_true, Int.reduceBEq, Int.reduceBNe]
    refine WO.cases 33 _ rfl (fun hg33 => ?_) (fun hg33 => ?_)
    · skip
      refine WO.go 4 (ds := [some 30, some 31, some 32, some 33, some 34, some 35, some 36, some 37]) rfl ?_
      simp only [sx, ty, Bool.false_eq_true, Int.reduceEq, Int.reduceLT, Nat.reduceAdd, Nat.reduceSub, Nat.reduceMul, Nat.reduceLT, Nat.reduceLeDiff, Nat.reduceEqDiff, List.reduceReplicate, reduceIte, beq_self_eq_true, bne_self_eq_false, Int.reduceBEq, Int.reduceBNe, Bool.or_false, Bool.false_or, Bool.not_false, Bool.not_true, Int.reduceBEq, Int.reduceBNe]
      with_reducible refine WO.nil ?_
      refine ⟨rfl, ?_, ⟨_, rfl⟩, by simp [Own.bnd, bndL, bnd, boxO], by simp⟩
      try rw [hg33]
      simp [getE, bnd, keepE]
      try simp_all
    · skip
      refine WO.go 1 (ds := [some 30, some 31, some 32, some 33, some 34, some 35, some 36, some 37]) rfl ?_
      simp only [sx, ty, Bool.false_eq_true, Int.reduceEq, Int.reduceLT, Nat.reduceAdd, Nat.reduceSub, Nat.reduceMul, Nat.reduceLT, Nat.reduceLeDiff, Nat.reduceEqDiff, List.reduceReplicate, reduceIte, beq_self_eq_true, bne_self_eq_false, Int.reduceBEq, Int.reduceBNe, Bool.or_false, Bool.false_or, Bool.not_false, Bool.not_true, Int.reduceBEq, Int.reduceBNe]
      refine WO.call (.bool (formed c d)) (ds := [some 30, some 31, some 32, some 33, some 34, some 35, some 36, some 37]) rfl rfl rfl rfl co23 (fun ρ w1 hb => rInterval_spec w1 _ _) ?_
      refine WO.go 2 (ds := [some 30, some 31, some 32, some 33, some 34, some 35, some 36, some 37]) rfl ?_
      simp only [sx, ty, Bool.false_eq_true, Int.reduceEq, Int.reduceLT, Nat.reduceAdd, Nat.reduceSub, Nat.reduceMul, Nat.reduceLT, Nat.reduceLeDiff, Nat.reduceEqDiff, List.reduceReplicate, reduceIte, beq_self_eq_true, bne_self_eq_false, Int.reduceBEq, Int.reduceBNe, Bool.or_false, Bool.false_or, Bool.not_false, Bool.not_true, Int.reduceBEq, Int.reduceBNe]
      with_reducible refine WO.nil ?_
      refine ⟨rfl, ?_, ⟨_, rfl⟩, by simp [Own.bnd, bndL, bnd, boxO], by simp⟩
      try rw [hg33]
      simp [getE, bnd, keepE]
      try simp_all
  · simp only [sx, ty, Bool.false_eq_true, Int.reduceEq, Int.reduceLT, Nat.reduceAdd, Nat.reduceSub, Nat.reduceMul, Nat.reduceLT, Nat.reduceLeDiff, Nat.reduceEqDiff, List.reduceReplicate, reduceIte, sxk, beq_self_eq_true, bne_self_eq_false, Int.reduceBEq, Int.reduceBNe, Bool.or_false, Bool.false_or, Bool.not_false, Bool.not_true, Int.reduceBEq, Int.reduceBNe]
    refine W.cond rfl rfl (fun hc => ?_) (fun hc => ?_)
    · skip
      refine W.pure (ds := []) rfl fun K7 hK7 => ?_
      simp only [sx, ty, Bool.false_eq_true, Int.reduceEq, Int.reduceLT, Nat.reduceAdd, Nat.reduceSub, Nat.reduceMul, Nat.reduceLT, Nat.reduceLeDiff, Nat.reduceEqDiff, List.reduceReplicate, reduceIte, beq_self_eq_true, bne_self_eq_false, Int.reduceBEq, Int.reduceBNe, Bool.or_false, Bool.false_or, Bool.not_false, Bool.not_true, Int.reduceBEq, Int.reduceBNe]; with_reducible refine hK7 _ ?_; clear hK7
      refine W.ret ⟨by simp, _, rfl, fun ρ w1 hb => ?_⟩
      rfl
    · skip
      have hf : (formed a b && formed c d) = true := by simpa only [Bool.not_eq_false'] using hc
      have hf2 := hf
      simp only [Bool.and_eq_true] at hf2
      have hf3 := formed_iff.1 hf2.1
      have hf4 := formed_iff.1 hf2.2
      simp only [joinF_yes hf, backF_yes hf2.1]
      have hfw : fifthsF (-a) (-b) = (IntKind.i64.wrap (0 - (7 * b - 12 * a)), 0) := by rw [fifthsF_yes (formed_iff.2 (by omega)), wrap_id (x := 0 - (7 * b - 12 * a)) (by omega) (by omega)]; congr 1; omega
      refine W.skip (hK5 _ ?_)
      refine W.seqK fun K8 hK8 => W.region ?_
      refine WO.go 1 (ds := []) rfl ?_
      simp only [sx, ty, Bool.false_eq_true, Int.reduceEq, Int.reduceLT, Nat.reduceAdd, Nat.reduceSub, Nat.reduceMul, Nat.reduceLT, Nat.reduceLeDiff, Nat.reduceEqDiff, List.reduceReplicate, reduceIte, beq_self_eq_true, bne_self_eq_false, Int.reduceBEq, Int.reduceBNe, Bool.or_false, Bool.false_or, Bool.not_false, Bool.not_true, Int.reduceBEq, Int.reduceBNe]
      refine WO.call (.tuple #[.int .i64 (7 * b - 12 * a), .int .i64 0]) (ds := []) rfl rfl rfl rfl co12 (fun ρ w1 hb => fifths_call (fifthsF_yes hf2.1)) ?_
      refine WO.go 5 (ds := []) rfl ?_
      simp only [sx, ty, Bool.false_eq_true, Int.reduceEq, Int.reduceLT, Nat.reduceAdd, Nat.reduceSub, Nat.reduceMul, Nat.reduceLT, Nat.reduceLeDiff, Nat.reduceEqDiff, List.reduceReplicate, reduceIte, beq_self_eq_true, bne_self_eq_false, Int.reduceBEq, Int.reduceBNe, Bool.or_false, Bool.false_or, Bool.not_false, Bool.not_true, Int.reduceBEq, Int.reduceBNe]
      with_reducible refine WO.nil ?_
      refine hK8 _ ?_; clear hK8
      refine W.seqK fun K9 hK9 => W.region ?_
      refine WO.go 1 (ds := []) rfl ?_
      simp only [sx, ty, Bool.false_eq_true, Int.reduceEq, Int.reduceLT, Nat.reduceAdd, Nat.reduceSub, Nat.reduceMul, Nat.reduceLT, Nat.reduceLeDiff, Nat.reduceEqDiff, List.reduceReplicate, reduceIte, beq_self_eq_true, bne_self_eq_false, Int.reduceBEq, Int.reduceBNe, Bool.or_false, Bool.false_or, Bool.not_false, Bool.not_true, Int.reduceBEq, Int.reduceBNe]
      refine WO.call (.tuple #[.int .i64 (7 * d - 12 * c), .int .i64 0]) (ds := []) rfl rfl rfl rfl co12 (fun ρ w1 hb => fifths_call (fifthsF_yes hf2.2)) ?_
      refine WO.go 5 (ds := []) rfl ?_
      simp only [sx, ty, Bool.false_eq_true, Int.reduceEq, Int.reduceLT, Nat.reduceAdd, Nat.reduceSub, Nat.reduceMul, Nat.reduceLT, Nat.reduceLeDiff, Nat.reduceEqDiff, List.reduceReplicate, reduceIte, beq_self_eq_true, bne_self_eq_false, Int.reduceBEq, Int.reduceBNe, Bool.or_false, Bool.false_or, Bool.not_false, Bool.not_true, Int.reduceBEq, Int.reduceBNe]
      with_reducible refine WO.nil ?_
      refine hK9 _ ?_; clear hK9
      refine W.seqK fun K10 hK10 => W.region ?_
      refine WO.go 1 (ds := []) rfl ?_
      simp only [sx, ty, Bool.false_eq_true, Int.reduceEq, Int.reduceLT, Nat.reduceAdd, Nat.reduceSub, Nat.reduceMul, Nat.reduceLT, Nat.reduceLeDiff, Nat.reduceEqDiff, List.reduceReplicate, reduceIte, beq_self_eq_true, bne_self_eq_false, Int.reduceBEq, Int.reduceBNe, Bool.or_false, Bool.false_or, Bool.not_false, Bool.not_true, Int.reduceBEq, Int.reduceBNe]
      refine WO.call (.tuple #[.int .i64 (IntKind.i64.wrap (0 - (7 * b - 12 * a))), .int .i64 0]) (ds := []) rfl rfl rfl rfl co12 (fun ρ w1 hb => fifths_call hfw) ?_
      refine WO.go 5 (ds := []) rfl ?_
      simp only [sx, ty, Bool.false_eq_true, Int.reduceEq, Int.reduceLT, Nat.reduceAdd, Nat.reduceSub, Nat.reduceMul, Nat.reduceLT, Nat.reduceLeDiff, Nat.reduceEqDiff, List.reduceReplicate, reduceIte, beq_self_eq_true, bne_self_eq_false, Int.reduceBEq, Int.reduceBNe, Bool.or_false, Bool.false_or, Bool.not_false, Bool.not_true, Int.reduceBEq, Int.reduceBNe]
      with_reducible refine WO.nil ?_
      refine hK10 _ ?_; clear hK10
      refine W.seqK fun K11 hK11 => ?_
      refine W.seqK fun K12 hK12 => W.region ?_
      refine WO.go 20 (ds := [some 54, some 55, some 56, some 57, some 58, some 59, some 60, some 61, some 62, some 63, some 64, some 65, some 66, some 67, some 68, some 69, some 70, some 71, some 72, some 73]) rfl ?_
      simp only [sx, ty, Bool.false_eq_true, Int.reduceEq, Int.reduceLT, Nat.reduceAdd, Nat.reduceSub, Nat.reduceMul, Nat.reduceLT, Nat.reduceLeDiff, Nat.reduceEqDiff, List.reduceReplicate, reduceIte, beq_self_eq_true, bne_self_eq_false, Int.reduceBEq, Int.reduceBNe, Bool.or_false, Bool.false_or, Bool.not_false, Bool.not_true, Int.reduceBEq, Int.reduceBNe]
      with_reducible refine WO.nil ?_
      refine hK12 _ ?_; clear hK12
      refine W.cond rfl rfl (fun hc => ?_) (fun hc => ?_)
      · skip
        simp at hc
      · skip
        refine W.skip (hK11 _ ?_)
        refine W.seqK fun K13 hK13 => ?_
        refine W.pure (ds := []) rfl fun K14 hK14 => ?_
        simp only [sx, ty, Bool.false_eq_true, Int.reduceEq, Int.reduceLT, Nat.reduceAdd, Nat.reduceSub, Nat.reduceMul, Nat.reduceLT, Nat.reduceLeDiff, Nat.reduceEqDiff, List.reduceReplicate, reduceIte, beq_self_eq_true, bne_self_eq_false, Int.reduceBEq, Int.reduceBNe, Bool.or_false, Bool.false_or, Bool.not_false, Bool.not_true, Int.reduceBEq, Int.reduceBNe]; with_reducible refine hK14 _ ?_; clear hK14
        refine W.cond rfl rfl (fun hc => ?_) (fun hc => ?_)
        · skip
          have hn : formed (a + c) (b + d) = false := by cases h : formed (a + c) (b + d) with
            | false => rfl
            | true => rw [checkedF_yes h] at hc; simp at hc
          simp only [checkedF_no hn]
          refine W.seqK fun K15 hK15 => W.region ?_
          refine WO.go 6 (ds := [some 76, some 77, some 78, some 79, some 80, some 4]) rfl ?_
          simp only [sx, ty, Bool.false_eq_true, Int.reduceEq, Int.reduceLT, Nat.reduceAdd, Nat.reduceSub, Nat.reduceMul, Nat.reduceLT, Nat.reduceLeDiff, Nat.reduceEqDiff, List.reduceReplicate, reduceIte, beq_self_eq_true, bne_self_eq_false, Int.reduceBEq, Int.reduceBNe, Bool.or_false, Bool.false_or, Bool.not_false, Bool.not_true, Int.reduceBEq, Int.reduceBNe]
          with_reducible refine WO.nil ?_
          refine hK15 _ ?_; clear hK15
          refine W.ret ⟨by simp, _, rfl, fun ρ w1 hb => ?_⟩
          rfl
        · skip
          have hy : formed (a + c) (b + d) = true := by cases h : formed (a + c) (b + d) with
            | true => rfl
            | false => rw [checkedF_no h] at hc; simp at hc
          simp only [checkedF_yes hy]
          have hfs : fifthsF (a + c) (b + d) = (IntKind.i64.wrap ((7 * b - 12 * a) + (7 * d - 12 * c)), 0) := by rw [fifthsF_yes hy, wrap_id (x := (7 * b - 12 * a) + (7 * d - 12 * c)) (by omega) (by omega)]; congr 1; omega
          refine W.skip (hK13 _ ?_)
          refine W.seqK fun K16 hK16 => W.region ?_
          refine WO.go 1 (ds := []) rfl ?_
          simp only [sx, ty, Bool.false_eq_true, Int.reduceEq, Int.reduceLT, Nat.reduceAdd, Nat.reduceSub, Nat.reduceMul, Nat.reduceLT, Nat.reduceLeDiff, Nat.reduceEqDiff, List.reduceReplicate, reduceIte, beq_self_eq_true, bne_self_eq_false, Int.reduceBEq, Int.reduceBNe, Bool.or_false, Bool.false_or, Bool.not_false, Bool.not_true, Int.reduceBEq, Int.reduceBNe]
          refine WO.call (.tuple #[.int .i64 (IntKind.i64.wrap ((7 * b - 12 * a) + (7 * d - 12 * c))), .int .i64 0]) (ds := []) rfl rfl rfl rfl co12 (fun ρ w1 hb => fifths_call hfs) ?_
          refine WO.go 5 (ds := []) rfl ?_
          simp only [sx, ty, Bool.false_eq_true, Int.reduceEq, Int.reduceLT, Nat.reduceAdd, Nat.reduceSub, Nat.reduceMul, Nat.reduceLT, Nat.reduceLeDiff, Nat.reduceEqDiff, List.reduceReplicate, reduceIte, beq_self_eq_true, bne_self_eq_false, Int.reduceBEq, Int.reduceBNe, Bool.or_false, Bool.false_or, Bool.not_false, Bool.not_true, Int.reduceBEq, Int.reduceBNe]
          with_reducible refine WO.nil ?_
          refine hK16 _ ?_; clear hK16
          refine W.seqK fun K17 hK17 => W.region ?_
          refine WO.go 13 (ds := [some 86, some 87, some 88, some 89, some 90, some 91, some 92, some 93, some 94, some 95, some 96, some 97, some 4]) rfl ?_
          simp only [sx, ty, Bool.false_eq_true, Int.reduceEq, Int.reduceLT, Nat.reduceAdd, Nat.reduceSub, Nat.reduceMul, Nat.reduceLT, Nat.reduceLeDiff, Nat.reduceEqDiff, List.reduceReplicate, reduceIte, beq_self_eq_true, bne_self_eq_false, Int.reduceBEq, Int.reduceBNe, Bool.or_false, Bool.false_or, Bool.not_false, Bool.not_true, Int.reduceBEq, Int.reduceBNe]
          with_reducible refine WO.nil ?_
          refine hK17 _ ?_; clear hK17
          refine W.ret ⟨by simp, _, rfl, fun ρ w1 hb => ?_⟩
          rfl

theorem scale_fact {k k1 a1 b s o : Int} (hk : -7 ≤ k ∧ k ≤ 7) (hk1 : -7 ≤ k1 ∧ k1 ≤ 7) (hf : formed a1 b = true) (hff : fifthsF a1 b = (IntKind.i64.wrap (k1 - k), 0)) (hs : 0 ≤ s ∧ s ≤ 6) (ho : 0 ≤ o ∧ o ≤ 20) :
    (addF (s, alterF k s, o) a1 b).2 = 3 ∨ ((addF (s, alterF k s, o) a1 b).2 = 0 ∧ within 0 6 (addF (s, alterF k s, o) a1 b).1.1 = true ∧ (addF (s, alterF k s, o) a1 b).1.2.1 = alterF k1 (addF (s, alterF k s, o) a1 b).1.1) := by
  have hb := alter_bound k s
  have hv : validP (s, alterF k s, o) = true := validP_iff.2 ⟨hs, by simp only; omega, by simp only; omega⟩
  have hvf : (validP (s, alterF k s, o) && formed a1 b) = true := by rw [hv, hf]; rfl
  have hd : 7 * b - 12 * a1 = k1 - k := by
    rw [fifthsF_yes hf, wrap_id (by omega) (by omega)] at hff
    exact (Prod.mk.inj hff).1
  by_cases h0 : a1 = 0 ∧ b = 0
  · right
    rw [addF_same hvf h0]
    have : k1 = k := by omega
    subst this
    exact ⟨rfl, within_iff.2 hs, rfl⟩
  · cases h3 : validP (addP (s, alterF k s, o) a1 b) with
    | false => left; rw [addF_out hvf h0 h3]
    | true =>
      right
      rw [addF_yes hvf h0 h3]
      exact ⟨rfl, within_iff.2 (validP_iff.1 h3).1, scale_alter hk hk1 hd hs⟩
/-- function 8 -/
theorem law6 {w : World} (hG : GS w) (hN : GN w) (k a b step oct : Int) (h1 : 0 ≤ step ∧ step ≤ 255) (h2 : 0 ≤ oct ∧ oct ≤ 255) : Gives Tryd.prog 8 #[.int .i64 k, .agg #[.int .i64 a, .int .i64 b], .int .u8 step, .int .u8 oct] w fun r _ => r = .bool true := by
  refine gives_of [.val (.int .i64 k), .agg [.val (.int .i64 a), .val (.int .i64 b)], .val (.int .u8 step), .val (.int .u8 oct)] 100 [.tmp 8] Tryd.func8 rfl rfl rfl (by simp) rfl rfl ?_
  refine W.pure (ds := []) rfl fun K1 hK1 => ?_
  simp only [sx, ty, Bool.false_eq_true, Int.reduceEq, Int.reduceLT, Nat.reduceAdd, Nat.reduceSub, Nat.reduceMul, Nat.reduceLT, Nat.reduceLeDiff, Nat.reduceEqDiff, List.reduceReplicate, reduceIte, beq_self_eq_true, bne_self_eq_false, Int.reduceBEq, Int.reduceBNe, Bool.or_false, Bool.false_or, Bool.not_false, Bool.not_true]; with_reducible refine hK1 _ ?_; clear hK1
  refine W.seqK fun K2 hK2 => W.region ?_
  refine WO.call (.bool true) (ds := []) rfl rfl rfl rfl co9 (fun ρ w1 hb => head_spec (hG.now (hb.first (by simp)))) ?_
  refine WO.go 1 (ds := []) rfl ?_
  simp only [sx, ty, Bool.false_eq_true, Int.reduceEq, Int.reduceLT, Nat.reduceAdd, Nat.reduceSub, Nat.reduceMul, Nat.reduceLT, Nat.reduceLeDiff, Nat.reduceEqDiff, List.reduceReplicate, reduceIte, beq_self_eq_true, bne_self_eq_false, Int.reduceBEq, Int.reduceBNe, Bool.or_false, Bool.false_or, Bool.not_false, Bool.not_true]
  with_reducible refine WO.nil ?_
  refine hK2 _ ?_; clear hK2
  refine W.seqK fun K3 hK3 => ?_
  refine W.join 28 (.val (.bool (!(isKey k && formed a b)))) [0, 2, 3, 5, 9] (W.region ?_) ?_
  · skip
    refine WO.go 1 (ds := [some 21, some 22, some 23, some 24, some 25, some 26, some 27, some 28]) rfl ?_
    simp only [sx, ty, Bool.false_eq_true, Int.reduceEq, Int.reduceLT, Nat.reduceAdd, Nat.reduceSub, Nat.reduceMul, Nat.reduceLT, Nat.reduceLeDiff, Nat.reduceEqDiff, List.reduceReplicate, reduceIte, beq_self_eq_true, bne_self_eq_false, Int.reduceBEq, Int.reduceBNe, Bool.or_false, Bool.false_or, Bool.not_false, Bool.not_true]
    refine WO.call (.bool (isKey k)) (ds := [some 21, some 22, some 23, some 24, some 25, some 26, some 27, some 28]) rfl rfl rfl rfl co22 (fun ρ w1 hb => rKey_spec w1 k) ?_
    refine WO.go 2 (ds := [some 21, some 22, some 23, some 24, some 25, some 26, some 27, some 28]) rfl ?_
    simp only [sx, ty, Bool.false_eq_true, Int.reduceEq, Int.reduceLT, Nat.reduceAdd, Nat.reduceSub, Nat.reduceMul, Nat.reduceLT, Nat.reduceLeDiff, Nat.reduceEqDiff, List.reduceReplicate, reduceIte, beq_self_eq_true, bne_self_eq_false, Int.reduceBEq, Int.reduceBNe, Bool.or_false, Bool.false_or, Bool.not_false, Bool.not_true]
    refine WO.cases 24 _ rfl (fun hg24 => ?_) (fun hg24 => ?_)
    · skip
      refine WO.go 4 (ds := [some 21, some 22, some 23, some 24, some 25, some 26, some 27, some 28]) rfl ?_
      simp only [sx, ty, Bool.false_eq_true, Int.reduceEq, Int.reduceLT, Nat.reduceAdd, Nat.reduceSub, Nat.reduceMul, Nat.reduceLT, Nat.reduceLeDiff, Nat.reduceEqDiff, List.reduceReplicate, reduceIte, beq_self_eq_true, bne_self_eq_false, Int.reduceBEq, Int.reduceBNe, Bool.or_false, Bool.false_or, Bool.not_false, Bool.not_true]
      with_reducible refine WO.nil ?_
      refine ⟨rfl, ?_, ⟨_, rfl⟩, by simp [Own.bnd, bndL, bnd, boxO], by simp⟩
      try rw [hg24]
      simp [getE, bnd, keepE]
      try simp_all
    · skip
      refine WO.go 1 (ds := [some 21, some 22, some 23, some 24, some 25, some 26, some 27, some 28]) rfl ?_
      simp only [sx, ty, Bool.false_eq_true, Int.reduceEq, Int.reduceLT, Nat.reduceAdd, Nat.reduceSub, Nat.reduceMul, Nat.reduceLT, Nat.reduceLeDiff, Nat.reduceEqDiff, List.reduceReplicate, reduceIte, beq_self_eq_true, bne_self_eq_false, Int.reduceBEq, Int.reduceBNe, Bool.or_false, Bool.false_or, Bool.not_false, Bool.not_true]
      refine WO.call (.bool (formed a b)) (ds := [some 21, some 22, some 23, some 24, some 25, some 26, some 27, some 28]) rfl rfl rfl rfl co23 (fun ρ w1 hb => rInterval_spec w1 _ _) ?_
      refine WO.go 2 (ds := [some 21, some 22, some 23, some 24, some 25, some 26, some 27, some 28]) rfl ?_
      simp only [sx, ty, Bool.false_eq_true, Int.reduceEq, Int.reduceLT, Nat.reduceAdd, Nat.reduceSub, Nat.reduceMul, Nat.reduceLT, Nat.reduceLeDiff, Nat.reduceEqDiff, List.reduceReplicate, reduceIte, beq_self_eq_true, bne_self_eq_false, Int.reduceBEq, Int.reduceBNe, Bool.or_false, Bool.false_or, Bool.not_false, Bool.not_true]
      with_reducible refine WO.nil ?_
      refine ⟨rfl, ?_, ⟨_, rfl⟩, by simp [Own.bnd, bndL, bnd, boxO], by simp⟩
      try rw [hg24]
      simp [getE, bnd, keepE]
      try simp_all
  · simp only [sx, ty, Bool.false_eq_true, Int.reduceEq, Int.reduceLT, Nat.reduceAdd, Nat.reduceSub, Nat.reduceMul, Nat.reduceLT, Nat.reduceLeDiff, Nat.reduceEqDiff, List.reduceReplicate, reduceIte, sxk, beq_self_eq_true, bne_self_eq_false, Int.reduceBEq, Int.reduceBNe, Bool.or_false, Bool.false_or, Bool.not_false, Bool.not_true]
    refine W.cond rfl rfl (fun hc => ?_) (fun hc => ?_)
    · skip
      refine W.pure (ds := []) rfl fun K5 hK5 => ?_
      simp only [sx, ty, Bool.false_eq_true, Int.reduceEq, Int.reduceLT, Nat.reduceAdd, Nat.reduceSub, Nat.reduceMul, Nat.reduceLT, Nat.reduceLeDiff, Nat.reduceEqDiff, List.reduceReplicate, reduceIte, beq_self_eq_true, bne_self_eq_false, Int.reduceBEq, Int.reduceBNe, Bool.or_false, Bool.false_or, Bool.not_false, Bool.not_true]; with_reducible refine hK5 _ ?_; clear hK5
      refine W.ret ⟨by simp, _, rfl, fun ρ w1 hb => ?_⟩
      rfl
    · skip
      have hkf : (isKey k && formed a b) = true := by simpa only [Bool.not_eq_false'] using hc
      simp only [Bool.and_eq_true] at hkf
      have hkb := within_iff.1 hkf.1
      have hfb := formed_iff.1 hkf.2
      obtain ⟨k1, a1, hm1, hk1, hkb1, hab1, hf1, hm2⟩ := moves_fact hkf.1 hkf.2
      have hfa : formed a1 b = true := formed_iff.2 ⟨hab1.1, hab1.2, hfb.2.2⟩
      refine W.skip (hK3 _ ?_)
      refine W.pure (ds := []) rfl fun K6 hK6 => ?_
      simp only [sx, ty, Bool.false_eq_true, Int.reduceEq, Int.reduceLT, Nat.reduceAdd, Nat.reduceSub, Nat.reduceMul, Nat.reduceLT, Nat.reduceLeDiff, Nat.reduceEqDiff, List.reduceReplicate, reduceIte, beq_self_eq_true, bne_self_eq_false, Int.reduceBEq, Int.reduceBNe, Bool.or_false, Bool.false_or, Bool.not_false, Bool.not_true]; with_reducible refine hK6 _ ?_; clear hK6
      obtain ⟨s0, hs0, hsb⟩ := rem8 (d := 7) h1 (by omega)
      obtain ⟨o0, ho0, hob⟩ := rem8 (d := 12) h2 (by omega)
      simp only [hs0, ho0]
      refine W.seqK fun K7 hK7 => W.region ?_
      refine WO.go 2 (ds := []) rfl ?_
      simp only [sx, ty, Bool.false_eq_true, Int.reduceEq, Int.reduceLT, Nat.reduceAdd, Nat.reduceSub, Nat.reduceMul, Nat.reduceLT, Nat.reduceLeDiff, Nat.reduceEqDiff, List.reduceReplicate, reduceIte, beq_self_eq_true, bne_self_eq_false, Int.reduceBEq, Int.reduceBNe, Bool.or_false, Bool.false_or, Bool.not_false, Bool.not_true]
      refine WO.call (.tuple #[.int .i64 k1, .agg #[.int .i64 a1, .int .i64 b], .int .i64 0]) (ds := []) rfl rfl rfl rfl co14 (fun ρ w1 hb => move_call hm1) ?_
      refine WO.go 8 (ds := []) rfl ?_
      simp only [sx, ty, Bool.false_eq_true, Int.reduceEq, Int.reduceLT, Nat.reduceAdd, Nat.reduceSub, Nat.reduceMul, Nat.reduceLT, Nat.reduceLeDiff, Nat.reduceEqDiff, List.reduceReplicate, reduceIte, beq_self_eq_true, bne_self_eq_false, Int.reduceBEq, Int.reduceBNe, Bool.or_false, Bool.false_or, Bool.not_false, Bool.not_true]
      with_reducible refine WO.nil ?_
      refine hK7 _ ?_; clear hK7
      refine W.seqK fun K8 hK8 => W.region ?_
      refine WO.go 3 (ds := []) rfl ?_
      simp only [sx, ty, Bool.false_eq_true, Int.reduceEq, Int.reduceLT, Nat.reduceAdd, Nat.reduceSub, Nat.reduceMul, Nat.reduceLT, Nat.reduceLeDiff, Nat.reduceEqDiff, List.reduceReplicate, reduceIte, beq_self_eq_true, bne_self_eq_false, Int.reduceBEq, Int.reduceBNe, Bool.or_false, Bool.false_or, Bool.not_false, Bool.not_true]
      refine WO.call (.tuple #[.int .i64 (alterF k s0), .int .i64 0]) (ds := []) rfl rfl rfl rfl co10 (fun ρ w1 hb => Alter_call (hG.now (hb.first (by simp))) (AlterF_yes (by rw [hkf.1, within_iff.2 (show 0 ≤ s0 ∧ s0 ≤ 6 by omega)]; rfl))) ?_
      refine WO.go 5 (ds := []) rfl ?_
      simp only [sx, ty, Bool.false_eq_true, Int.reduceEq, Int.reduceLT, Nat.reduceAdd, Nat.reduceSub, Nat.reduceMul, Nat.reduceLT, Nat.reduceLeDiff, Nat.reduceEqDiff, List.reduceReplicate, reduceIte, beq_self_eq_true, bne_self_eq_false, Int.reduceBEq, Int.reduceBNe, Bool.or_false, Bool.false_or, Bool.not_false, Bool.not_true]
      with_reducible refine WO.nil ?_
      refine hK8 _ ?_; clear hK8
      refine W.pure (ds := []) rfl fun K9 hK9 => ?_
      simp only [sx, ty, Bool.false_eq_true, Int.reduceEq, Int.reduceLT, Nat.reduceAdd, Nat.reduceSub, Nat.reduceMul, Nat.reduceLT, Nat.reduceLeDiff, Nat.reduceEqDiff, List.reduceReplicate, reduceIte, beq_self_eq_true, bne_self_eq_false, Int.reduceBEq, Int.reduceBNe, Bool.or_false, Bool.false_or, Bool.not_false, Bool.not_true]; with_reducible refine hK9 _ ?_; clear hK9
      refine W.seqK fun K10 hK10 => W.region ?_
      refine WO.go 2 (ds := []) rfl ?_
      simp only [sx, ty, Bool.false_eq_true, Int.reduceEq, Int.reduceLT, Nat.reduceAdd, Nat.reduceSub, Nat.reduceMul, Nat.reduceLT, Nat.reduceLeDiff, Nat.reduceEqDiff, List.reduceReplicate, reduceIte, beq_self_eq_true, bne_self_eq_false, Int.reduceBEq, Int.reduceBNe, Bool.or_false, Bool.false_or, Bool.not_false, Bool.not_true]
      refine WO.call (.tuple #[.agg #[.int .i64 (addF (s0, alterF k s0, o0) a1 b).1.1, .int .i64 (addF (s0, alterF k s0, o0) a1 b).1.2.1, .int .i64 (addF (s0, alterF k s0, o0) a1 b).1.2.2], .int .i64 (addF (s0, alterF k s0, o0) a1 b).2]) (ds := []) rfl rfl rfl rfl co27 (fun ρ w1 hb => add_spec (hN.now (hb.first (by simp))) (s0, alterF k s0, o0) a1 b) ?_
      refine WO.go 6 (ds := []) rfl ?_
      simp only [sx, ty, Bool.false_eq_true, Int.reduceEq, Int.reduceLT, Nat.reduceAdd, Nat.reduceSub, Nat.reduceMul, Nat.reduceLT, Nat.reduceLeDiff, Nat.reduceEqDiff, List.reduceReplicate, reduceIte, beq_self_eq_true, bne_self_eq_false, Int.reduceBEq, Int.reduceBNe, Bool.or_false, Bool.false_or, Bool.not_false, Bool.not_true]
      with_reducible refine WO.nil ?_
      refine hK10 _ ?_; clear hK10
      refine W.seqK fun K11 hK11 => ?_
      refine W.seqK fun K12 hK12 => W.region ?_
      refine WO.go 10 (ds := [some 59, some 60, some 61, some 62, some 63, some 64, some 65, some 66, some 67, some 68]) rfl ?_
      simp only [sx, ty, Bool.false_eq_true, Int.reduceEq, Int.reduceLT, Nat.reduceAdd, Nat.reduceSub, Nat.reduceMul, Nat.reduceLT, Nat.reduceLeDiff, Nat.reduceEqDiff, List.reduceReplicate, reduceIte, beq_self_eq_true, bne_self_eq_false, Int.reduceBEq, Int.reduceBNe, Bool.or_false, Bool.false_or, Bool.not_false, Bool.not_true]
      with_reducible refine WO.nil ?_
      refine hK12 _ ?_; clear hK12
      refine W.cond rfl rfl (fun hc => ?_) (fun hc => ?_)
      · skip
        have hsc := scale_fact hkb hkb1 hfa hf1 (show 0 ≤ s0 ∧ s0 ≤ 6 by omega) (show 0 ≤ o0 ∧ o0 ≤ 20 by omega)
        have h3 : (addF (s0, alterF k s0, o0) a1 b).2 = 3 := hsc.elim id fun h => absurd hc (by rw [h.1]; decide)
        simp only [h3]
        refine W.seqK fun K13 hK13 => W.region ?_
        refine WO.go 14 (ds := [some 69, some 70, some 71, some 72, some 73, some 74, some 75, some 76, some 77, some 78, some 79, some 80, some 81, some 8]) rfl ?_
        simp only [sx, ty, Bool.false_eq_true, Int.reduceEq, Int.reduceLT, Nat.reduceAdd, Nat.reduceSub, Nat.reduceMul, Nat.reduceLT, Nat.reduceLeDiff, Nat.reduceEqDiff, List.reduceReplicate, reduceIte, beq_self_eq_true, bne_self_eq_false, Int.reduceBEq, Int.reduceBNe, Bool.or_false, Bool.false_or, Bool.not_false, Bool.not_true]
        with_reducible refine WO.nil ?_
        refine hK13 _ ?_; clear hK13
        refine W.ret ⟨by simp, _, rfl, fun ρ w1 hb => ?_⟩
        rfl
      · skip
        have hsc := scale_fact hkb hkb1 hfa hf1 (show 0 ≤ s0 ∧ s0 ≤ 6 by omega) (show 0 ≤ o0 ∧ o0 ≤ 20 by omega)
        have h3 : (addF (s0, alterF k s0, o0) a1 b).2 = 0 ∧ within 0 6 (addF (s0, alterF k s0, o0) a1 b).1.1 = true ∧ (addF (s0, alterF k s0, o0) a1 b).1.2.1 = alterF k1 (addF (s0, alterF k s0, o0) a1 b).1.1 := hsc.elim (fun h => absurd hc (by rw [h]; decide)) id
        simp only [h3.2.2]
        refine W.skip (hK11 _ ?_)
        refine W.seqK fun K14 hK14 => W.region ?_
        refine WO.go 3 (ds := []) rfl ?_
        simp only [sx, ty, Bool.false_eq_true, Int.reduceEq, Int.reduceLT, Nat.reduceAdd, Nat.reduceSub, Nat.reduceMul, Nat.reduceLT, Nat.reduceLeDiff, Nat.reduceEqDiff, List.reduceReplicate, reduceIte, beq_self_eq_true, bne_self_eq_false, Int.reduceBEq, Int.reduceBNe, Bool.or_false, Bool.false_or, Bool.not_false, Bool.not_true]
        refine WO.call (.tuple #[.int .i64 (alterF k1 (addF (s0, alterF k s0, o0) a1 b).1.1), .int .i64 0]) (ds := []) rfl rfl rfl rfl co10 (fun ρ w1 hb => Alter_call (hG.now (hb.first (by simp))) (AlterF_yes (by rw [hk1, h3.2.1]; rfl))) ?_
        refine WO.go 5 (ds := []) rfl ?_
        simp only [sx, ty, Bool.false_eq_true, Int.reduceEq, Int.reduceLT, Nat.reduceAdd, Nat.reduceSub, Nat.reduceMul, Nat.reduceLT, Nat.reduceLeDiff, Nat.reduceEqDiff, List.reduceReplicate, reduceIte, beq_self_eq_true, bne_self_eq_false, Int.reduceBEq, Int.reduceBNe, Bool.or_false, Bool.false_or, Bool.not_false, Bool.not_true]
        with_reducible refine WO.nil ?_
        refine hK14 _ ?_; clear hK14
        refine W.seqK fun K15 hK15 => W.region ?_
        refine WO.go 12 (ds := [some 89, some 90, some 91, some 92, some 93, some 94, some 95, some 96, some 97, some 98, some 99, some 8]) rfl ?_
        simp only [sx, ty, Bool.false_eq_true, Int.reduceEq, Int.reduceLT, Nat.reduceAdd, Nat.reduceSub, Nat.reduceMul, Nat.reduceLT, Nat.reduceLeDiff, Nat.reduceEqDiff, List.reduceReplicate, reduceIte, beq_self_eq_true, bne_self_eq_false, Int.reduceBEq, Int.reduceBNe, Bool.or_false, Bool.false_or, Bool.not_false, Bool.not_true]
        with_reducible refine WO.nil ?_
        refine hK15 _ ?_; clear hK15
        refine W.ret ⟨by simp, _, rfl, fun ρ w1 hb => ?_⟩
        rfl
end Go.Proofs.YtpkbghnjfjnoiaaDoor
