/-
  Codec: Get of the package: walk.
-/
import Derived.Test.YtnbfdncmlbegmaaC12
set_option linter.unusedVariables false
set_option linter.unusedSimpArgs false
set_option maxHeartbeats 4000000
namespace Go.Proofs.Ytnbfdncmlbegmaa
open Go Go.SX Go.RowKit

theorem GetF_read0 {b : List Int} (h : readF b = none) : GetF b = ([], 7) := by unfold GetF getF; rw [h]
theorem readR_n {b : List Int} (h : readF b = none) : readR b = (0, 0) := by unfold readR; rw [h]
theorem readR_s {b : List Int} {x : Int × Nat} (h : readF b = some x) : readR b = x := by unfold readR; rw [h]
/-- function 15 -/
theorem Get_spec {S : Nat → Prop} {w : World} {v : Value} {b : List Int} (hl : rBytes.rd S w [v] b) (hb8 : ∀ x, x ∈ b → isB x) : Gives Try.prog 15 #[v] w fun r w' =>
    ∃ x : Option Addr × Nat, r = .tuple #[.slice x.1 (GetF b).1.length x.2, .int .i64 (GetF b).2] ∧ rInts.rd (fun b => w.heap.size ≤ b) w' [.slice x.1 (GetF b).1.length x.2] (GetF b).1 := by
  obtain ⟨p, c, rfl, hc1, hc2⟩ := Rp.slice_val hl
  have hl0 : (Rp.slice rByte).rd (fun y => y < w.heap.size) w _ b := Rp.mono _ hl fun x _ h => h
  refine gives_of_caught [.val (.slice p b.length c)] 28 rfl rfl rfl rfl (by simp) rfl rfl ?_
  refine W.pure (ds := []) rfl fun K1 hK1 => ?_
  simp only [sx, ty, Bool.false_eq_true, Int.reduceEq, Int.reduceLT, Nat.reduceAdd, Nat.reduceSub, Nat.reduceMul, Nat.reduceLT, Nat.reduceLeDiff, Nat.reduceEqDiff, List.reduceReplicate, reduceIte, beq_self_eq_true, bne_self_eq_false, Int.reduceBEq, Int.reduceBNe, Bool.or_false, Bool.false_or, Bool.not_false, Bool.not_true, mbits, Int.reduceToNat, Int.reducePow, Int.toNat_natCast]; with_reducible refine hK1 _ ?_; clear hK1
  refine W.pinA (by simp [smallO, boxO]) fun β => ?_
  simp only [pinEn, pinOw, pinOw_box, den, denL, Nat.zero_add, Nat.reduceAdd]
  obtain ⟨bl, hbl⟩ : ∃ x, β 0 = x := ⟨_, rfl⟩
  obtain ⟨be, hbe⟩ : ∃ x, β 1 = x := ⟨_, rfl⟩
  simp only [hbl, hbe]
  refine W.seqK fun K2 hK2 => W.region ?_
  refine WO.defer (vs := [.pointer (some ⟨bl, 0, none⟩), .pointer (some ⟨be, 0, none⟩)]) (ds := []) rfl rfl rfl rfl ⟨_, rfl, fun _ => rfl⟩ ?_
  simp only [sx, ty, Bool.false_eq_true, Int.reduceEq, Int.reduceLT, Nat.reduceAdd, Nat.reduceSub, Nat.reduceMul, Nat.reduceLT, Nat.reduceLeDiff, Nat.reduceEqDiff, List.reduceReplicate, reduceIte, beq_self_eq_true, bne_self_eq_false, Int.reduceBEq, Int.reduceBNe, Bool.or_false, Bool.false_or, Bool.not_false, Bool.not_true, mbits, Int.reduceToNat, Int.reducePow, Int.toNat_natCast]
  with_reducible refine WO.nil ?_
  refine hK2 _ ?_; clear hK2
  refine W.pure (ds := []) rfl fun K3 hK3 => ?_
  simp only [sx, ty, Bool.false_eq_true, Int.reduceEq, Int.reduceLT, Nat.reduceAdd, Nat.reduceSub, Nat.reduceMul, Nat.reduceLT, Nat.reduceLeDiff, Nat.reduceEqDiff, List.reduceReplicate, reduceIte, beq_self_eq_true, bne_self_eq_false, Int.reduceBEq, Int.reduceBNe, Bool.or_false, Bool.false_or, Bool.not_false, Bool.not_true, mbits, Int.reduceToNat, Int.reducePow, Int.toNat_natCast]; with_reducible refine hK3 _ ?_; clear hK3
  refine W.pinA (by simp [smallO, boxO]) fun β => ?_
  simp only [pinEn, pinOw, pinOw_box, den, denL, Nat.zero_add, Nat.reduceAdd]
  obtain ⟨rb, hrb⟩ : ∃ x, β 2 = x := ⟨_, rfl⟩
  simp only [hrb]
  refine W.seqK fun K4 hK4 => W.region ?_
  refine WO.callP (k := 2) (fun x : Int × Nat × Option Addr × Nat => .int .i64 x.1) (fun x => rdO rb x.2.2 (b.drop x.2.1)) (fun _ => rdO rb (p, c) b) (fun x => readF b = some (x.1, x.2.1) ∧ x.2.1 ≤ b.length ∧ slcV 1 p c x.2.1 b.length = .slice x.2.2.1 (b.drop x.2.1).length x.2.2.2) (fun ch => readF b = none ∧ ch = brokenE) rfl (ds := []) rfl rfl rfl rfl co29 rfl (fun _ => rfl) (fun _ => rfl) (fun ρ w1 hb => next_spec (S := fun y => y < w.heap.size) (Rp.keep hl0 ((hb.at (S := fun _ => True) (s := w) (by simp)).mono fun _ _ _ => trivial)) (fun y h1 _ h2 => by have h9 : w.heap.size ≤ rb := own_new (w0 := w) hb (by simp) (k := 2) rfl rfl; omega) hb8 (box_heap (k := 2) hb rfl)) (fun x hx => ?_) fun ch hp => ?_
  rotate_left
  · obtain ⟨hn, rfl⟩ := hp
    simp only [andThen, inBlk, AQ]
    exact ⟨by simp [setOwn], bl, be, _, _, rfl, rfl, rfl, rfl, rfl, rfl, fun w' => by rw [GetF_read0 hn]; exact ⟨(none, 0), rfl, Rp.slice_nil (by omega)⟩⟩
  obtain ⟨n, k, p1, c1⟩ := x
  obtain ⟨hrd, hkl, hsl⟩ := hx
  simp only at hrd hkl hsl
  have hRe := readR_s hrd
  have hlk := Rp.slc (l := k) (h := b.length) hl0 hkl (Nat.le_refl _)
  rw [show slcV rByte.sz p c k b.length = .slice p1 (b.drop k).length c1 from hsl, List.take_of_length_le (by simp)] at hlk
  have hk0 := (readF_len hrd).1
  simp only [setOwn, setN, rdO]
  refine WO.go 1 (ds := []) rfl ?_
  simp only [sx, ty, Bool.false_eq_true, Int.reduceEq, Int.reduceLT, Nat.reduceAdd, Nat.reduceSub, Nat.reduceMul, Nat.reduceLT, Nat.reduceLeDiff, Nat.reduceEqDiff, List.reduceReplicate, reduceIte, beq_self_eq_true, bne_self_eq_false, Int.reduceBEq, Int.reduceBNe, Bool.or_false, Bool.false_or, Bool.not_false, Bool.not_true, mbits, Int.reduceToNat, Int.reducePow, Int.toNat_natCast]
  with_reducible refine WO.nil ?_
  refine hK4 _ ?_; clear hK4
  refine W.seqK fun K5 hK5 => ?_
  refine W.join 14 (.val (.bool (decide (n < 0 ∨ 4000 < n)))) [2, 3, 4, 5] (W.region ?_) ?_
  · skip
    refine WO.go 3 (ds := [some 9, some 10, some 11, some 12, some 13, some 14]) rfl ?_
    simp only [sx, ty, Bool.false_eq_true, Int.reduceEq, Int.reduceLT, Nat.reduceAdd, Nat.reduceSub, Nat.reduceMul, Nat.reduceLT, Nat.reduceLeDiff, Nat.reduceEqDiff, List.reduceReplicate, reduceIte, beq_self_eq_true, bne_self_eq_false, Int.reduceBEq, Int.reduceBNe, Bool.or_false, Bool.false_or, Bool.not_false, Bool.not_true, mbits, Int.reduceToNat, Int.reducePow, Int.toNat_natCast]
    refine WO.cases 11 _ rfl (fun hg11 => ?_) (fun hg11 => ?_)
    · skip
      refine WO.go 3 (ds := [some 9, some 10, some 11, some 12, some 13, some 14]) rfl ?_
      simp only [sx, ty, Bool.false_eq_true, Int.reduceEq, Int.reduceLT, Nat.reduceAdd, Nat.reduceSub, Nat.reduceMul, Nat.reduceLT, Nat.reduceLeDiff, Nat.reduceEqDiff, List.reduceReplicate, reduceIte, beq_self_eq_true, bne_self_eq_false, Int.reduceBEq, Int.reduceBNe, Bool.or_false, Bool.false_or, Bool.not_false, Bool.not_true, mbits, Int.reduceToNat, Int.reducePow, Int.toNat_natCast]
      with_reducible refine WO.nil ?_
      refine ⟨rfl, ?_, ⟨_, rfl⟩, by simp [Own.bnd, bndL, bnd, boxO], by simp⟩
      try rw [hg11]
      simp [getE, bnd, keepE]
      try (simp_all; try omega)
    · skip
      refine WO.go 3 (ds := [some 9, some 10, some 11, some 12, some 13, some 14]) rfl ?_
      simp only [sx, ty, Bool.false_eq_true, Int.reduceEq, Int.reduceLT, Nat.reduceAdd, Nat.reduceSub, Nat.reduceMul, Nat.reduceLT, Nat.reduceLeDiff, Nat.reduceEqDiff, List.reduceReplicate, reduceIte, beq_self_eq_true, bne_self_eq_false, Int.reduceBEq, Int.reduceBNe, Bool.or_false, Bool.false_or, Bool.not_false, Bool.not_true, mbits, Int.reduceToNat, Int.reducePow, Int.toNat_natCast]
      with_reducible refine WO.nil ?_
      refine ⟨rfl, ?_, ⟨_, rfl⟩, by simp [Own.bnd, bndL, bnd, boxO], by simp⟩
      try rw [hg11]
      simp [getE, bnd, keepE]
      try (simp_all; try omega)
  · simp only [sx, ty, Bool.false_eq_true, Int.reduceEq, Int.reduceLT, Nat.reduceAdd, Nat.reduceSub, Nat.reduceMul, Nat.reduceLT, Nat.reduceLeDiff, Nat.reduceEqDiff, List.reduceReplicate, reduceIte, sxk, beq_self_eq_true, bne_self_eq_false, Int.reduceBEq, Int.reduceBNe, Bool.or_false, Bool.false_or, Bool.not_false, Bool.not_true, mbits, Int.reduceToNat, Int.reducePow, Int.toNat_natCast]
    refine W.cond rfl rfl (fun hc => ?_) (fun hc => ?_)
    · skip
      have h0 : n < 0 ∨ 4000 < n := by simpa using hc
      refine W.seqK fun K7 hK7 => W.region ?_
      refine WO.storeBox (k := 0) (i := 0) rfl (ds := []) rfl rfl rfl rfl rfl (by simp [Addr.add_mid]) (by simp) rfl rfl sz22 ?_
      simp only [sx, ty, Bool.false_eq_true, Int.reduceEq, Int.reduceLT, Nat.reduceAdd, Nat.reduceSub, Nat.reduceMul, Nat.reduceLT, Nat.reduceLeDiff, Nat.reduceEqDiff, List.reduceReplicate, reduceIte, beq_self_eq_true, bne_self_eq_false, Int.reduceBEq, Int.reduceBNe, Bool.or_false, Bool.false_or, Bool.not_false, Bool.not_true, mbits, Int.reduceToNat, Int.reducePow, Int.toNat_natCast]
      refine WO.storeBox (k := 1) (i := 0) rfl (ds := []) rfl rfl rfl rfl rfl (by simp [Addr.add_mid]) (by simp) rfl rfl sz25 ?_
      simp only [sx, ty, Bool.false_eq_true, Int.reduceEq, Int.reduceLT, Nat.reduceAdd, Nat.reduceSub, Nat.reduceMul, Nat.reduceLT, Nat.reduceLeDiff, Nat.reduceEqDiff, List.reduceReplicate, reduceIte, beq_self_eq_true, bne_self_eq_false, Int.reduceBEq, Int.reduceBNe, Bool.or_false, Bool.false_or, Bool.not_false, Bool.not_true, mbits, Int.reduceToNat, Int.reducePow, Int.toNat_natCast]
      with_reducible refine WO.nil ?_
      refine hK7 _ ?_; clear hK7
      refine W.ret ?_
      refine ⟨by simp, bl, be, _, _, rfl, rfl, rfl, rfl, rfl, ?_⟩
      try simp only [sx, ty, Bool.false_eq_true, Int.reduceEq, Int.reduceLT, Nat.reduceAdd, Nat.reduceSub, Nat.reduceMul, Nat.reduceLT, Nat.reduceLeDiff, Nat.reduceEqDiff, List.reduceReplicate, reduceIte, sxr, beq_self_eq_true, bne_self_eq_false, Int.reduceBEq, Int.reduceBNe, Bool.or_false, Bool.false_or, Bool.not_false, Bool.not_true, mbits, Int.reduceToNat, Int.reducePow, Int.toNat_natCast]
      intro ρ w1 hb
      rw [GetF_bad hRe (.inr h0)]
      exact ⟨(none, 0), rfl, Rp.slice_nil (by omega)⟩
    · skip
      have h0 : ¬ (k = 0 ∨ n < 0 ∨ 4000 < n) := by
        have h9 : ¬ (n < 0 ∨ 4000 < n) := by simpa using hc
        omega
      refine W.skip (hK5 _ ?_)
      refine W.seqK fun K8 hK8 => ?_
      refine W.pure (ds := []) rfl fun K9 hK9 => ?_
      simp only [sx, ty, Bool.false_eq_true, Int.reduceEq, Int.reduceLT, Nat.reduceAdd, Nat.reduceSub, Nat.reduceMul, Nat.reduceLT, Nat.reduceLeDiff, Nat.reduceEqDiff, List.reduceReplicate, reduceIte, beq_self_eq_true, bne_self_eq_false, Int.reduceBEq, Int.reduceBNe, Bool.or_false, Bool.false_or, Bool.not_false, Bool.not_true, mbits, Int.reduceToNat, Int.reducePow, Int.toNat_natCast]; with_reducible refine hK9 _ ?_; clear hK9
      refine W.block ?_
      refine W.ownNil 3 1 ?_
      simp only [sx, ty, Bool.false_eq_true, Int.reduceEq, Int.reduceLT, Nat.reduceAdd, Nat.reduceSub, Nat.reduceMul, Nat.reduceLT, Nat.reduceLeDiff, Nat.reduceEqDiff, List.reduceReplicate, reduceIte]
      refine W.loopO (X := Nat × Nat × List Int × (Option Addr × Nat) × (Option Addr × Nat)) [2, 3, 4, 15] (fun x => [(16, .val (.int .i64 x.1))]) (fun x => [boxO 22 bl [.slice x.2.2.2.1.1 x.2.2.1.length x.2.2.2.1.2], boxO 25 be [.int .i64 0], rdO rb x.2.2.2.2 (b.drop x.2.1), OI x.2.2.1 x.2.2.2.1]) (fun x => [((fun _ => True), w)]) (fun x => GetI b n.toNat x.1 x.2.1 x.2.2.1 ∧ rBytes.rd (fun y => y < w.heap.size) w [.slice x.2.2.2.2.1 (b.drop x.2.1).length x.2.2.2.2.2] (b.drop x.2.1)) (fun x => n.toNat - x.1) (0, k, [], (none, 0), (p1, c1)) ?_ ?_ ?_
      · exact ⟨rfl, by simp [getE, bnd, keepE], ⟨[], by simp [OI, rdO]⟩, by simp [Own.bnd, bndL, bnd, boxO, OI, rdO], by simp⟩
      · skip
        exact ⟨GetI.start hRe h0, hlk⟩
      · rintro ⟨i, a, l, ⟨p3, c3⟩, ⟨pr, cr⟩⟩ ⟨hI, hla⟩
        simp only at hI hla
        have hal := hI.al
        have hil := hI.il
        have hll := hI.ll
        simp only [sx, ty, Bool.false_eq_true, Int.reduceEq, Int.reduceLT, Nat.reduceAdd, Nat.reduceSub, Nat.reduceMul, Nat.reduceLT, Nat.reduceLeDiff, Nat.reduceEqDiff, List.reduceReplicate, reduceIte, sxk, beq_self_eq_true, bne_self_eq_false, Int.reduceBEq, Int.reduceBNe, Bool.or_false, Bool.false_or, Bool.not_false, Bool.not_true, mbits, Int.reduceToNat, Int.reducePow, Int.toNat_natCast]
        refine W.pure (ds := []) rfl fun K10 hK10 => ?_
        simp only [sx, ty, Bool.false_eq_true, Int.reduceEq, Int.reduceLT, Nat.reduceAdd, Nat.reduceSub, Nat.reduceMul, Nat.reduceLT, Nat.reduceLeDiff, Nat.reduceEqDiff, List.reduceReplicate, reduceIte, beq_self_eq_true, bne_self_eq_false, Int.reduceBEq, Int.reduceBNe, Bool.or_false, Bool.false_or, Bool.not_false, Bool.not_true, mbits, Int.reduceToNat, Int.reducePow, Int.toNat_natCast]; with_reducible refine hK10 _ ?_; clear hK10
        refine W.seqK fun K11 hK11 => ?_
        refine W.cond rfl rfl (fun hc => ?_) (fun hc => ?_)
        · skip
          have hlt : i < n.toNat := by simp at hc; omega
          refine W.skip (hK11 _ ?_)
          refine W.seqK fun K12 hK12 => ?_
          refine W.block ?_
          refine W.regionA mixed ?_
          refine WA.step (f := 4) [0, 1] (by kernel_rfl) (by simp) (fun j hj => ?_)
          simp only [List.mem_cons, List.not_mem_nil, or_false] at hj
          rcases hj with rfl | rfl
          · refine ⟨_, rfl, ?_⟩
            refine WO.loadBox (k := 0) (i := 0) (sz := 1) rfl (ds := []) rfl rfl rfl rfl rfl (by simp [Addr.add_mid]) (by simp) agg22 sz22 (.inr rfl) ?_
            simp only [List.drop_succ_cons, List.drop_zero, List.take_succ_cons, List.take_zero, ofCells, Bool.false_eq_true, if_false, List.headD_cons]
            simp only [sx, ty, Bool.false_eq_true, Int.reduceEq, Int.reduceLT, Nat.reduceAdd, Nat.reduceSub, Nat.reduceMul, Nat.reduceLT, Nat.reduceLeDiff, Nat.reduceEqDiff, List.reduceReplicate, reduceIte, beq_self_eq_true, bne_self_eq_false, Int.reduceBEq, Int.reduceBNe, Bool.or_false, Bool.false_or, Bool.not_false, Bool.not_true, mbits, Int.reduceToNat, Int.reducePow, Int.toNat_natCast]
            with_reducible refine WO.nil ?_
            refine WA.step (f := 3) [1] (by kernel_rfl) (by simp) (fun j hj => ?_)
            simp only [List.mem_cons, List.not_mem_nil, or_false] at hj
            subst hj
            refine ⟨_, rfl, ?_⟩
            refine WO.callP (k := 2) (fun x : Int × Nat × Option Addr × Nat => .int .i64 x.1) (fun x => rdO rb x.2.2 ((b.drop a).drop x.2.1)) (fun _ => rdO rb (pr, cr) (b.drop a)) (fun x => readF (b.drop a) = some (x.1, x.2.1) ∧ x.2.1 ≤ (b.drop a).length ∧ slcV 1 pr cr x.2.1 (b.drop a).length = .slice x.2.2.1 ((b.drop a).drop x.2.1).length x.2.2.2) (fun ch => readF (b.drop a) = none ∧ ch = brokenE) rfl (ds := []) rfl rfl rfl rfl co29 rfl (fun _ => rfl) (fun _ => rfl) (fun ρ w1 hb => next_spec (S := fun y => y < w.heap.size) (Rp.keep hla ((hb.at (S := fun _ => True) (s := w) (by simp)).mono fun _ _ _ => trivial)) (fun y h1 _ h2 => by have h9 : w.heap.size ≤ rb := own_new (w0 := w) hb (by simp) (k := 2) rfl rfl; omega) (fun x hx => hb8 x (List.mem_of_mem_drop hx)) (box_heap (k := 2) hb rfl)) (fun x hx => ?_) fun ch hp => ?_
            rotate_left
            · obtain ⟨hn, rfl⟩ := hp
              simp only [andThen, inBlk, AQ]
              exact ⟨by simp [setOwn], bl, be, _, _, rfl, rfl, rfl, rfl, rfl, rfl, fun w' => by rw [hI.none hlt (by rw [readR_n hn])]; exact ⟨(none, 0), rfl, Rp.slice_nil (by omega)⟩⟩
            obtain ⟨v, k2, p5, c5⟩ := x
            obtain ⟨hrd2, hkl2, hsl2⟩ := hx
            simp only at hrd2 hkl2 hsl2
            have hR2 := readR_s hrd2
            have hz2 : ¬ (readR (b.drop a)).2 = 0 := by rw [hR2]; have := readF_len hrd2; simp only; omega
            have hI2 := hI.more hb8 hlt hz2
            rw [hR2] at hI2
            simp only at hI2
            have hlb2 := Rp.slc (l := k2) (h := (b.drop a).length) hla hkl2 (Nat.le_refl _)
            rw [show slcV rByte.sz pr cr k2 (b.drop a).length = .slice p5 ((b.drop a).drop k2).length c5 from hsl2, List.take_of_length_le (by rw [List.length_drop (l := b.drop a)]; exact Nat.le_refl _), List.drop_drop] at hlb2
            simp only [sx, ty, Bool.false_eq_true, Int.reduceEq, Int.reduceLT, Nat.reduceAdd, Nat.reduceSub, Nat.reduceMul, Nat.reduceLT, Nat.reduceLeDiff, Nat.reduceEqDiff, List.reduceReplicate, reduceIte, beq_self_eq_true, bne_self_eq_false, Int.reduceBEq, Int.reduceBNe, Bool.or_false, Bool.false_or, Bool.not_false, Bool.not_true, mbits, Int.reduceToNat, Int.reducePow, Int.toNat_natCast]
            try simp only [setOwn, setN]
            try simp only [List.drop_drop]
            with_reducible refine WO.nil ?_
            refine WA.step (f := 2) [2] (by kernel_rfl) (by simp) (fun j hj => ?_)
            simp only [List.mem_cons, List.not_mem_nil, or_false] at hj
            subst hj
            refine ⟨_, rfl, ?_⟩
            refine WO.go 1 (ds := []) rfl ?_
            simp only [sx, ty, Bool.false_eq_true, Int.reduceEq, Int.reduceLT, Nat.reduceAdd, Nat.reduceSub, Nat.reduceMul, Nat.reduceLT, Nat.reduceLeDiff, Nat.reduceEqDiff, List.reduceReplicate, reduceIte, beq_self_eq_true, bne_self_eq_false, Int.reduceBEq, Int.reduceBNe, Bool.or_false, Bool.false_or, Bool.not_false, Bool.not_true, mbits, Int.reduceToNat, Int.reducePow, Int.toNat_natCast]
            with_reducible refine WO.nil ?_
            refine WA.step (f := 1) [3] (by kernel_rfl) (by simp) (fun j hj => ?_)
            simp only [List.mem_cons, List.not_mem_nil, or_false] at hj
            subst hj
            refine ⟨_, rfl, ?_⟩
            refine WO.append (k := 3) (m := 1) [.int .i64 v] (ds := []) rfl rfl rfl rfl rfl rfl rfl ek22 (news_own (k2 := 4) rfl fun _ => rfl) rfl (by simp [Value.oneCell']) (by rw [maxLen_eq]; omega) (by omega) fun p6 c6 => ?_
            simp only [sx, ty, Bool.false_eq_true, Int.reduceEq, Int.reduceLT, Nat.reduceAdd, Nat.reduceSub, Nat.reduceMul, Nat.reduceLT, Nat.reduceLeDiff, Nat.reduceEqDiff, List.reduceReplicate, reduceIte, beq_self_eq_true, bne_self_eq_false, Int.reduceBEq, Int.reduceBNe, Bool.or_false, Bool.false_or, Bool.not_false, Bool.not_true, mbits, Int.reduceToNat, Int.reducePow, Int.toNat_natCast]
            with_reducible refine WO.nil ?_
            refine WA.step (f := 0) [4] (by kernel_rfl) (by simp) (fun j hj => ?_)
            simp only [List.mem_cons, List.not_mem_nil, or_false] at hj
            subst hj
            refine ⟨_, rfl, ?_⟩
            refine WO.storeBox (k := 0) (i := 0) rfl (ds := []) rfl rfl rfl rfl rfl (by simp [Addr.add_mid]) (by simp) rfl rfl sz22 ?_
            simp only [sx, ty, Bool.false_eq_true, Int.reduceEq, Int.reduceLT, Nat.reduceAdd, Nat.reduceSub, Nat.reduceMul, Nat.reduceLT, Nat.reduceLeDiff, Nat.reduceEqDiff, List.reduceReplicate, reduceIte, beq_self_eq_true, bne_self_eq_false, Int.reduceBEq, Int.reduceBNe, Bool.or_false, Bool.false_or, Bool.not_false, Bool.not_true, mbits, Int.reduceToNat, Int.reducePow, Int.toNat_natCast]
            with_reducible refine WO.nil ?_
            refine WA.nil (by kernel_rfl) ?_
            refine hK12 _ ?_
            refine W.region ?_
            refine WO.go 2 (ds := []) rfl ?_
            simp only [sx, ty, Bool.false_eq_true, Int.reduceEq, Int.reduceLT, Nat.reduceAdd, Nat.reduceSub, Nat.reduceMul, Nat.reduceLT, Nat.reduceLeDiff, Nat.reduceEqDiff, List.reduceReplicate, reduceIte, beq_self_eq_true, bne_self_eq_false, Int.reduceBEq, Int.reduceBNe, Bool.or_false, Bool.false_or, Bool.not_false, Bool.not_true, mbits, Int.reduceToNat, Int.reducePow, Int.toNat_natCast]
            with_reducible refine WO.nil ?_
            refine ⟨(i + 1, a + k2, l ++ [v], (p6, c6), (p5, c5)), ⟨hI2, hlb2⟩, by simp only; omega, rfl, by simp [getE, bnd, keepE, wrap_succ (show i + 1 ≤ 9223372036854775807 by omega)], ⟨[.cells 3 [.val (.int .i64 v)]], by simp [OI, List.drop_drop]⟩, by simp [Own.bnd, bndL, bnd, boxO, OI, rdO], by simp⟩
          · refine ⟨_, rfl, ?_⟩
            refine WO.callP (k := 2) (fun x : Int × Nat × Option Addr × Nat => .int .i64 x.1) (fun x => rdO rb x.2.2 ((b.drop a).drop x.2.1)) (fun _ => rdO rb (pr, cr) (b.drop a)) (fun x => readF (b.drop a) = some (x.1, x.2.1) ∧ x.2.1 ≤ (b.drop a).length ∧ slcV 1 pr cr x.2.1 (b.drop a).length = .slice x.2.2.1 ((b.drop a).drop x.2.1).length x.2.2.2) (fun ch => readF (b.drop a) = none ∧ ch = brokenE) rfl (ds := []) rfl rfl rfl rfl co29 rfl (fun _ => rfl) (fun _ => rfl) (fun ρ w1 hb => next_spec (S := fun y => y < w.heap.size) (Rp.keep hla ((hb.at (S := fun _ => True) (s := w) (by simp)).mono fun _ _ _ => trivial)) (fun y h1 _ h2 => by have h9 : w.heap.size ≤ rb := own_new (w0 := w) hb (by simp) (k := 2) rfl rfl; omega) (fun x hx => hb8 x (List.mem_of_mem_drop hx)) (box_heap (k := 2) hb rfl)) (fun x hx => ?_) fun ch hp => ?_
            rotate_left
            · obtain ⟨hn, rfl⟩ := hp
              simp only [andThen, inBlk, AQ]
              exact ⟨by simp [setOwn], bl, be, _, _, rfl, rfl, rfl, rfl, rfl, rfl, fun w' => by rw [hI.none hlt (by rw [readR_n hn])]; exact ⟨(none, 0), rfl, Rp.slice_nil (by omega)⟩⟩
            obtain ⟨v, k2, p5, c5⟩ := x
            obtain ⟨hrd2, hkl2, hsl2⟩ := hx
            simp only at hrd2 hkl2 hsl2
            have hR2 := readR_s hrd2
            have hz2 : ¬ (readR (b.drop a)).2 = 0 := by rw [hR2]; have := readF_len hrd2; simp only; omega
            have hI2 := hI.more hb8 hlt hz2
            rw [hR2] at hI2
            simp only at hI2
            have hlb2 := Rp.slc (l := k2) (h := (b.drop a).length) hla hkl2 (Nat.le_refl _)
            rw [show slcV rByte.sz pr cr k2 (b.drop a).length = .slice p5 ((b.drop a).drop k2).length c5 from hsl2, List.take_of_length_le (by rw [List.length_drop (l := b.drop a)]; exact Nat.le_refl _), List.drop_drop] at hlb2
            simp only [sx, ty, Bool.false_eq_true, Int.reduceEq, Int.reduceLT, Nat.reduceAdd, Nat.reduceSub, Nat.reduceMul, Nat.reduceLT, Nat.reduceLeDiff, Nat.reduceEqDiff, List.reduceReplicate, reduceIte, beq_self_eq_true, bne_self_eq_false, Int.reduceBEq, Int.reduceBNe, Bool.or_false, Bool.false_or, Bool.not_false, Bool.not_true, mbits, Int.reduceToNat, Int.reducePow, Int.toNat_natCast]
            try simp only [setOwn, setN]
            try simp only [List.drop_drop]
            with_reducible refine WO.nil ?_
            refine WA.step (f := 3) [0, 2] (by kernel_rfl) (by simp) (fun j hj => ?_)
            simp only [List.mem_cons, List.not_mem_nil, or_false] at hj
            rcases hj with rfl | rfl
            · refine ⟨_, rfl, ?_⟩
              refine WO.loadBox (k := 0) (i := 0) (sz := 1) rfl (ds := []) rfl rfl rfl rfl rfl (by simp [Addr.add_mid]) (by simp) agg22 sz22 (.inr rfl) ?_
              simp only [List.drop_succ_cons, List.drop_zero, List.take_succ_cons, List.take_zero, ofCells, Bool.false_eq_true, if_false, List.headD_cons]
              simp only [sx, ty, Bool.false_eq_true, Int.reduceEq, Int.reduceLT, Nat.reduceAdd, Nat.reduceSub, Nat.reduceMul, Nat.reduceLT, Nat.reduceLeDiff, Nat.reduceEqDiff, List.reduceReplicate, reduceIte, beq_self_eq_true, bne_self_eq_false, Int.reduceBEq, Int.reduceBNe, Bool.or_false, Bool.false_or, Bool.not_false, Bool.not_true, mbits, Int.reduceToNat, Int.reducePow, Int.toNat_natCast]
              with_reducible refine WO.nil ?_
              refine WA.step (f := 2) [2] (by kernel_rfl) (by simp) (fun j hj => ?_)
              simp only [List.mem_cons, List.not_mem_nil, or_false] at hj
              subst hj
              refine ⟨_, rfl, ?_⟩
              refine WO.go 1 (ds := []) rfl ?_
              simp only [sx, ty, Bool.false_eq_true, Int.reduceEq, Int.reduceLT, Nat.reduceAdd, Nat.reduceSub, Nat.reduceMul, Nat.reduceLT, Nat.reduceLeDiff, Nat.reduceEqDiff, List.reduceReplicate, reduceIte, beq_self_eq_true, bne_self_eq_false, Int.reduceBEq, Int.reduceBNe, Bool.or_false, Bool.false_or, Bool.not_false, Bool.not_true, mbits, Int.reduceToNat, Int.reducePow, Int.toNat_natCast]
              with_reducible refine WO.nil ?_
              refine WA.step (f := 1) [3] (by kernel_rfl) (by simp) (fun j hj => ?_)
              simp only [List.mem_cons, List.not_mem_nil, or_false] at hj
              subst hj
              refine ⟨_, rfl, ?_⟩
              refine WO.append (k := 3) (m := 1) [.int .i64 v] (ds := []) rfl rfl rfl rfl rfl rfl rfl ek22 (news_own (k2 := 4) rfl fun _ => rfl) rfl (by simp [Value.oneCell']) (by rw [maxLen_eq]; omega) (by omega) fun p6 c6 => ?_
              simp only [sx, ty, Bool.false_eq_true, Int.reduceEq, Int.reduceLT, Nat.reduceAdd, Nat.reduceSub, Nat.reduceMul, Nat.reduceLT, Nat.reduceLeDiff, Nat.reduceEqDiff, List.reduceReplicate, reduceIte, beq_self_eq_true, bne_self_eq_false, Int.reduceBEq, Int.reduceBNe, Bool.or_false, Bool.false_or, Bool.not_false, Bool.not_true, mbits, Int.reduceToNat, Int.reducePow, Int.toNat_natCast]
              with_reducible refine WO.nil ?_
              refine WA.step (f := 0) [4] (by kernel_rfl) (by simp) (fun j hj => ?_)
              simp only [List.mem_cons, List.not_mem_nil, or_false] at hj
              subst hj
              refine ⟨_, rfl, ?_⟩
              refine WO.storeBox (k := 0) (i := 0) rfl (ds := []) rfl rfl rfl rfl rfl (by simp [Addr.add_mid]) (by simp) rfl rfl sz22 ?_
              simp only [sx, ty, Bool.false_eq_true, Int.reduceEq, Int.reduceLT, Nat.reduceAdd, Nat.reduceSub, Nat.reduceMul, Nat.reduceLT, Nat.reduceLeDiff, Nat.reduceEqDiff, List.reduceReplicate, reduceIte, beq_self_eq_true, bne_self_eq_false, Int.reduceBEq, Int.reduceBNe, Bool.or_false, Bool.false_or, Bool.not_false, Bool.not_true, mbits, Int.reduceToNat, Int.reducePow, Int.toNat_natCast]
              with_reducible refine WO.nil ?_
              refine WA.nil (by kernel_rfl) ?_
              refine hK12 _ ?_
              refine W.region ?_
              refine WO.go 2 (ds := []) rfl ?_
              simp only [sx, ty, Bool.false_eq_true, Int.reduceEq, Int.reduceLT, Nat.reduceAdd, Nat.reduceSub, Nat.reduceMul, Nat.reduceLT, Nat.reduceLeDiff, Nat.reduceEqDiff, List.reduceReplicate, reduceIte, beq_self_eq_true, bne_self_eq_false, Int.reduceBEq, Int.reduceBNe, Bool.or_false, Bool.false_or, Bool.not_false, Bool.not_true, mbits, Int.reduceToNat, Int.reducePow, Int.toNat_natCast]
              with_reducible refine WO.nil ?_
              refine ⟨(i + 1, a + k2, l ++ [v], (p6, c6), (p5, c5)), ⟨hI2, hlb2⟩, by simp only; omega, rfl, by simp [getE, bnd, keepE, wrap_succ (show i + 1 ≤ 9223372036854775807 by omega)], ⟨[.cells 3 [.val (.int .i64 v)]], by simp [OI, List.drop_drop]⟩, by simp [Own.bnd, bndL, bnd, boxO, OI, rdO], by simp⟩
            · refine ⟨_, rfl, ?_⟩
              refine WO.go 1 (ds := []) rfl ?_
              simp only [sx, ty, Bool.false_eq_true, Int.reduceEq, Int.reduceLT, Nat.reduceAdd, Nat.reduceSub, Nat.reduceMul, Nat.reduceLT, Nat.reduceLeDiff, Nat.reduceEqDiff, List.reduceReplicate, reduceIte, beq_self_eq_true, bne_self_eq_false, Int.reduceBEq, Int.reduceBNe, Bool.or_false, Bool.false_or, Bool.not_false, Bool.not_true, mbits, Int.reduceToNat, Int.reducePow, Int.toNat_natCast]
              with_reducible refine WO.nil ?_
              refine WA.step (f := 2) [0] (by kernel_rfl) (by simp) (fun j hj => ?_)
              simp only [List.mem_cons, List.not_mem_nil, or_false] at hj
              subst hj
              refine ⟨_, rfl, ?_⟩
              refine WO.loadBox (k := 0) (i := 0) (sz := 1) rfl (ds := []) rfl rfl rfl rfl rfl (by simp [Addr.add_mid]) (by simp) agg22 sz22 (.inr rfl) ?_
              simp only [List.drop_succ_cons, List.drop_zero, List.take_succ_cons, List.take_zero, ofCells, Bool.false_eq_true, if_false, List.headD_cons]
              simp only [sx, ty, Bool.false_eq_true, Int.reduceEq, Int.reduceLT, Nat.reduceAdd, Nat.reduceSub, Nat.reduceMul, Nat.reduceLT, Nat.reduceLeDiff, Nat.reduceEqDiff, List.reduceReplicate, reduceIte, beq_self_eq_true, bne_self_eq_false, Int.reduceBEq, Int.reduceBNe, Bool.or_false, Bool.false_or, Bool.not_false, Bool.not_true, mbits, Int.reduceToNat, Int.reducePow, Int.toNat_natCast]
              with_reducible refine WO.nil ?_
              refine WA.step (f := 1) [3] (by kernel_rfl) (by simp) (fun j hj => ?_)
              simp only [List.mem_cons, List.not_mem_nil, or_false] at hj
              subst hj
              refine ⟨_, rfl, ?_⟩
              refine WO.append (k := 3) (m := 1) [.int .i64 v] (ds := []) rfl rfl rfl rfl rfl rfl rfl ek22 (news_own (k2 := 4) rfl fun _ => rfl) rfl (by simp [Value.oneCell']) (by rw [maxLen_eq]; omega) (by omega) fun p6 c6 => ?_
              simp only [sx, ty, Bool.false_eq_true, Int.reduceEq, Int.reduceLT, Nat.reduceAdd, Nat.reduceSub, Nat.reduceMul, Nat.reduceLT, Nat.reduceLeDiff, Nat.reduceEqDiff, List.reduceReplicate, reduceIte, beq_self_eq_true, bne_self_eq_false, Int.reduceBEq, Int.reduceBNe, Bool.or_false, Bool.false_or, Bool.not_false, Bool.not_true, mbits, Int.reduceToNat, Int.reducePow, Int.toNat_natCast]
              with_reducible refine WO.nil ?_
              refine WA.step (f := 0) [4] (by kernel_rfl) (by simp) (fun j hj => ?_)
              simp only [List.mem_cons, List.not_mem_nil, or_false] at hj
              subst hj
              refine ⟨_, rfl, ?_⟩
              refine WO.storeBox (k := 0) (i := 0) rfl (ds := []) rfl rfl rfl rfl rfl (by simp [Addr.add_mid]) (by simp) rfl rfl sz22 ?_
              simp only [sx, ty, Bool.false_eq_true, Int.reduceEq, Int.reduceLT, Nat.reduceAdd, Nat.reduceSub, Nat.reduceMul, Nat.reduceLT, Nat.reduceLeDiff, Nat.reduceEqDiff, List.reduceReplicate, reduceIte, beq_self_eq_true, bne_self_eq_false, Int.reduceBEq, Int.reduceBNe, Bool.or_false, Bool.false_or, Bool.not_false, Bool.not_true, mbits, Int.reduceToNat, Int.reducePow, Int.toNat_natCast]
              with_reducible refine WO.nil ?_
              refine WA.nil (by kernel_rfl) ?_
              refine hK12 _ ?_
              refine W.region ?_
              refine WO.go 2 (ds := []) rfl ?_
              simp only [sx, ty, Bool.false_eq_true, Int.reduceEq, Int.reduceLT, Nat.reduceAdd, Nat.reduceSub, Nat.reduceMul, Nat.reduceLT, Nat.reduceLeDiff, Nat.reduceEqDiff, List.reduceReplicate, reduceIte, beq_self_eq_true, bne_self_eq_false, Int.reduceBEq, Int.reduceBNe, Bool.or_false, Bool.false_or, Bool.not_false, Bool.not_true, mbits, Int.reduceToNat, Int.reducePow, Int.toNat_natCast]
              with_reducible refine WO.nil ?_
              refine ⟨(i + 1, a + k2, l ++ [v], (p6, c6), (p5, c5)), ⟨hI2, hlb2⟩, by simp only; omega, rfl, by simp [getE, bnd, keepE, wrap_succ (show i + 1 ≤ 9223372036854775807 by omega)], ⟨[.cells 3 [.val (.int .i64 v)]], by simp [OI, List.drop_drop]⟩, by simp [Own.bnd, bndL, bnd, boxO, OI, rdO], by simp⟩
        · skip
          obtain rfl : i = n.toNat := Nat.le_antisymm hil (by simp at hc; omega)
          refine W.exit (hK8 _ ?_)
          refine W.seqK fun K13 hK13 => ?_
          refine W.seqK fun K14 hK14 => W.region ?_
          refine WO.go 1 (ds := []) rfl ?_
          simp only [sx, ty, Bool.false_eq_true, Int.reduceEq, Int.reduceLT, Nat.reduceAdd, Nat.reduceSub, Nat.reduceMul, Nat.reduceLT, Nat.reduceLeDiff, Nat.reduceEqDiff, List.reduceReplicate, reduceIte, beq_self_eq_true, bne_self_eq_false, Int.reduceBEq, Int.reduceBNe, Bool.or_false, Bool.false_or, Bool.not_false, Bool.not_true, mbits, Int.reduceToNat, Int.reducePow, Int.toNat_natCast]
          refine WO.loadBox (k := 2) (i := 0) (sz := 1) rfl (ds := []) rfl rfl rfl rfl rfl (by simp [Addr.add_mid]) (by simp) agg23 sz23 (.inr rfl) ?_
          simp only [List.drop_succ_cons, List.drop_zero, List.take_succ_cons, List.take_zero, ofCells, Bool.false_eq_true, if_false, List.headD_cons]
          refine WO.go 2 (ds := []) rfl ?_
          simp only [sx, ty, Bool.false_eq_true, Int.reduceEq, Int.reduceLT, Nat.reduceAdd, Nat.reduceSub, Nat.reduceMul, Nat.reduceLT, Nat.reduceLeDiff, Nat.reduceEqDiff, List.reduceReplicate, reduceIte, beq_self_eq_true, bne_self_eq_false, Int.reduceBEq, Int.reduceBNe, Bool.or_false, Bool.false_or, Bool.not_false, Bool.not_true, mbits, Int.reduceToNat, Int.reducePow, Int.toNat_natCast]
          with_reducible refine WO.nil ?_
          refine hK14 _ ?_; clear hK14
          refine W.cond rfl rfl (fun hc => ?_) (fun hc => ?_)
          · skip
            have hne : a ≠ b.length := by simp at hc; omega
            refine W.seqK fun K15 hK15 => W.region ?_
            refine WO.storeBox (k := 0) (i := 0) rfl (ds := []) rfl rfl rfl rfl rfl (by simp [Addr.add_mid]) (by simp) rfl rfl sz22 ?_
            simp only [sx, ty, Bool.false_eq_true, Int.reduceEq, Int.reduceLT, Nat.reduceAdd, Nat.reduceSub, Nat.reduceMul, Nat.reduceLT, Nat.reduceLeDiff, Nat.reduceEqDiff, List.reduceReplicate, reduceIte, beq_self_eq_true, bne_self_eq_false, Int.reduceBEq, Int.reduceBNe, Bool.or_false, Bool.false_or, Bool.not_false, Bool.not_true, mbits, Int.reduceToNat, Int.reducePow, Int.toNat_natCast]
            refine WO.storeBox (k := 1) (i := 0) rfl (ds := []) rfl rfl rfl rfl rfl (by simp [Addr.add_mid]) (by simp) rfl rfl sz25 ?_
            simp only [sx, ty, Bool.false_eq_true, Int.reduceEq, Int.reduceLT, Nat.reduceAdd, Nat.reduceSub, Nat.reduceMul, Nat.reduceLT, Nat.reduceLeDiff, Nat.reduceEqDiff, List.reduceReplicate, reduceIte, beq_self_eq_true, bne_self_eq_false, Int.reduceBEq, Int.reduceBNe, Bool.or_false, Bool.false_or, Bool.not_false, Bool.not_true, mbits, Int.reduceToNat, Int.reducePow, Int.toNat_natCast]
            with_reducible refine WO.nil ?_
            refine hK15 _ ?_; clear hK15
            refine W.ret ?_
            refine ⟨by simp, bl, be, _, _, rfl, rfl, rfl, rfl, rfl, ?_⟩
            try simp only [sx, ty, Bool.false_eq_true, Int.reduceEq, Int.reduceLT, Nat.reduceAdd, Nat.reduceSub, Nat.reduceMul, Nat.reduceLT, Nat.reduceLeDiff, Nat.reduceEqDiff, List.reduceReplicate, reduceIte, sxr, beq_self_eq_true, bne_self_eq_false, Int.reduceBEq, Int.reduceBNe, Bool.or_false, Bool.false_or, Bool.not_false, Bool.not_true, mbits, Int.reduceToNat, Int.reducePow, Int.toNat_natCast]
            intro ρ w1 hb
            rw [hI.tail hne]
            exact ⟨(none, 0), rfl, Rp.slice_nil (by omega)⟩
          · skip
            have hne : a = b.length := by simp at hc; omega
            refine W.skip (hK13 _ ?_)
            refine W.seqK fun K16 hK16 => W.region ?_
            refine WO.loadBox (k := 0) (i := 0) (sz := 1) rfl (ds := []) rfl rfl rfl rfl rfl (by simp [Addr.add_mid]) (by simp) agg22 sz22 (.inr rfl) ?_
            simp only [List.drop_succ_cons, List.drop_zero, List.take_succ_cons, List.take_zero, ofCells, Bool.false_eq_true, if_false, List.headD_cons]
            simp only [sx, ty, Bool.false_eq_true, Int.reduceEq, Int.reduceLT, Nat.reduceAdd, Nat.reduceSub, Nat.reduceMul, Nat.reduceLT, Nat.reduceLeDiff, Nat.reduceEqDiff, List.reduceReplicate, reduceIte, beq_self_eq_true, bne_self_eq_false, Int.reduceBEq, Int.reduceBNe, Bool.or_false, Bool.false_or, Bool.not_false, Bool.not_true, mbits, Int.reduceToNat, Int.reducePow, Int.toNat_natCast]
            refine WO.storeBox (k := 0) (i := 0) rfl (ds := []) rfl rfl rfl rfl rfl (by simp [Addr.add_mid]) (by simp) rfl rfl sz22 ?_
            simp only [sx, ty, Bool.false_eq_true, Int.reduceEq, Int.reduceLT, Nat.reduceAdd, Nat.reduceSub, Nat.reduceMul, Nat.reduceLT, Nat.reduceLeDiff, Nat.reduceEqDiff, List.reduceReplicate, reduceIte, beq_self_eq_true, bne_self_eq_false, Int.reduceBEq, Int.reduceBNe, Bool.or_false, Bool.false_or, Bool.not_false, Bool.not_true, mbits, Int.reduceToNat, Int.reducePow, Int.toNat_natCast]
            refine WO.storeBox (k := 1) (i := 0) rfl (ds := []) rfl rfl rfl rfl rfl (by simp [Addr.add_mid]) (by simp) rfl rfl sz25 ?_
            simp only [sx, ty, Bool.false_eq_true, Int.reduceEq, Int.reduceLT, Nat.reduceAdd, Nat.reduceSub, Nat.reduceMul, Nat.reduceLT, Nat.reduceLeDiff, Nat.reduceEqDiff, List.reduceReplicate, reduceIte, beq_self_eq_true, bne_self_eq_false, Int.reduceBEq, Int.reduceBNe, Bool.or_false, Bool.false_or, Bool.not_false, Bool.not_true, mbits, Int.reduceToNat, Int.reducePow, Int.toNat_natCast]
            with_reducible refine WO.nil ?_
            refine hK16 _ ?_; clear hK16
            refine W.ret ?_
            refine ⟨by simp, bl, be, _, _, rfl, rfl, rfl, rfl, rfl, ?_⟩
            try simp only [sx, ty, Bool.false_eq_true, Int.reduceEq, Int.reduceLT, Nat.reduceAdd, Nat.reduceSub, Nat.reduceMul, Nat.reduceLT, Nat.reduceLeDiff, Nat.reduceEqDiff, List.reduceReplicate, reduceIte, sxr, beq_self_eq_true, bne_self_eq_false, Int.reduceBEq, Int.reduceBNe, Bool.or_false, Bool.false_or, Bool.not_false, Bool.not_true, mbits, Int.reduceToNat, Int.reducePow, Int.toNat_natCast]
            intro ρ w1 hb
            rw [hI.done hne]
            exact ⟨(p3, c3), rfl, OI_rd (new_own (w0 := w) (o := OI l (p3, c3)) hb (by simp) (k := 3) rfl rfl)⟩
end Go.Proofs.Ytnbfdncmlbegmaa
