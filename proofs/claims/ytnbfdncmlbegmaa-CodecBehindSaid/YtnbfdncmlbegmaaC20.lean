/-
  Codec: CodecChanged: walk.
-/
import Derived.Test.YtnbfdncmlbegmaaC19
set_option linter.unusedVariables false
set_option linter.unusedSimpArgs false
set_option maxHeartbeats 1000000
namespace Go.Proofs.Ytnbfdncmlbegmaa
open Go Go.SX Go.RowKit

theorem such_slice2 {α : Type} {A : Rp α} {p : α → Prop} {S : Nat → Prop} {w : World} {cs : List Value} {l : List (List α)} (h : (Rp.slice (Rp.slice (such A p))).rd S w cs l) : (Rp.slice (Rp.slice A)).rd S w cs l ∧ ∀ y, y ∈ l → ∀ x, x ∈ y → p x := by
  obtain ⟨q, n, c, h1, h2, h3, h4, h5⟩ := h
  rcases h5 with rfl | ⟨a, h6, h7, h8, h9⟩
  · exact ⟨⟨q, n, c, h1, h2, h3, h4, .inl rfl⟩, fun x hx => by cases hx⟩
  · refine ⟨⟨q, n, c, h1, h2, h3, h4, .inr ⟨a, h6, h7, h8, fun i y hy => ?_⟩⟩, fun x hx => ?_⟩
    · obtain ⟨ces, g1, g2⟩ := h9 i y hy
      exact ⟨ces, g1, (such_slice g2).1⟩
    · obtain ⟨i, hi⟩ := List.getElem?_of_mem hx
      obtain ⟨ces, g1, g2⟩ := h9 i x hi
      exact (such_slice g2).2
theorem xor_ne {v y : Int} (hv : isB v) (hy : isB y) (h0 : y ≠ 0) : isB (IntKind.u8.wrap ((BitVec.ofInt IntKind.u8.bits v ^^^ BitVec.ofInt IntKind.u8.bits y).toNat)) ∧ IntKind.u8.wrap ((BitVec.ofInt IntKind.u8.bits v ^^^ BitVec.ofInt IntKind.u8.bits y).toNat) ≠ v := by
  change isB (IntKind.u8.wrap ((BitVec.ofInt 8 v ^^^ BitVec.ofInt 8 y).toNat)) ∧ IntKind.u8.wrap ((BitVec.ofInt 8 v ^^^ BitVec.ofInt 8 y).toNat) ≠ v
  have hlt := (BitVec.ofInt 8 v ^^^ BitVec.ofInt 8 y).isLt
  unfold isB at *
  rw [u8_wrap]
  refine ⟨by omega, fun h => h0 ?_⟩
  have h1 : (BitVec.ofInt 8 v ^^^ BitVec.ofInt 8 y).toNat = (BitVec.ofInt 8 v).toNat := by rw [ofInt8 hv.1 (by omega)]; omega
  have h2 : BitVec.ofInt 8 v ^^^ BitVec.ofInt 8 y = BitVec.ofInt 8 v ^^^ 0#8 := by rw [BitVec.xor_zero]; exact BitVec.eq_of_toNat_eq h1
  have h3 := (BitVec.xor_right_inj _).1 h2
  have h4 := congrArg BitVec.toNat h3
  rw [ofInt8 hy.1 (by omega)] at h4
  simp at h4; omega
theorem framesF_changed {l : List (List Int)} (h : ∀ x, x ∈ l → okL x) {F m : Nat} {c : Int} (hF : (allF (l.take (l.length - 1))).length = F) (hne : 0 < l.length) (hm : F + 3 + m < (allF l).length) (hc : isB c) (hn : (allF l)[F + 3 + m]? ≠ some c) :
    framesF ((allF l).set (F + 3 + m) c) = (l.take (l.length - 1), F) := by
  obtain ⟨y, hy⟩ : ∃ y, l[l.length - 1]? = some y := ⟨_, List.getElem?_eq_getElem (by omega)⟩
  have hst := allF_step hy
  rw [show l.length - 1 + 1 = l.length by omega, List.take_length] at hst
  rw [hst] at hm hn ⊢
  rw [List.length_append] at hm
  rw [List.getElem?_append_right (by omega)] at hn
  rw [List.set_append_right _ _ (by omega), framesF_all (fun x hx => h x (List.mem_of_mem_take hx)), framesF_none (wholeF_changed (h y (List.mem_of_getElem? hy)) (by omega) (by omega) hc hn), List.append_nil, hF, Nat.add_zero]

theorem row_byte {xs : List Int} {i : Nat} {v : Int} (h : xs[i]? = some v) : ((xs.map (Value.int .u8)).drop (i * 1)).take 1 = [.int .u8 v] := by
  exact take_one _ i _ (by rw [List.getElem?_map, h]; rfl)
/-- function 7 -/
theorem law5a {S : Nat → Prop} {w : World} {v : Value} {l : List (List Int)} {at9 y : Int} (hl : rLists.rd S w [v] l) (hI : ∀ x, x ∈ l → ∀ n, n ∈ x → isI n) (hat : 0 ≤ at9 ∧ at9 ≤ 65535) (hy : isB y) (hlen : 1 < l.length) (hlen0 : 0 < l.length) : Gives Try.prog 7 #[v, .int .u16 at9, .int .u8 y] w fun r _ => r = .bool true := by
  obtain ⟨pl, cl, rfl, hc1, hc2⟩ := Rp.slice_val hl
  have hl : (Rp.slice rInts).rd (fun _ => True) w _ l := Rp.any hl
  refine gives_of [.val (.slice pl l.length cl), .val (.int .u16 at9), .val (.int .u8 y)] 99 [.tmp 6] Try.func7 rfl rfl rfl (by simp) rfl rfl ?_
  refine W.pure (ds := []) rfl fun K1 hK1 => ?_
  simp only [sx, ty, Bool.false_eq_true, Int.reduceEq, Int.reduceLT, Nat.reduceAdd, Nat.reduceSub, Nat.reduceMul, Nat.reduceLT, Nat.reduceLeDiff, Nat.reduceEqDiff, List.reduceReplicate, reduceIte, beq_self_eq_true, bne_self_eq_false, Int.reduceBEq, Int.reduceBNe, Bool.or_false, Bool.false_or, Bool.not_false, Bool.not_true, mbits, Int.reduceToNat, Int.reducePow, Int.toNat_natCast]; with_reducible refine hK1 _ ?_; clear hK1
  refine W.seqK fun K2 hK2 => W.region ?_
  refine WO.call (.bool true) (ds := []) rfl rfl rfl rfl co9 (fun ρ w1 hb => head_spec w1) ?_
  refine WO.go 1 (ds := []) rfl ?_
  simp only [sx, ty, Bool.false_eq_true, Int.reduceEq, Int.reduceLT, Nat.reduceAdd, Nat.reduceSub, Nat.reduceMul, Nat.reduceLT, Nat.reduceLeDiff, Nat.reduceEqDiff, List.reduceReplicate, reduceIte, beq_self_eq_true, bne_self_eq_false, Int.reduceBEq, Int.reduceBNe, Bool.or_false, Bool.false_or, Bool.not_false, Bool.not_true, mbits, Int.reduceToNat, Int.reducePow, Int.toNat_natCast]
  with_reducible refine WO.nil ?_
  refine hK2 _ ?_; clear hK2
  refine W.seqK fun K3 hK3 => ?_
  refine W.join 28 (.val (.bool (!(smallF l) || decide (l.length = 0) || decide (y = 0)))) [0, 1, 2, 7] (W.region ?_) ?_
  · skip
    refine WO.go 1 (ds := [some 17, some 18, some 19, some 20, some 21, some 22, some 23, some 24, some 25, some 26, some 27, some 28]) rfl ?_
    simp only [sx, ty, Bool.false_eq_true, Int.reduceEq, Int.reduceLT, Nat.reduceAdd, Nat.reduceSub, Nat.reduceMul, Nat.reduceLT, Nat.reduceLeDiff, Nat.reduceEqDiff, List.reduceReplicate, reduceIte, beq_self_eq_true, bne_self_eq_false, Int.reduceBEq, Int.reduceBNe, Bool.or_false, Bool.false_or, Bool.not_false, Bool.not_true, mbits, Int.reduceToNat, Int.reducePow, Int.toNat_natCast]
    refine WO.call (.bool (smallF l)) (ds := [some 17, some 18, some 19, some 20, some 21, some 22, some 23, some 24, some 25, some 26, some 27, some 28]) rfl rfl rfl rfl co21 (fun ρ w1 hb => small_spec (Rp.now hl (hb.first (by simp)))) ?_
    refine WO.go 2 (ds := [some 17, some 18, some 19, some 20, some 21, some 22, some 23, some 24, some 25, some 26, some 27, some 28]) rfl ?_
    simp only [sx, ty, Bool.false_eq_true, Int.reduceEq, Int.reduceLT, Nat.reduceAdd, Nat.reduceSub, Nat.reduceMul, Nat.reduceLT, Nat.reduceLeDiff, Nat.reduceEqDiff, List.reduceReplicate, reduceIte, beq_self_eq_true, bne_self_eq_false, Int.reduceBEq, Int.reduceBNe, Bool.or_false, Bool.false_or, Bool.not_false, Bool.not_true, mbits, Int.reduceToNat, Int.reducePow, Int.toNat_natCast]
    refine WO.cases 20 _ rfl (fun hg20 => ?_) (fun hg20 => ?_)
    · skip
      refine WO.go 8 (ds := [some 17, some 18, some 19, some 20, some 21, some 22, some 23, some 24, some 25, some 26, some 27, some 28]) rfl ?_
      simp only [sx, ty, Bool.false_eq_true, Int.reduceEq, Int.reduceLT, Nat.reduceAdd, Nat.reduceSub, Nat.reduceMul, Nat.reduceLT, Nat.reduceLeDiff, Nat.reduceEqDiff, List.reduceReplicate, reduceIte, beq_self_eq_true, bne_self_eq_false, Int.reduceBEq, Int.reduceBNe, Bool.or_false, Bool.false_or, Bool.not_false, Bool.not_true, mbits, Int.reduceToNat, Int.reducePow, Int.toNat_natCast]
      with_reducible refine WO.nil ?_
      refine ⟨rfl, ?_, ⟨_, rfl⟩, by simp [Own.bnd, bndL, bnd, boxO], by simp⟩
      try rw [hg20]
      try rw [hg25]
      simp [getE, bnd, keepE]
      try simp at hg20
      try simp at hg25
      try simp [hg20, hg25]
      try simp [hg20]
      try (rw [Bool.eq_iff_iff]; simp; omega)
      try omega
      try simp
      try omega
      try (by_cases h9 : y = 0 <;> simp [h9])
    · skip
      refine WO.go 5 (ds := [some 17, some 18, some 19, some 20, some 21, some 22, some 23, some 24, some 25, some 26, some 27, some 28]) rfl ?_
      simp only [sx, ty, Bool.false_eq_true, Int.reduceEq, Int.reduceLT, Nat.reduceAdd, Nat.reduceSub, Nat.reduceMul, Nat.reduceLT, Nat.reduceLeDiff, Nat.reduceEqDiff, List.reduceReplicate, reduceIte, beq_self_eq_true, bne_self_eq_false, Int.reduceBEq, Int.reduceBNe, Bool.or_false, Bool.false_or, Bool.not_false, Bool.not_true, mbits, Int.reduceToNat, Int.reducePow, Int.toNat_natCast]
      refine WO.cases 25 _ rfl (fun hg25 => ?_) (fun hg25 => ?_)
      · skip
        refine WO.go 3 (ds := [some 17, some 18, some 19, some 20, some 21, some 22, some 23, some 24, some 25, some 26, some 27, some 28]) rfl ?_
        simp only [sx, ty, Bool.false_eq_true, Int.reduceEq, Int.reduceLT, Nat.reduceAdd, Nat.reduceSub, Nat.reduceMul, Nat.reduceLT, Nat.reduceLeDiff, Nat.reduceEqDiff, List.reduceReplicate, reduceIte, beq_self_eq_true, bne_self_eq_false, Int.reduceBEq, Int.reduceBNe, Bool.or_false, Bool.false_or, Bool.not_false, Bool.not_true, mbits, Int.reduceToNat, Int.reducePow, Int.toNat_natCast]
        with_reducible refine WO.nil ?_
        refine ⟨rfl, ?_, ⟨_, rfl⟩, by simp [Own.bnd, bndL, bnd, boxO], by simp⟩
        try rw [hg20]
        try rw [hg25]
        simp [getE, bnd, keepE]
        try simp at hg20
        try simp at hg25
        try simp [hg20, hg25]
        try simp [hg20]
        try (rw [Bool.eq_iff_iff]; simp; omega)
        try omega
        try simp
        try omega
        try (by_cases h9 : y = 0 <;> simp [h9])
      · skip
        refine WO.go 3 (ds := [some 17, some 18, some 19, some 20, some 21, some 22, some 23, some 24, some 25, some 26, some 27, some 28]) rfl ?_
        simp only [sx, ty, Bool.false_eq_true, Int.reduceEq, Int.reduceLT, Nat.reduceAdd, Nat.reduceSub, Nat.reduceMul, Nat.reduceLT, Nat.reduceLeDiff, Nat.reduceEqDiff, List.reduceReplicate, reduceIte, beq_self_eq_true, bne_self_eq_false, Int.reduceBEq, Int.reduceBNe, Bool.or_false, Bool.false_or, Bool.not_false, Bool.not_true, mbits, Int.reduceToNat, Int.reducePow, Int.toNat_natCast]
        with_reducible refine WO.nil ?_
        refine ⟨rfl, ?_, ⟨_, rfl⟩, by simp [Own.bnd, bndL, bnd, boxO], by simp⟩
        try rw [hg20]
        try rw [hg25]
        simp [getE, bnd, keepE]
        try simp at hg20
        try simp at hg25
        try simp [hg20, hg25]
        try simp [hg20]
        try (rw [Bool.eq_iff_iff]; simp; omega)
        try omega
        try simp
        try omega
        try (by_cases h9 : y = 0 <;> simp [h9])
  · simp only [sx, ty, Bool.false_eq_true, Int.reduceEq, Int.reduceLT, Nat.reduceAdd, Nat.reduceSub, Nat.reduceMul, Nat.reduceLT, Nat.reduceLeDiff, Nat.reduceEqDiff, List.reduceReplicate, reduceIte, sxk, beq_self_eq_true, bne_self_eq_false, Int.reduceBEq, Int.reduceBNe, Bool.or_false, Bool.false_or, Bool.not_false, Bool.not_true, mbits, Int.reduceToNat, Int.reducePow, Int.toNat_natCast]
    refine W.cond rfl rfl (fun hc => ?_) (fun hc => ?_)
    · skip
      refine W.pure (ds := []) rfl fun K5 hK5 => ?_
      simp only [sx, ty, Bool.false_eq_true, Int.reduceEq, Int.reduceLT, Nat.reduceAdd, Nat.reduceSub, Nat.reduceMul, Nat.reduceLT, Nat.reduceLeDiff, Nat.reduceEqDiff, List.reduceReplicate, reduceIte, beq_self_eq_true, bne_self_eq_false, Int.reduceBEq, Int.reduceBNe, Bool.or_false, Bool.false_or, Bool.not_false, Bool.not_true, mbits, Int.reduceToNat, Int.reducePow, Int.toNat_natCast]; with_reducible refine hK5 _ ?_; clear hK5
      refine W.ret ⟨by simp, _, rfl, fun ρ w1 hb => ?_⟩
      rfl
    · skip
      have hU : smallF l = true := by cases hk : smallF l <;> simp [hk] at hc ⊢
      have hy0 : y ≠ 0 := by intro h; simp [hU, h] at hc
      obtain ⟨hn, h30, hok⟩ := smallF_ok hU hI
      have hall := allF_small h30
      have h2k : (allF l).length ≤ 3210 := by omega
      have hst : allF l = allF (l.take (l.length - 1)) ++ frameF (putF (l[l.length - 1]'(by omega))) := by
        have h9 := allF_step (List.getElem?_eq_getElem (show l.length - 1 < l.length by omega))
        rwa [show l.length - 1 + 1 = l.length by omega, List.take_length] at h9
      have hfle := congrArg List.length hst
      rw [List.length_append, frameF_len] at hfle
      have hpl := putF_len (l[l.length - 1]'(by omega))
      clear hst
      obtain ⟨F0, hF0⟩ : ∃ F0, (allF (l.take (l.length - 1))).length = F0 := ⟨_, rfl⟩
      rw [hF0] at hfle
      obtain ⟨D, hD⟩ : ∃ D, (allF l).length = F0 + 3 + D := ⟨(allF l).length - F0 - 3, by omega⟩
      have hD0 : 0 < D := by omega
      clear hpl hfle
      obtain ⟨m, hm, hml⟩ := rem16 (n := D) hat hD0
      have hdn : ¬ ((D : Int) = 0) := by omega
      have hfl : 0 < (allF l).length := by omega
      obtain ⟨v9, hv9⟩ : ∃ v9, (allF l)[F0 + 3 + m]? = some v9 := ⟨_, List.getElem?_eq_getElem (by omega)⟩
      have hv9b := allF_isB hok v9 (List.mem_of_getElem? hv9)
      obtain ⟨hcb, hcn⟩ := xor_ne hv9b hy hy0
      have hT : FramesF ((allF l).set (F0 + 3 + m) (IntKind.u8.wrap ((BitVec.ofInt IntKind.u8.bits v9 ^^^ BitVec.ofInt IntKind.u8.bits y).toNat))) = (l.take (l.length - 1), F0, 0) := by rw [FramesF_ok (by rw [List.length_set]; omega), framesF_changed hok hF0 hlen0 (by omega) hcb (by rw [hv9]; intro h; exact hcn (Option.some.inj h).symm)]
      have hset : ∀ x, x ∈ (allF l).set (F0 + 3 + m) (IntKind.u8.wrap ((BitVec.ofInt IntKind.u8.bits v9 ^^^ BitVec.ofInt IntKind.u8.bits y).toNat)) → isB x := fun x hx => (List.mem_or_eq_of_mem_set hx).elim (allF_isB hok x) (fun h => by rw [h]; exact hcb)
      have hwi : IntKind.i64.wrap ((l.length : Int) - 2) = ((l.length - 2 : Nat) : Int) := by rw [wrap_id (by omega) (by omega)]; omega
      have hyF : (endsF l l.length)[l.length - 2]? = some (F0 : Int) := by rw [endsF_get (by omega), show l.length - 2 + 1 = l.length - 1 by omega, hF0]
      have hA1 : IntKind.i64.wrap ((F0 : Int) + 3) = ((F0 + 3 : Nat) : Int) := by rw [wrap_id (by omega) (by omega)]; omega
      have hA2 : IntKind.i64.wrap (((allF l).length : Int) - (F0 : Int)) = ((3 + D : Nat) : Int) := by rw [wrap_id (by omega) (by omega)]; omega
      have hA3 : IntKind.i64.wrap (((3 + D : Nat) : Int) - 3) = (D : Int) := by rw [wrap_id (by omega) (by omega)]; omega
      have hA4 : IntKind.i64.wrap (((F0 + 3 : Nat) : Int) + (m : Int)) = ((F0 + 3 + m : Nat) : Int) := by rw [wrap_id (by omega) (by omega)]; omega
      have hA5 : IntKind.i64.wrap ((l.length : Int) - 1) = ((l.length - 1 : Nat) : Int) := by rw [wrap_id (by omega) (by omega)]; omega
      refine W.skip (hK3 _ ?_)
      refine W.seqK fun K6 hK6 => W.region ?_
      refine WO.go 1 (ds := []) rfl ?_
      simp only [sx, ty, Bool.false_eq_true, Int.reduceEq, Int.reduceLT, Nat.reduceAdd, Nat.reduceSub, Nat.reduceMul, Nat.reduceLT, Nat.reduceLeDiff, Nat.reduceEqDiff, List.reduceReplicate, reduceIte, beq_self_eq_true, bne_self_eq_false, Int.reduceBEq, Int.reduceBNe, Bool.or_false, Bool.false_or, Bool.not_false, Bool.not_true, mbits, Int.reduceToNat, Int.reducePow, Int.toNat_natCast]
      refine WO.callM (fun x : (Option Addr × Nat) × (Option Addr × Nat) => .tuple #[.slice x.1.1 (allF l).length x.1.2, .slice x.2.1 l.length x.2.2, .bool true]) (fun lo x s9 => rBytes.rd (fun b => lo ≤ b) s9 [.slice x.1.1 (allF l).length x.1.2] (allF l) ∧ rInts.rd (fun b => lo ≤ b) s9 [.slice x.2.1 l.length x.2.2] (endsF l l.length)) (ds := []) rfl rfl rfl rfl co22 (fun ρ w1 hb => frames_spec (Rp.now hl (hb.first (by simp))) hn hok) fun x lo hrs hr => ?_
      obtain ⟨⟨hrp, hrc⟩, ⟨hep, hec⟩⟩ := x
      obtain ⟨hr1, hr2⟩ := hr
      simp only at hr1 hr2
      obtain ⟨_, _, he0g1, g1, g1b⟩ := Rp.slice_val hr1
      obtain ⟨_, _, rfl⟩ := (Value.slice.injEq _ _ _ _ _ _).mp he0g1
      have g1 : (allF l).length ≤ hrc := g1
      clear he0g1
      refine WO.go 7 (ds := []) rfl ?_
      simp only [sx, ty, Bool.false_eq_true, Int.reduceEq, Int.reduceLT, Nat.reduceAdd, Nat.reduceSub, Nat.reduceMul, Nat.reduceLT, Nat.reduceLeDiff, Nat.reduceEqDiff, List.reduceReplicate, reduceIte, beq_self_eq_true, bne_self_eq_false, Int.reduceBEq, Int.reduceBNe, Bool.or_false, Bool.false_or, Bool.not_false, Bool.not_true, mbits, Int.reduceToNat, Int.reducePow, Int.toNat_natCast]
      with_reducible refine WO.nil ?_
      refine hK6 _ ?_; clear hK6
      refine W.seqK fun K7 hK7 => ?_
      refine W.join 44 (.val (.bool false)) [0, 1, 2, 7, 8, 9] (W.region ?_) ?_
      · skip
        refine WO.go 9 (ds := [some 36, some 37, some 38, some 39, some 40, some 41, some 42, some 43, some 44]) rfl ?_
        simp only [sx, ty, Bool.false_eq_true, Int.reduceEq, Int.reduceLT, Nat.reduceAdd, Nat.reduceSub, Nat.reduceMul, Nat.reduceLT, Nat.reduceLeDiff, Nat.reduceEqDiff, List.reduceReplicate, reduceIte, beq_self_eq_true, bne_self_eq_false, Int.reduceBEq, Int.reduceBNe, Bool.or_false, Bool.false_or, Bool.not_false, Bool.not_true, mbits, Int.reduceToNat, Int.reducePow, Int.toNat_natCast]
        with_reducible refine WO.nil ?_
        refine ⟨rfl, ?_, ⟨_, rfl⟩, by simp [Own.bnd, bndL, bnd, boxO], by simp⟩
        try simp [getE, bnd, keepE]
        try omega
      · simp only [sx, ty, Bool.false_eq_true, Int.reduceEq, Int.reduceLT, Nat.reduceAdd, Nat.reduceSub, Nat.reduceMul, Nat.reduceLT, Nat.reduceLeDiff, Nat.reduceEqDiff, List.reduceReplicate, reduceIte, sxk, beq_self_eq_true, bne_self_eq_false, Int.reduceBEq, Int.reduceBNe, Bool.or_false, Bool.false_or, Bool.not_false, Bool.not_true, mbits, Int.reduceToNat, Int.reducePow, Int.toNat_natCast]
        refine W.cond rfl rfl (fun hc => ?_) (fun hc => ?_)
        · skip
          simp at hc
        · skip
          refine W.skip (hK7 _ ?_)
          refine W.pure (ds := []) rfl fun K9 hK9 => ?_
          simp only [sx, ty, Bool.false_eq_true, Int.reduceEq, Int.reduceLT, Nat.reduceAdd, Nat.reduceSub, Nat.reduceMul, Nat.reduceLT, Nat.reduceLeDiff, Nat.reduceEqDiff, List.reduceReplicate, reduceIte, beq_self_eq_true, bne_self_eq_false, Int.reduceBEq, Int.reduceBNe, Bool.or_false, Bool.false_or, Bool.not_false, Bool.not_true, mbits, Int.reduceToNat, Int.reducePow, Int.toNat_natCast]; with_reducible refine hK9 _ ?_; clear hK9
          refine W.seqK fun K10 hK10 => ?_
          refine W.pure (ds := []) rfl fun K11 hK11 => ?_
          simp only [sx, ty, Bool.false_eq_true, Int.reduceEq, Int.reduceLT, Nat.reduceAdd, Nat.reduceSub, Nat.reduceMul, Nat.reduceLT, Nat.reduceLeDiff, Nat.reduceEqDiff, List.reduceReplicate, reduceIte, beq_self_eq_true, bne_self_eq_false, Int.reduceBEq, Int.reduceBNe, Bool.or_false, Bool.false_or, Bool.not_false, Bool.not_true, mbits, Int.reduceToNat, Int.reducePow, Int.toNat_natCast]; with_reducible refine hK11 _ ?_; clear hK11
          refine W.cond rfl rfl (fun hc => ?_) (fun hc => ?_)
          rotate_left
          · skip
            (simp at hc; omega)
          · skip
            refine W.region ?_
            refine WO.go 4 (ds := []) rfl ?_
            simp only [sx, ty, Bool.false_eq_true, Int.reduceEq, Int.reduceLT, Nat.reduceAdd, Nat.reduceSub, Nat.reduceMul, Nat.reduceLT, Nat.reduceLeDiff, Nat.reduceEqDiff, List.reduceReplicate, reduceIte, beq_self_eq_true, bne_self_eq_false, Int.reduceBEq, Int.reduceBNe, Bool.or_false, Bool.false_or, Bool.not_false, Bool.not_true, mbits, Int.reduceToNat, Int.reducePow, Int.toNat_natCast, hwi]
            refine WO.elem (y := (F0 : Int)) hr2 (by simp [St.put]) (ds := []) rfl rfl rfl (by simp [St.put]) (fun _ => rfl) rfl rfl rfl rfl rfl el22 agg3 sz3 (.inr rfl) (by omega) (hyF) fun p ces hces => ?_
            obtain rfl := rInt_open hces
            clear hces
            refine WO.go 1 (ds := []) rfl ?_
            simp only [sx, ty, Bool.false_eq_true, Int.reduceEq, Int.reduceLT, Nat.reduceAdd, Nat.reduceSub, Nat.reduceMul, Nat.reduceLT, Nat.reduceLeDiff, Nat.reduceEqDiff, List.reduceReplicate, reduceIte, beq_self_eq_true, bne_self_eq_false, Int.reduceBEq, Int.reduceBNe, Bool.or_false, Bool.false_or, Bool.not_false, Bool.not_true, mbits, Int.reduceToNat, Int.reducePow, Int.toNat_natCast, hwi]
            with_reducible refine WO.nil ?_
            refine hK10 _ ?_
            refine W.seqK fun K12 hK12 => W.region ?_
            refine WO.go 2 (ds := []) rfl ?_
            simp only [sx, ty, Bool.false_eq_true, Int.reduceEq, Int.reduceLT, Nat.reduceAdd, Nat.reduceSub, Nat.reduceMul, Nat.reduceLT, Nat.reduceLeDiff, Nat.reduceEqDiff, List.reduceReplicate, reduceIte, beq_self_eq_true, bne_self_eq_false, Int.reduceBEq, Int.reduceBNe, Bool.or_false, Bool.false_or, Bool.not_false, Bool.not_true, mbits, Int.reduceToNat, Int.reducePow, Int.toNat_natCast, hwi]
            obtain h9 | ⟨a1, olds1, ha1, hnl1, hSD1, hzD1, holD1, hatD1, hrdD1⟩ := Rp.slice_cells hr1
            · exact absurd (congrArg List.length h9) (by simp only [List.length_nil]; omega)
            have hE1 := bytes_cells (by rw [holD1]; exact Nat.mul_one _) hrdD1
            have hatE1 : At hrs a1 ((allF l).map (Value.int .u8)) := by rw [← hE1]; exact hatD1
            clear hE1
            subst ha1
            refine WO.appendFull (n := 0) (m := (allF l).length) [] ((allF l).map (.int .u8)) (ds := []) rfl rfl rfl rfl ⟨_, rfl, fun ρ w1 hb => ⟨⟨ρ 0, 0, none⟩, rfl, fun j v hv => by simp at hv⟩⟩ rfl ek23 rfl (by omega) (fun ρ w1 hb => ⟨a1, hrc, rfl, hatE1.now  hb (by simp) hSD1 hzD1⟩) (by simp) (by rw [maxLen_eq]; omega) (by omega) fun q1 cq1 => ?_
            simp only [Nat.zero_add, List.nil_append, St.pushO, List.cons_append]
            refine WO.go 1 (ds := []) rfl ?_
            simp only [sx, ty, Bool.false_eq_true, Int.reduceEq, Int.reduceLT, Nat.reduceAdd, Nat.reduceSub, Nat.reduceMul, Nat.reduceLT, Nat.reduceLeDiff, Nat.reduceEqDiff, List.reduceReplicate, reduceIte, beq_self_eq_true, bne_self_eq_false, Int.reduceBEq, Int.reduceBNe, Bool.or_false, Bool.false_or, Bool.not_false, Bool.not_true, mbits, Int.reduceToNat, Int.reducePow, Int.toNat_natCast, hwi]
            with_reducible refine WO.nil ?_
            refine hK12 _ ?_; clear hK12
            refine W.ownAddr (k := 1) rfl (by omega) fun b9 hb9 => ?_
            subst hb9
            refine W.seqK fun K13 hK13 => W.region ?_
            refine WO.go 10 (ds := []) rfl ?_
            simp only [sx, ty, Bool.false_eq_true, Int.reduceEq, Int.reduceLT, Nat.reduceAdd, Nat.reduceSub, Nat.reduceMul, Nat.reduceLT, Nat.reduceLeDiff, Nat.reduceEqDiff, List.reduceReplicate, reduceIte, beq_self_eq_true, bne_self_eq_false, Int.reduceBEq, Int.reduceBNe, Bool.or_false, Bool.false_or, Bool.not_false, Bool.not_true, mbits, Int.reduceToNat, Int.reducePow, Int.toNat_natCast, hwi, hA1, hA2, hA3, hA4]
            refine WO.go 1 (ds := []) rfl ?_
            simp only [sx, ty, Bool.false_eq_true, Int.reduceEq, Int.reduceLT, Nat.reduceAdd, Nat.reduceSub, Nat.reduceMul, Nat.reduceLT, Nat.reduceLeDiff, Nat.reduceEqDiff, List.reduceReplicate, reduceIte, beq_self_eq_true, bne_self_eq_false, Int.reduceBEq, Int.reduceBNe, Bool.or_false, Bool.false_or, Bool.not_false, Bool.not_true, mbits, Int.reduceToNat, Int.reducePow, Int.toNat_natCast, hwi, hA1, hA2, hA3, hA4, if_neg hdn, hm]
            refine WO.go 1 (ds := []) rfl ?_
            simp only [sx, ty, Bool.false_eq_true, Int.reduceEq, Int.reduceLT, Nat.reduceAdd, Nat.reduceSub, Nat.reduceMul, Nat.reduceLT, Nat.reduceLeDiff, Nat.reduceEqDiff, List.reduceReplicate, reduceIte, beq_self_eq_true, bne_self_eq_false, Int.reduceBEq, Int.reduceBNe, Bool.or_false, Bool.false_or, Bool.not_false, Bool.not_true, mbits, Int.reduceToNat, Int.reducePow, Int.toNat_natCast, hwi, hA1, hA2, hA3, hA4]
            refine WO.elemOwn (k := 1) rfl (ds := []) rfl rfl rfl (by simp [St.put]) rfl rfl rfl rfl rfl rfl el23 agg5 sz5 (.inr rfl) (by omega) (by omega) (by simp) ?_
            rw [Int.toNat_natCast, row_byte hv9]
            simp only [ofCells, Bool.false_eq_true, if_false, List.headD_cons]
            refine WO.go 2 (ds := []) rfl ?_
            simp only [sx, ty, Bool.false_eq_true, Int.reduceEq, Int.reduceLT, Nat.reduceAdd, Nat.reduceSub, Nat.reduceMul, Nat.reduceLT, Nat.reduceLeDiff, Nat.reduceEqDiff, List.reduceReplicate, reduceIte, beq_self_eq_true, bne_self_eq_false, Int.reduceBEq, Int.reduceBNe, Bool.or_false, Bool.false_or, Bool.not_false, Bool.not_true, mbits, Int.reduceToNat, Int.reducePow, Int.toNat_natCast, hwi, hA1, hA2, hA3, hA4]
            refine WO.index (ds := []) rfl rfl rfl rfl rfl rfl el23 (by omega) (by omega) ?_
            simp only [sx, ty, Bool.false_eq_true, Int.reduceEq, Int.reduceLT, Nat.reduceAdd, Nat.reduceSub, Nat.reduceMul, Nat.reduceLT, Nat.reduceLeDiff, Nat.reduceEqDiff, List.reduceReplicate, reduceIte, beq_self_eq_true, bne_self_eq_false, Int.reduceBEq, Int.reduceBNe, Bool.or_false, Bool.false_or, Bool.not_false, Bool.not_true, mbits, Int.reduceToNat, Int.reducePow, Int.toNat_natCast, hwi, hA1, hA2, hA3, hA4]
            refine WO.storeOwn (k := 1) (i := F0 + 3 + m) (ds := []) rfl rfl rfl rfl rfl rfl rfl (by omega) rfl rfl sz5 ?_
            rw [show (((allF l).map (Value.int .u8)).set (F0 + 3 + m) (.int .u8 (IntKind.u8.wrap ((BitVec.ofInt IntKind.u8.bits v9 ^^^ BitVec.ofInt IntKind.u8.bits y).toNat)))) = ((allF l).set (F0 + 3 + m) (IntKind.u8.wrap ((BitVec.ofInt IntKind.u8.bits v9 ^^^ BitVec.ofInt IntKind.u8.bits y).toNat))).map (.int .u8) by rw [List.map_set]]
            simp only [sx, ty, Bool.false_eq_true, Int.reduceEq, Int.reduceLT, Nat.reduceAdd, Nat.reduceSub, Nat.reduceMul, Nat.reduceLT, Nat.reduceLeDiff, Nat.reduceEqDiff, List.reduceReplicate, reduceIte, beq_self_eq_true, bne_self_eq_false, Int.reduceBEq, Int.reduceBNe, Bool.or_false, Bool.false_or, Bool.not_false, Bool.not_true, mbits, Int.reduceToNat, Int.reducePow, Int.toNat_natCast, hwi, hA1, hA2, hA3, hA4]
            with_reducible refine WO.nil ?_
            refine hK13 _ ?_; clear hK13
            refine W.seqK fun K14 hK14 => W.region ?_
            refine WO.go 1 (ds := []) rfl ?_
            simp only [sx, ty, Bool.false_eq_true, Int.reduceEq, Int.reduceLT, Nat.reduceAdd, Nat.reduceSub, Nat.reduceMul, Nat.reduceLT, Nat.reduceLeDiff, Nat.reduceEqDiff, List.reduceReplicate, reduceIte, beq_self_eq_true, bne_self_eq_false, Int.reduceBEq, Int.reduceBNe, Bool.or_false, Bool.false_or, Bool.not_false, Bool.not_true, mbits, Int.reduceToNat, Int.reducePow, Int.toNat_natCast, hwi, hA1, hA2, hA3, hA4]
            refine WO.callM (fun x : Option Addr × Nat => .tuple #[.slice x.1 (l.take (l.length - 1)).length x.2, .int .i64 (F0 : Nat), .int .i64 0]) (fun lo x s9 => rLists.rd (fun b => lo ≤ b) s9 [.slice x.1 (l.take (l.length - 1)).length x.2] (l.take (l.length - 1))) (ds := []) rfl rfl rfl rfl co18 (fun ρ w1 hb => by have h9 := Frames_spec (own_slice (A := rByte) (k := 1) (S := fun _ => True) (ys := (allF l).set (F0 + 3 + m) (IntKind.u8.wrap ((BitVec.ofInt IntKind.u8.bits v9 ^^^ BitVec.ofInt IntKind.u8.bits y).toNat))) hb rfl (by simp) (fun _ _ => trivial) (bytes_read _)) hset; rw [hT] at h9; exact h9) fun x lo hr4s hr4 => ?_
            obtain ⟨hr4p, hr4c⟩ := x
            simp only at hr4
            refine WO.go 7 (ds := []) rfl ?_
            simp only [sx, ty, Bool.false_eq_true, Int.reduceEq, Int.reduceLT, Nat.reduceAdd, Nat.reduceSub, Nat.reduceMul, Nat.reduceLT, Nat.reduceLeDiff, Nat.reduceEqDiff, List.reduceReplicate, reduceIte, beq_self_eq_true, bne_self_eq_false, Int.reduceBEq, Int.reduceBNe, Bool.or_false, Bool.false_or, Bool.not_false, Bool.not_true, mbits, Int.reduceToNat, Int.reducePow, Int.toNat_natCast, hwi, hA1, hA2, hA3, hA4]
            with_reducible refine WO.nil ?_
            refine hK14 _ ?_; clear hK14
            refine W.join 6 (.val (.bool true)) [] (W.region ?_) ?_
            · skip
              refine WO.go 16 (ds := [some 80, some 81, some 82, some 83, some 84, some 85, some 86, some 87, some 88, some 89, some 90, some 91, some 92, some 93, some 94, some 95, some 96, some 97, some 98, some 6]) rfl ?_
              simp only [sx, ty, Bool.false_eq_true, Int.reduceEq, Int.reduceLT, Nat.reduceAdd, Nat.reduceSub, Nat.reduceMul, Nat.reduceLT, Nat.reduceLeDiff, Nat.reduceEqDiff, List.reduceReplicate, reduceIte, beq_self_eq_true, bne_self_eq_false, Int.reduceBEq, Int.reduceBNe, Bool.or_false, Bool.false_or, Bool.not_false, Bool.not_true, mbits, Int.reduceToNat, Int.reducePow, Int.toNat_natCast, hwi, hA1, hA2, hA3, hA4, hA5]
              obtain ⟨p8, c8, he8, hl8⟩ := Rp.sub (l := 0) (h := l.length - 1) hl (by omega) (by omega)
              rw [sub_eqL (m := l.length - 1) (by omega), List.drop_zero] at he8 hl8
              refine WO.slc (ds := [some 80, some 81, some 82, some 83, some 84, some 85, some 86, some 87, some 88, some 89, some 90, some 91, some 92, some 93, some 94, some 95, some 96, some 97, some 98, some 6]) rfl rfl rfl rfl rfl el32 rfl rfl (by simp [loS]) (by simp [loS, hiS] <;> omega) (by simp [hiS] <;> omega) ?_
              rw [show slcV 1 pl cl (loS none).toNat (hiS l.length (some (IntKind.i64, ((l.length - 1 : Nat) : Int)))).toNat = .slice p8 (l.take (l.length - 1)).length c8 from he8]
              simp only [sx, ty, Bool.false_eq_true, Int.reduceEq, Int.reduceLT, Nat.reduceAdd, Nat.reduceSub, Nat.reduceMul, Nat.reduceLT, Nat.reduceLeDiff, Nat.reduceEqDiff, List.reduceReplicate, reduceIte, beq_self_eq_true, bne_self_eq_false, Int.reduceBEq, Int.reduceBNe, Bool.or_false, Bool.false_or, Bool.not_false, Bool.not_true, mbits, Int.reduceToNat, Int.reducePow, Int.toNat_natCast, hwi, hA1, hA2, hA3, hA4, hA5]
              refine WO.call (.bool true) (ds := [some 80, some 81, some 82, some 83, some 84, some 85, some 86, some 87, some 88, some 89, some 90, some 91, some 92, some 93, some 94, some 95, some 96, some 97, some 98, some 6]) rfl rfl rfl rfl co20 (fun ρ w1 hb => sameL_self (Rp.keep hr4 (hb.at (by simp))) (Rp.now hl8 (hb.first (by simp)))) ?_
              refine WO.go 2 (ds := [some 80, some 81, some 82, some 83, some 84, some 85, some 86, some 87, some 88, some 89, some 90, some 91, some 92, some 93, some 94, some 95, some 96, some 97, some 98, some 6]) rfl ?_
              simp only [sx, ty, Bool.false_eq_true, Int.reduceEq, Int.reduceLT, Nat.reduceAdd, Nat.reduceSub, Nat.reduceMul, Nat.reduceLT, Nat.reduceLeDiff, Nat.reduceEqDiff, List.reduceReplicate, reduceIte, beq_self_eq_true, bne_self_eq_false, Int.reduceBEq, Int.reduceBNe, Bool.or_false, Bool.false_or, Bool.not_false, Bool.not_true, mbits, Int.reduceToNat, Int.reducePow, Int.toNat_natCast, hwi, hA1, hA2, hA3, hA4, hA5]
              with_reducible refine WO.nil ?_
              refine ⟨rfl, by simp [getE, bnd, keepE], ⟨_, rfl⟩, by simp [Own.bnd, bndL, bnd, boxO], by simp⟩
            · simp only [sx, ty, Bool.false_eq_true, Int.reduceEq, Int.reduceLT, Nat.reduceAdd, Nat.reduceSub, Nat.reduceMul, Nat.reduceLT, Nat.reduceLeDiff, Nat.reduceEqDiff, List.reduceReplicate, reduceIte, sxk, beq_self_eq_true, bne_self_eq_false, Int.reduceBEq, Int.reduceBNe, Bool.or_false, Bool.false_or, Bool.not_false, Bool.not_true, mbits, Int.reduceToNat, Int.reducePow, Int.toNat_natCast, hwi, hA1, hA2, hA3, hA4, hA5]
              refine W.ret ⟨by simp, _, rfl, fun ρ w1 hb => ?_⟩
              rfl
/-- function 7 -/
theorem law5b {S : Nat → Prop} {w : World} {v : Value} {l : List (List Int)} {at9 y : Int} (hl : rLists.rd S w [v] l) (hI : ∀ x, x ∈ l → ∀ n, n ∈ x → isI n) (hat : 0 ≤ at9 ∧ at9 ≤ 65535) (hy : isB y) (hlen : l.length = 1) (hlen0 : 0 < l.length) : Gives Try.prog 7 #[v, .int .u16 at9, .int .u8 y] w fun r _ => r = .bool true := by
  obtain ⟨pl, cl, rfl, hc1, hc2⟩ := Rp.slice_val hl
  have hl : (Rp.slice rInts).rd (fun _ => True) w _ l := Rp.any hl
  refine gives_of [.val (.slice pl l.length cl), .val (.int .u16 at9), .val (.int .u8 y)] 99 [.tmp 6] Try.func7 rfl rfl rfl (by simp) rfl rfl ?_
  refine W.pure (ds := []) rfl fun K1 hK1 => ?_
  simp only [sx, ty, Bool.false_eq_true, Int.reduceEq, Int.reduceLT, Nat.reduceAdd, Nat.reduceSub, Nat.reduceMul, Nat.reduceLT, Nat.reduceLeDiff, Nat.reduceEqDiff, List.reduceReplicate, reduceIte, beq_self_eq_true, bne_self_eq_false, Int.reduceBEq, Int.reduceBNe, Bool.or_false, Bool.false_or, Bool.not_false, Bool.not_true, mbits, Int.reduceToNat, Int.reducePow, Int.toNat_natCast]; with_reducible refine hK1 _ ?_; clear hK1
  refine W.seqK fun K2 hK2 => W.region ?_
  refine WO.call (.bool true) (ds := []) rfl rfl rfl rfl co9 (fun ρ w1 hb => head_spec w1) ?_
  refine WO.go 1 (ds := []) rfl ?_
  simp only [sx, ty, Bool.false_eq_true, Int.reduceEq, Int.reduceLT, Nat.reduceAdd, Nat.reduceSub, Nat.reduceMul, Nat.reduceLT, Nat.reduceLeDiff, Nat.reduceEqDiff, List.reduceReplicate, reduceIte, beq_self_eq_true, bne_self_eq_false, Int.reduceBEq, Int.reduceBNe, Bool.or_false, Bool.false_or, Bool.not_false, Bool.not_true, mbits, Int.reduceToNat, Int.reducePow, Int.toNat_natCast]
  with_reducible refine WO.nil ?_
  refine hK2 _ ?_; clear hK2
  refine W.seqK fun K3 hK3 => ?_
  refine W.join 28 (.val (.bool (!(smallF l) || decide (l.length = 0) || decide (y = 0)))) [0, 1, 2, 7] (W.region ?_) ?_
  · skip
    refine WO.go 1 (ds := [some 17, some 18, some 19, some 20, some 21, some 22, some 23, some 24, some 25, some 26, some 27, some 28]) rfl ?_
    simp only [sx, ty, Bool.false_eq_true, Int.reduceEq, Int.reduceLT, Nat.reduceAdd, Nat.reduceSub, Nat.reduceMul, Nat.reduceLT, Nat.reduceLeDiff, Nat.reduceEqDiff, List.reduceReplicate, reduceIte, beq_self_eq_true, bne_self_eq_false, Int.reduceBEq, Int.reduceBNe, Bool.or_false, Bool.false_or, Bool.not_false, Bool.not_true, mbits, Int.reduceToNat, Int.reducePow, Int.toNat_natCast]
    refine WO.call (.bool (smallF l)) (ds := [some 17, some 18, some 19, some 20, some 21, some 22, some 23, some 24, some 25, some 26, some 27, some 28]) rfl rfl rfl rfl co21 (fun ρ w1 hb => small_spec (Rp.now hl (hb.first (by simp)))) ?_
    refine WO.go 2 (ds := [some 17, some 18, some 19, some 20, some 21, some 22, some 23, some 24, some 25, some 26, some 27, some 28]) rfl ?_
    simp only [sx, ty, Bool.false_eq_true, Int.reduceEq, Int.reduceLT, Nat.reduceAdd, Nat.reduceSub, Nat.reduceMul, Nat.reduceLT, Nat.reduceLeDiff, Nat.reduceEqDiff, List.reduceReplicate, reduceIte, beq_self_eq_true, bne_self_eq_false, Int.reduceBEq, Int.reduceBNe, Bool.or_false, Bool.false_or, Bool.not_false, Bool.not_true, mbits, Int.reduceToNat, Int.reducePow, Int.toNat_natCast]
    refine WO.cases 20 _ rfl (fun hg20 => ?_) (fun hg20 => ?_)
    · skip
      refine WO.go 8 (ds := [some 17, some 18, some 19, some 20, some 21, some 22, some 23, some 24, some 25, some 26, some 27, some 28]) rfl ?_
      simp only [sx, ty, Bool.false_eq_true, Int.reduceEq, Int.reduceLT, Nat.reduceAdd, Nat.reduceSub, Nat.reduceMul, Nat.reduceLT, Nat.reduceLeDiff, Nat.reduceEqDiff, List.reduceReplicate, reduceIte, beq_self_eq_true, bne_self_eq_false, Int.reduceBEq, Int.reduceBNe, Bool.or_false, Bool.false_or, Bool.not_false, Bool.not_true, mbits, Int.reduceToNat, Int.reducePow, Int.toNat_natCast]
      with_reducible refine WO.nil ?_
      refine ⟨rfl, ?_, ⟨_, rfl⟩, by simp [Own.bnd, bndL, bnd, boxO], by simp⟩
      try rw [hg20]
      try rw [hg25]
      simp [getE, bnd, keepE]
      try simp at hg20
      try simp at hg25
      try simp [hg20, hg25]
      try simp [hg20]
      try (rw [Bool.eq_iff_iff]; simp; omega)
      try omega
      try simp
      try omega
      try (by_cases h9 : y = 0 <;> simp [h9])
    · skip
      refine WO.go 5 (ds := [some 17, some 18, some 19, some 20, some 21, some 22, some 23, some 24, some 25, some 26, some 27, some 28]) rfl ?_
      simp only [sx, ty, Bool.false_eq_true, Int.reduceEq, Int.reduceLT, Nat.reduceAdd, Nat.reduceSub, Nat.reduceMul, Nat.reduceLT, Nat.reduceLeDiff, Nat.reduceEqDiff, List.reduceReplicate, reduceIte, beq_self_eq_true, bne_self_eq_false, Int.reduceBEq, Int.reduceBNe, Bool.or_false, Bool.false_or, Bool.not_false, Bool.not_true, mbits, Int.reduceToNat, Int.reducePow, Int.toNat_natCast]
      refine WO.cases 25 _ rfl (fun hg25 => ?_) (fun hg25 => ?_)
      · skip
        refine WO.go 3 (ds := [some 17, some 18, some 19, some 20, some 21, some 22, some 23, some 24, some 25, some 26, some 27, some 28]) rfl ?_
        simp only [sx, ty, Bool.false_eq_true, Int.reduceEq, Int.reduceLT, Nat.reduceAdd, Nat.reduceSub, Nat.reduceMul, Nat.reduceLT, Nat.reduceLeDiff, Nat.reduceEqDiff, List.reduceReplicate, reduceIte, beq_self_eq_true, bne_self_eq_false, Int.reduceBEq, Int.reduceBNe, Bool.or_false, Bool.false_or, Bool.not_false, Bool.not_true, mbits, Int.reduceToNat, Int.reducePow, Int.toNat_natCast]
        with_reducible refine WO.nil ?_
        refine ⟨rfl, ?_, ⟨_, rfl⟩, by simp [Own.bnd, bndL, bnd, boxO], by simp⟩
        try rw [hg20]
        try rw [hg25]
        simp [getE, bnd, keepE]
        try simp at hg20
        try simp at hg25
        try simp [hg20, hg25]
        try simp [hg20]
        try (rw [Bool.eq_iff_iff]; simp; omega)
        try omega
        try simp
        try omega
        try (by_cases h9 : y = 0 <;> simp [h9])
      · skip
        refine WO.go 3 (ds := [some 17, some 18, some 19, some 20, some 21, some 22, some 23, some 24, some 25, some 26, some 27, some 28]) rfl ?_
        simp only [sx, ty, Bool.false_eq_true, Int.reduceEq, Int.reduceLT, Nat.reduceAdd, Nat.reduceSub, Nat.reduceMul, Nat.reduceLT, Nat.reduceLeDiff, Nat.reduceEqDiff, List.reduceReplicate, reduceIte, beq_self_eq_true, bne_self_eq_false, Int.reduceBEq, Int.reduceBNe, Bool.or_false, Bool.false_or, Bool.not_false, Bool.not_true, mbits, Int.reduceToNat, Int.reducePow, Int.toNat_natCast]
        with_reducible refine WO.nil ?_
        refine ⟨rfl, ?_, ⟨_, rfl⟩, by simp [Own.bnd, bndL, bnd, boxO], by simp⟩
        try rw [hg20]
        try rw [hg25]
        simp [getE, bnd, keepE]
        try simp at hg20
        try simp at hg25
        try simp [hg20, hg25]
        try simp [hg20]
        try (rw [Bool.eq_iff_iff]; simp; omega)
        try omega
        try simp
        try omega
        try (by_cases h9 : y = 0 <;> simp [h9])
  · simp only [sx, ty, Bool.false_eq_true, Int.reduceEq, Int.reduceLT, Nat.reduceAdd, Nat.reduceSub, Nat.reduceMul, Nat.reduceLT, Nat.reduceLeDiff, Nat.reduceEqDiff, List.reduceReplicate, reduceIte, sxk, beq_self_eq_true, bne_self_eq_false, Int.reduceBEq, Int.reduceBNe, Bool.or_false, Bool.false_or, Bool.not_false, Bool.not_true, mbits, Int.reduceToNat, Int.reducePow, Int.toNat_natCast]
    refine W.cond rfl rfl (fun hc => ?_) (fun hc => ?_)
    · skip
      refine W.pure (ds := []) rfl fun K5 hK5 => ?_
      simp only [sx, ty, Bool.false_eq_true, Int.reduceEq, Int.reduceLT, Nat.reduceAdd, Nat.reduceSub, Nat.reduceMul, Nat.reduceLT, Nat.reduceLeDiff, Nat.reduceEqDiff, List.reduceReplicate, reduceIte, beq_self_eq_true, bne_self_eq_false, Int.reduceBEq, Int.reduceBNe, Bool.or_false, Bool.false_or, Bool.not_false, Bool.not_true, mbits, Int.reduceToNat, Int.reducePow, Int.toNat_natCast]; with_reducible refine hK5 _ ?_; clear hK5
      refine W.ret ⟨by simp, _, rfl, fun ρ w1 hb => ?_⟩
      rfl
    · skip
      have hU : smallF l = true := by cases hk : smallF l <;> simp [hk] at hc ⊢
      have hy0 : y ≠ 0 := by intro h; simp [hU, h] at hc
      obtain ⟨hn, h30, hok⟩ := smallF_ok hU hI
      have hall := allF_small h30
      have h2k : (allF l).length ≤ 3210 := by omega
      have hst : allF l = allF (l.take (l.length - 1)) ++ frameF (putF (l[l.length - 1]'(by omega))) := by
        have h9 := allF_step (List.getElem?_eq_getElem (show l.length - 1 < l.length by omega))
        rwa [show l.length - 1 + 1 = l.length by omega, List.take_length] at h9
      have hfle := congrArg List.length hst
      rw [List.length_append, frameF_len] at hfle
      have hpl := putF_len (l[l.length - 1]'(by omega))
      clear hst
      obtain ⟨F0, hF0⟩ : ∃ F0, (allF (l.take (l.length - 1))).length = F0 := ⟨_, rfl⟩
      rw [hF0] at hfle
      obtain ⟨D, hD⟩ : ∃ D, (allF l).length = F0 + 3 + D := ⟨(allF l).length - F0 - 3, by omega⟩
      have hD0 : 0 < D := by omega
      clear hpl hfle
      obtain ⟨m, hm, hml⟩ := rem16 (n := D) hat hD0
      have hdn : ¬ ((D : Int) = 0) := by omega
      have hfl : 0 < (allF l).length := by omega
      obtain ⟨v9, hv9⟩ : ∃ v9, (allF l)[F0 + 3 + m]? = some v9 := ⟨_, List.getElem?_eq_getElem (by omega)⟩
      have hv9b := allF_isB hok v9 (List.mem_of_getElem? hv9)
      obtain ⟨hcb, hcn⟩ := xor_ne hv9b hy hy0
      have hT : FramesF ((allF l).set (F0 + 3 + m) (IntKind.u8.wrap ((BitVec.ofInt IntKind.u8.bits v9 ^^^ BitVec.ofInt IntKind.u8.bits y).toNat))) = (l.take (l.length - 1), F0, 0) := by rw [FramesF_ok (by rw [List.length_set]; omega), framesF_changed hok hF0 hlen0 (by omega) hcb (by rw [hv9]; intro h; exact hcn (Option.some.inj h).symm)]
      have hset : ∀ x, x ∈ (allF l).set (F0 + 3 + m) (IntKind.u8.wrap ((BitVec.ofInt IntKind.u8.bits v9 ^^^ BitVec.ofInt IntKind.u8.bits y).toNat)) → isB x := fun x hx => (List.mem_or_eq_of_mem_set hx).elim (allF_isB hok x) (fun h => by rw [h]; exact hcb)
      obtain rfl : F0 = 0 := by rw [← hF0, hlen]; rfl
      have hA1 : IntKind.i64.wrap ((0 : Int) + 3) = ((0 + 3 : Nat) : Int) := by rw [wrap_id (by omega) (by omega)]; omega
      have hA2 : IntKind.i64.wrap (((allF l).length : Int) - (0 : Int)) = ((3 + D : Nat) : Int) := by rw [wrap_id (by omega) (by omega)]; omega
      have hA3 : IntKind.i64.wrap (((3 + D : Nat) : Int) - 3) = (D : Int) := by rw [wrap_id (by omega) (by omega)]; omega
      have hA4 : IntKind.i64.wrap (((0 + 3 : Nat) : Int) + (m : Int)) = ((0 + 3 + m : Nat) : Int) := by rw [wrap_id (by omega) (by omega)]; omega
      have hA5 : IntKind.i64.wrap ((l.length : Int) - 1) = ((l.length - 1 : Nat) : Int) := by rw [wrap_id (by omega) (by omega)]; omega
      refine W.skip (hK3 _ ?_)
      refine W.seqK fun K6 hK6 => W.region ?_
      refine WO.go 1 (ds := []) rfl ?_
      simp only [sx, ty, Bool.false_eq_true, Int.reduceEq, Int.reduceLT, Nat.reduceAdd, Nat.reduceSub, Nat.reduceMul, Nat.reduceLT, Nat.reduceLeDiff, Nat.reduceEqDiff, List.reduceReplicate, reduceIte, beq_self_eq_true, bne_self_eq_false, Int.reduceBEq, Int.reduceBNe, Bool.or_false, Bool.false_or, Bool.not_false, Bool.not_true, mbits, Int.reduceToNat, Int.reducePow, Int.toNat_natCast]
      refine WO.callM (fun x : (Option Addr × Nat) × (Option Addr × Nat) => .tuple #[.slice x.1.1 (allF l).length x.1.2, .slice x.2.1 l.length x.2.2, .bool true]) (fun lo x s9 => rBytes.rd (fun b => lo ≤ b) s9 [.slice x.1.1 (allF l).length x.1.2] (allF l) ∧ rInts.rd (fun b => lo ≤ b) s9 [.slice x.2.1 l.length x.2.2] (endsF l l.length)) (ds := []) rfl rfl rfl rfl co22 (fun ρ w1 hb => frames_spec (Rp.now hl (hb.first (by simp))) hn hok) fun x lo hrs hr => ?_
      obtain ⟨⟨hrp, hrc⟩, ⟨hep, hec⟩⟩ := x
      obtain ⟨hr1, hr2⟩ := hr
      simp only at hr1 hr2
      obtain ⟨_, _, he0g1, g1, g1b⟩ := Rp.slice_val hr1
      obtain ⟨_, _, rfl⟩ := (Value.slice.injEq _ _ _ _ _ _).mp he0g1
      have g1 : (allF l).length ≤ hrc := g1
      clear he0g1
      refine WO.go 7 (ds := []) rfl ?_
      simp only [sx, ty, Bool.false_eq_true, Int.reduceEq, Int.reduceLT, Nat.reduceAdd, Nat.reduceSub, Nat.reduceMul, Nat.reduceLT, Nat.reduceLeDiff, Nat.reduceEqDiff, List.reduceReplicate, reduceIte, beq_self_eq_true, bne_self_eq_false, Int.reduceBEq, Int.reduceBNe, Bool.or_false, Bool.false_or, Bool.not_false, Bool.not_true, mbits, Int.reduceToNat, Int.reducePow, Int.toNat_natCast]
      with_reducible refine WO.nil ?_
      refine hK6 _ ?_; clear hK6
      refine W.seqK fun K7 hK7 => ?_
      refine W.join 44 (.val (.bool false)) [0, 1, 2, 7, 8, 9] (W.region ?_) ?_
      · skip
        refine WO.go 9 (ds := [some 36, some 37, some 38, some 39, some 40, some 41, some 42, some 43, some 44]) rfl ?_
        simp only [sx, ty, Bool.false_eq_true, Int.reduceEq, Int.reduceLT, Nat.reduceAdd, Nat.reduceSub, Nat.reduceMul, Nat.reduceLT, Nat.reduceLeDiff, Nat.reduceEqDiff, List.reduceReplicate, reduceIte, beq_self_eq_true, bne_self_eq_false, Int.reduceBEq, Int.reduceBNe, Bool.or_false, Bool.false_or, Bool.not_false, Bool.not_true, mbits, Int.reduceToNat, Int.reducePow, Int.toNat_natCast]
        with_reducible refine WO.nil ?_
        refine ⟨rfl, ?_, ⟨_, rfl⟩, by simp [Own.bnd, bndL, bnd, boxO], by simp⟩
        try simp [getE, bnd, keepE]
        try omega
      · simp only [sx, ty, Bool.false_eq_true, Int.reduceEq, Int.reduceLT, Nat.reduceAdd, Nat.reduceSub, Nat.reduceMul, Nat.reduceLT, Nat.reduceLeDiff, Nat.reduceEqDiff, List.reduceReplicate, reduceIte, sxk, beq_self_eq_true, bne_self_eq_false, Int.reduceBEq, Int.reduceBNe, Bool.or_false, Bool.false_or, Bool.not_false, Bool.not_true, mbits, Int.reduceToNat, Int.reducePow, Int.toNat_natCast]
        refine W.cond rfl rfl (fun hc => ?_) (fun hc => ?_)
        · skip
          simp at hc
        · skip
          refine W.skip (hK7 _ ?_)
          refine W.pure (ds := []) rfl fun K9 hK9 => ?_
          simp only [sx, ty, Bool.false_eq_true, Int.reduceEq, Int.reduceLT, Nat.reduceAdd, Nat.reduceSub, Nat.reduceMul, Nat.reduceLT, Nat.reduceLeDiff, Nat.reduceEqDiff, List.reduceReplicate, reduceIte, beq_self_eq_true, bne_self_eq_false, Int.reduceBEq, Int.reduceBNe, Bool.or_false, Bool.false_or, Bool.not_false, Bool.not_true, mbits, Int.reduceToNat, Int.reducePow, Int.toNat_natCast]; with_reducible refine hK9 _ ?_; clear hK9
          refine W.seqK fun K10 hK10 => ?_
          refine W.pure (ds := []) rfl fun K11 hK11 => ?_
          simp only [sx, ty, Bool.false_eq_true, Int.reduceEq, Int.reduceLT, Nat.reduceAdd, Nat.reduceSub, Nat.reduceMul, Nat.reduceLT, Nat.reduceLeDiff, Nat.reduceEqDiff, List.reduceReplicate, reduceIte, beq_self_eq_true, bne_self_eq_false, Int.reduceBEq, Int.reduceBNe, Bool.or_false, Bool.false_or, Bool.not_false, Bool.not_true, mbits, Int.reduceToNat, Int.reducePow, Int.toNat_natCast]; with_reducible refine hK11 _ ?_; clear hK11
          refine W.cond rfl rfl (fun hc => ?_) (fun hc => ?_)
          · skip
            (simp at hc; omega)
          · skip
            refine W.skip (hK10 _ ?_)
            refine W.seqK fun K12 hK12 => W.region ?_
            refine WO.go 2 (ds := []) rfl ?_
            simp only [sx, ty, Bool.false_eq_true, Int.reduceEq, Int.reduceLT, Nat.reduceAdd, Nat.reduceSub, Nat.reduceMul, Nat.reduceLT, Nat.reduceLeDiff, Nat.reduceEqDiff, List.reduceReplicate, reduceIte, beq_self_eq_true, bne_self_eq_false, Int.reduceBEq, Int.reduceBNe, Bool.or_false, Bool.false_or, Bool.not_false, Bool.not_true, mbits, Int.reduceToNat, Int.reducePow, Int.toNat_natCast]
            obtain h9 | ⟨a1, olds1, ha1, hnl1, hSD1, hzD1, holD1, hatD1, hrdD1⟩ := Rp.slice_cells hr1
            · exact absurd (congrArg List.length h9) (by simp only [List.length_nil]; omega)
            have hE1 := bytes_cells (by rw [holD1]; exact Nat.mul_one _) hrdD1
            have hatE1 : At hrs a1 ((allF l).map (Value.int .u8)) := by rw [← hE1]; exact hatD1
            clear hE1
            subst ha1
            refine WO.appendFull (n := 0) (m := (allF l).length) [] ((allF l).map (.int .u8)) (ds := []) rfl rfl rfl rfl ⟨_, rfl, fun ρ w1 hb => ⟨⟨ρ 0, 0, none⟩, rfl, fun j v hv => by simp at hv⟩⟩ rfl ek23 rfl (by omega) (fun ρ w1 hb => ⟨a1, hrc, rfl, hatE1.now  hb (by simp) hSD1 hzD1⟩) (by simp) (by rw [maxLen_eq]; omega) (by omega) fun q1 cq1 => ?_
            simp only [Nat.zero_add, List.nil_append, St.pushO, List.cons_append]
            refine WO.go 1 (ds := []) rfl ?_
            simp only [sx, ty, Bool.false_eq_true, Int.reduceEq, Int.reduceLT, Nat.reduceAdd, Nat.reduceSub, Nat.reduceMul, Nat.reduceLT, Nat.reduceLeDiff, Nat.reduceEqDiff, List.reduceReplicate, reduceIte, beq_self_eq_true, bne_self_eq_false, Int.reduceBEq, Int.reduceBNe, Bool.or_false, Bool.false_or, Bool.not_false, Bool.not_true, mbits, Int.reduceToNat, Int.reducePow, Int.toNat_natCast]
            with_reducible refine WO.nil ?_
            refine hK12 _ ?_; clear hK12
            refine W.ownAddr (k := 1) rfl (by omega) fun b9 hb9 => ?_
            subst hb9
            refine W.seqK fun K13 hK13 => W.region ?_
            refine WO.go 10 (ds := []) rfl ?_
            simp only [sx, ty, Bool.false_eq_true, Int.reduceEq, Int.reduceLT, Nat.reduceAdd, Nat.reduceSub, Nat.reduceMul, Nat.reduceLT, Nat.reduceLeDiff, Nat.reduceEqDiff, List.reduceReplicate, reduceIte, beq_self_eq_true, bne_self_eq_false, Int.reduceBEq, Int.reduceBNe, Bool.or_false, Bool.false_or, Bool.not_false, Bool.not_true, mbits, Int.reduceToNat, Int.reducePow, Int.toNat_natCast, hA1, hA2, hA3, hA4]
            refine WO.go 1 (ds := []) rfl ?_
            simp only [sx, ty, Bool.false_eq_true, Int.reduceEq, Int.reduceLT, Nat.reduceAdd, Nat.reduceSub, Nat.reduceMul, Nat.reduceLT, Nat.reduceLeDiff, Nat.reduceEqDiff, List.reduceReplicate, reduceIte, beq_self_eq_true, bne_self_eq_false, Int.reduceBEq, Int.reduceBNe, Bool.or_false, Bool.false_or, Bool.not_false, Bool.not_true, mbits, Int.reduceToNat, Int.reducePow, Int.toNat_natCast, hA1, hA2, hA3, hA4, if_neg hdn, hm]
            refine WO.go 1 (ds := []) rfl ?_
            simp only [sx, ty, Bool.false_eq_true, Int.reduceEq, Int.reduceLT, Nat.reduceAdd, Nat.reduceSub, Nat.reduceMul, Nat.reduceLT, Nat.reduceLeDiff, Nat.reduceEqDiff, List.reduceReplicate, reduceIte, beq_self_eq_true, bne_self_eq_false, Int.reduceBEq, Int.reduceBNe, Bool.or_false, Bool.false_or, Bool.not_false, Bool.not_true, mbits, Int.reduceToNat, Int.reducePow, Int.toNat_natCast, hA1, hA2, hA3, hA4]
            refine WO.elemOwn (k := 1) rfl (ds := []) rfl rfl rfl (by simp [St.put]) rfl rfl rfl rfl rfl rfl el23 agg5 sz5 (.inr rfl) (by omega) (by omega) (by simp) ?_
            rw [Int.toNat_natCast, row_byte hv9]
            simp only [ofCells, Bool.false_eq_true, if_false, List.headD_cons]
            refine WO.go 2 (ds := []) rfl ?_
            simp only [sx, ty, Bool.false_eq_true, Int.reduceEq, Int.reduceLT, Nat.reduceAdd, Nat.reduceSub, Nat.reduceMul, Nat.reduceLT, Nat.reduceLeDiff, Nat.reduceEqDiff, List.reduceReplicate, reduceIte, beq_self_eq_true, bne_self_eq_false, Int.reduceBEq, Int.reduceBNe, Bool.or_false, Bool.false_or, Bool.not_false, Bool.not_true, mbits, Int.reduceToNat, Int.reducePow, Int.toNat_natCast, hA1, hA2, hA3, hA4]
            refine WO.index (ds := []) rfl rfl rfl rfl rfl rfl el23 (by omega) (by omega) ?_
            simp only [sx, ty, Bool.false_eq_true, Int.reduceEq, Int.reduceLT, Nat.reduceAdd, Nat.reduceSub, Nat.reduceMul, Nat.reduceLT, Nat.reduceLeDiff, Nat.reduceEqDiff, List.reduceReplicate, reduceIte, beq_self_eq_true, bne_self_eq_false, Int.reduceBEq, Int.reduceBNe, Bool.or_false, Bool.false_or, Bool.not_false, Bool.not_true, mbits, Int.reduceToNat, Int.reducePow, Int.toNat_natCast, hA1, hA2, hA3, hA4]
            refine WO.storeOwn (k := 1) (i := 0 + 3 + m) (ds := []) rfl rfl rfl rfl rfl rfl rfl (by omega) rfl rfl sz5 ?_
            rw [show (((allF l).map (Value.int .u8)).set (0 + 3 + m) (.int .u8 (IntKind.u8.wrap ((BitVec.ofInt IntKind.u8.bits v9 ^^^ BitVec.ofInt IntKind.u8.bits y).toNat)))) = ((allF l).set (0 + 3 + m) (IntKind.u8.wrap ((BitVec.ofInt IntKind.u8.bits v9 ^^^ BitVec.ofInt IntKind.u8.bits y).toNat))).map (.int .u8) by rw [List.map_set]]
            simp only [sx, ty, Bool.false_eq_true, Int.reduceEq, Int.reduceLT, Nat.reduceAdd, Nat.reduceSub, Nat.reduceMul, Nat.reduceLT, Nat.reduceLeDiff, Nat.reduceEqDiff, List.reduceReplicate, reduceIte, beq_self_eq_true, bne_self_eq_false, Int.reduceBEq, Int.reduceBNe, Bool.or_false, Bool.false_or, Bool.not_false, Bool.not_true, mbits, Int.reduceToNat, Int.reducePow, Int.toNat_natCast, hA1, hA2, hA3, hA4]
            with_reducible refine WO.nil ?_
            refine hK13 _ ?_; clear hK13
            refine W.seqK fun K14 hK14 => W.region ?_
            refine WO.go 1 (ds := []) rfl ?_
            simp only [sx, ty, Bool.false_eq_true, Int.reduceEq, Int.reduceLT, Nat.reduceAdd, Nat.reduceSub, Nat.reduceMul, Nat.reduceLT, Nat.reduceLeDiff, Nat.reduceEqDiff, List.reduceReplicate, reduceIte, beq_self_eq_true, bne_self_eq_false, Int.reduceBEq, Int.reduceBNe, Bool.or_false, Bool.false_or, Bool.not_false, Bool.not_true, mbits, Int.reduceToNat, Int.reducePow, Int.toNat_natCast, hA1, hA2, hA3, hA4]
            refine WO.callM (fun x : Option Addr × Nat => .tuple #[.slice x.1 (l.take (l.length - 1)).length x.2, .int .i64 0, .int .i64 0]) (fun lo x s9 => rLists.rd (fun b => lo ≤ b) s9 [.slice x.1 (l.take (l.length - 1)).length x.2] (l.take (l.length - 1))) (ds := []) rfl rfl rfl rfl co18 (fun ρ w1 hb => by have h9 := Frames_spec (own_slice (A := rByte) (k := 1) (S := fun _ => True) (ys := (allF l).set (0 + 3 + m) (IntKind.u8.wrap ((BitVec.ofInt IntKind.u8.bits v9 ^^^ BitVec.ofInt IntKind.u8.bits y).toNat))) hb rfl (by simp) (fun _ _ => trivial) (bytes_read _)) hset; rw [hT] at h9; exact h9) fun x lo hr4s hr4 => ?_
            obtain ⟨hr4p, hr4c⟩ := x
            simp only at hr4
            refine WO.go 7 (ds := []) rfl ?_
            simp only [sx, ty, Bool.false_eq_true, Int.reduceEq, Int.reduceLT, Nat.reduceAdd, Nat.reduceSub, Nat.reduceMul, Nat.reduceLT, Nat.reduceLeDiff, Nat.reduceEqDiff, List.reduceReplicate, reduceIte, beq_self_eq_true, bne_self_eq_false, Int.reduceBEq, Int.reduceBNe, Bool.or_false, Bool.false_or, Bool.not_false, Bool.not_true, mbits, Int.reduceToNat, Int.reducePow, Int.toNat_natCast, hA1, hA2, hA3, hA4]
            with_reducible refine WO.nil ?_
            refine hK14 _ ?_; clear hK14
            refine W.join 6 (.val (.bool true)) [] (W.region ?_) ?_
            · skip
              refine WO.go 16 (ds := [some 80, some 81, some 82, some 83, some 84, some 85, some 86, some 87, some 88, some 89, some 90, some 91, some 92, some 93, some 94, some 95, some 96, some 97, some 98, some 6]) rfl ?_
              simp only [sx, ty, Bool.false_eq_true, Int.reduceEq, Int.reduceLT, Nat.reduceAdd, Nat.reduceSub, Nat.reduceMul, Nat.reduceLT, Nat.reduceLeDiff, Nat.reduceEqDiff, List.reduceReplicate, reduceIte, beq_self_eq_true, bne_self_eq_false, Int.reduceBEq, Int.reduceBNe, Bool.or_false, Bool.false_or, Bool.not_false, Bool.not_true, mbits, Int.reduceToNat, Int.reducePow, Int.toNat_natCast, hA1, hA2, hA3, hA4, hA5]
              obtain ⟨p8, c8, he8, hl8⟩ := Rp.sub (l := 0) (h := l.length - 1) hl (by omega) (by omega)
              rw [sub_eqL (m := l.length - 1) (by omega), List.drop_zero] at he8 hl8
              refine WO.slc (ds := [some 80, some 81, some 82, some 83, some 84, some 85, some 86, some 87, some 88, some 89, some 90, some 91, some 92, some 93, some 94, some 95, some 96, some 97, some 98, some 6]) rfl rfl rfl rfl rfl el32 rfl rfl (by simp [loS]) (by simp [loS, hiS] <;> omega) (by simp [hiS] <;> omega) ?_
              rw [show slcV 1 pl cl (loS none).toNat (hiS l.length (some (IntKind.i64, ((l.length - 1 : Nat) : Int)))).toNat = .slice p8 (l.take (l.length - 1)).length c8 from he8]
              simp only [sx, ty, Bool.false_eq_true, Int.reduceEq, Int.reduceLT, Nat.reduceAdd, Nat.reduceSub, Nat.reduceMul, Nat.reduceLT, Nat.reduceLeDiff, Nat.reduceEqDiff, List.reduceReplicate, reduceIte, beq_self_eq_true, bne_self_eq_false, Int.reduceBEq, Int.reduceBNe, Bool.or_false, Bool.false_or, Bool.not_false, Bool.not_true, mbits, Int.reduceToNat, Int.reducePow, Int.toNat_natCast, hA1, hA2, hA3, hA4, hA5]
              refine WO.call (.bool true) (ds := [some 80, some 81, some 82, some 83, some 84, some 85, some 86, some 87, some 88, some 89, some 90, some 91, some 92, some 93, some 94, some 95, some 96, some 97, some 98, some 6]) rfl rfl rfl rfl co20 (fun ρ w1 hb => sameL_self (Rp.keep hr4 (hb.at (by simp))) (Rp.now hl8 (hb.first (by simp)))) ?_
              refine WO.go 2 (ds := [some 80, some 81, some 82, some 83, some 84, some 85, some 86, some 87, some 88, some 89, some 90, some 91, some 92, some 93, some 94, some 95, some 96, some 97, some 98, some 6]) rfl ?_
              simp only [sx, ty, Bool.false_eq_true, Int.reduceEq, Int.reduceLT, Nat.reduceAdd, Nat.reduceSub, Nat.reduceMul, Nat.reduceLT, Nat.reduceLeDiff, Nat.reduceEqDiff, List.reduceReplicate, reduceIte, beq_self_eq_true, bne_self_eq_false, Int.reduceBEq, Int.reduceBNe, Bool.or_false, Bool.false_or, Bool.not_false, Bool.not_true, mbits, Int.reduceToNat, Int.reducePow, Int.toNat_natCast, hA1, hA2, hA3, hA4, hA5]
              with_reducible refine WO.nil ?_
              refine ⟨rfl, by simp [getE, bnd, keepE], ⟨_, rfl⟩, by simp [Own.bnd, bndL, bnd, boxO], by simp⟩
            · simp only [sx, ty, Bool.false_eq_true, Int.reduceEq, Int.reduceLT, Nat.reduceAdd, Nat.reduceSub, Nat.reduceMul, Nat.reduceLT, Nat.reduceLeDiff, Nat.reduceEqDiff, List.reduceReplicate, reduceIte, sxk, beq_self_eq_true, bne_self_eq_false, Int.reduceBEq, Int.reduceBNe, Bool.or_false, Bool.false_or, Bool.not_false, Bool.not_true, mbits, Int.reduceToNat, Int.reducePow, Int.toNat_natCast, hA1, hA2, hA3, hA4, hA5]
              refine W.ret ⟨by simp, _, rfl, fun ρ w1 hb => ?_⟩
              rfl
/-- function 7 -/
theorem law5c {S : Nat → Prop} {w : World} {v : Value} {l : List (List Int)} {at9 y : Int} (hl : rLists.rd S w [v] l) (hlen : l.length = 0) : Gives Try.prog 7 #[v, .int .u16 at9, .int .u8 y] w fun r _ => r = .bool true := by
  obtain ⟨pl, cl, rfl, hc1, hc2⟩ := Rp.slice_val hl
  have hl : (Rp.slice rInts).rd (fun _ => True) w _ l := Rp.any hl
  refine gives_of [.val (.slice pl l.length cl), .val (.int .u16 at9), .val (.int .u8 y)] 99 [.tmp 6] Try.func7 rfl rfl rfl (by simp) rfl rfl ?_
  refine W.pure (ds := []) rfl fun K1 hK1 => ?_
  simp only [sx, ty, Bool.false_eq_true, Int.reduceEq, Int.reduceLT, Nat.reduceAdd, Nat.reduceSub, Nat.reduceMul, Nat.reduceLT, Nat.reduceLeDiff, Nat.reduceEqDiff, List.reduceReplicate, reduceIte, beq_self_eq_true, bne_self_eq_false, Int.reduceBEq, Int.reduceBNe, Bool.or_false, Bool.false_or, Bool.not_false, Bool.not_true, mbits, Int.reduceToNat, Int.reducePow, Int.toNat_natCast]; with_reducible refine hK1 _ ?_; clear hK1
  refine W.seqK fun K2 hK2 => W.region ?_
  refine WO.call (.bool true) (ds := []) rfl rfl rfl rfl co9 (fun ρ w1 hb => head_spec w1) ?_
  refine WO.go 1 (ds := []) rfl ?_
  simp only [sx, ty, Bool.false_eq_true, Int.reduceEq, Int.reduceLT, Nat.reduceAdd, Nat.reduceSub, Nat.reduceMul, Nat.reduceLT, Nat.reduceLeDiff, Nat.reduceEqDiff, List.reduceReplicate, reduceIte, beq_self_eq_true, bne_self_eq_false, Int.reduceBEq, Int.reduceBNe, Bool.or_false, Bool.false_or, Bool.not_false, Bool.not_true, mbits, Int.reduceToNat, Int.reducePow, Int.toNat_natCast]
  with_reducible refine WO.nil ?_
  refine hK2 _ ?_; clear hK2
  refine W.seqK fun K3 hK3 => ?_
  refine W.join 28 (.val (.bool (!(smallF l) || decide (l.length = 0) || decide (y = 0)))) [0, 1, 2, 7] (W.region ?_) ?_
  · skip
    refine WO.go 1 (ds := [some 17, some 18, some 19, some 20, some 21, some 22, some 23, some 24, some 25, some 26, some 27, some 28]) rfl ?_
    simp only [sx, ty, Bool.false_eq_true, Int.reduceEq, Int.reduceLT, Nat.reduceAdd, Nat.reduceSub, Nat.reduceMul, Nat.reduceLT, Nat.reduceLeDiff, Nat.reduceEqDiff, List.reduceReplicate, reduceIte, beq_self_eq_true, bne_self_eq_false, Int.reduceBEq, Int.reduceBNe, Bool.or_false, Bool.false_or, Bool.not_false, Bool.not_true, mbits, Int.reduceToNat, Int.reducePow, Int.toNat_natCast]
    refine WO.call (.bool (smallF l)) (ds := [some 17, some 18, some 19, some 20, some 21, some 22, some 23, some 24, some 25, some 26, some 27, some 28]) rfl rfl rfl rfl co21 (fun ρ w1 hb => small_spec (Rp.now hl (hb.first (by simp)))) ?_
    refine WO.go 2 (ds := [some 17, some 18, some 19, some 20, some 21, some 22, some 23, some 24, some 25, some 26, some 27, some 28]) rfl ?_
    simp only [sx, ty, Bool.false_eq_true, Int.reduceEq, Int.reduceLT, Nat.reduceAdd, Nat.reduceSub, Nat.reduceMul, Nat.reduceLT, Nat.reduceLeDiff, Nat.reduceEqDiff, List.reduceReplicate, reduceIte, beq_self_eq_true, bne_self_eq_false, Int.reduceBEq, Int.reduceBNe, Bool.or_false, Bool.false_or, Bool.not_false, Bool.not_true, mbits, Int.reduceToNat, Int.reducePow, Int.toNat_natCast]
    refine WO.cases 20 _ rfl (fun hg20 => ?_) (fun hg20 => ?_)
    · skip
      refine WO.go 8 (ds := [some 17, some 18, some 19, some 20, some 21, some 22, some 23, some 24, some 25, some 26, some 27, some 28]) rfl ?_
      simp only [sx, ty, Bool.false_eq_true, Int.reduceEq, Int.reduceLT, Nat.reduceAdd, Nat.reduceSub, Nat.reduceMul, Nat.reduceLT, Nat.reduceLeDiff, Nat.reduceEqDiff, List.reduceReplicate, reduceIte, beq_self_eq_true, bne_self_eq_false, Int.reduceBEq, Int.reduceBNe, Bool.or_false, Bool.false_or, Bool.not_false, Bool.not_true, mbits, Int.reduceToNat, Int.reducePow, Int.toNat_natCast]
      with_reducible refine WO.nil ?_
      refine ⟨rfl, ?_, ⟨_, rfl⟩, by simp [Own.bnd, bndL, bnd, boxO], by simp⟩
      try rw [hg20]
      try rw [hg25]
      simp [getE, bnd, keepE]
      try simp at hg20
      try simp at hg25
      try simp [hg20, hg25]
      try simp [hg20]
      try (rw [Bool.eq_iff_iff]; simp; omega)
      try omega
      try simp
      try omega
      try (by_cases h9 : y = 0 <;> simp [h9])
    · skip
      refine WO.go 5 (ds := [some 17, some 18, some 19, some 20, some 21, some 22, some 23, some 24, some 25, some 26, some 27, some 28]) rfl ?_
      simp only [sx, ty, Bool.false_eq_true, Int.reduceEq, Int.reduceLT, Nat.reduceAdd, Nat.reduceSub, Nat.reduceMul, Nat.reduceLT, Nat.reduceLeDiff, Nat.reduceEqDiff, List.reduceReplicate, reduceIte, beq_self_eq_true, bne_self_eq_false, Int.reduceBEq, Int.reduceBNe, Bool.or_false, Bool.false_or, Bool.not_false, Bool.not_true, mbits, Int.reduceToNat, Int.reducePow, Int.toNat_natCast]
      refine WO.cases 25 _ rfl (fun hg25 => ?_) (fun hg25 => ?_)
      · skip
        refine WO.go 3 (ds := [some 17, some 18, some 19, some 20, some 21, some 22, some 23, some 24, some 25, some 26, some 27, some 28]) rfl ?_
        simp only [sx, ty, Bool.false_eq_true, Int.reduceEq, Int.reduceLT, Nat.reduceAdd, Nat.reduceSub, Nat.reduceMul, Nat.reduceLT, Nat.reduceLeDiff, Nat.reduceEqDiff, List.reduceReplicate, reduceIte, beq_self_eq_true, bne_self_eq_false, Int.reduceBEq, Int.reduceBNe, Bool.or_false, Bool.false_or, Bool.not_false, Bool.not_true, mbits, Int.reduceToNat, Int.reducePow, Int.toNat_natCast]
        with_reducible refine WO.nil ?_
        refine ⟨rfl, ?_, ⟨_, rfl⟩, by simp [Own.bnd, bndL, bnd, boxO], by simp⟩
        try rw [hg20]
        try rw [hg25]
        simp [getE, bnd, keepE]
        try simp at hg20
        try simp at hg25
        try simp [hg20, hg25]
        try simp [hg20]
        try (rw [Bool.eq_iff_iff]; simp; omega)
        try omega
        try simp
        try omega
        try (by_cases h9 : y = 0 <;> simp [h9])
      · skip
        refine WO.go 3 (ds := [some 17, some 18, some 19, some 20, some 21, some 22, some 23, some 24, some 25, some 26, some 27, some 28]) rfl ?_
        simp only [sx, ty, Bool.false_eq_true, Int.reduceEq, Int.reduceLT, Nat.reduceAdd, Nat.reduceSub, Nat.reduceMul, Nat.reduceLT, Nat.reduceLeDiff, Nat.reduceEqDiff, List.reduceReplicate, reduceIte, beq_self_eq_true, bne_self_eq_false, Int.reduceBEq, Int.reduceBNe, Bool.or_false, Bool.false_or, Bool.not_false, Bool.not_true, mbits, Int.reduceToNat, Int.reducePow, Int.toNat_natCast]
        with_reducible refine WO.nil ?_
        refine ⟨rfl, ?_, ⟨_, rfl⟩, by simp [Own.bnd, bndL, bnd, boxO], by simp⟩
        try rw [hg20]
        try rw [hg25]
        simp [getE, bnd, keepE]
        try simp at hg20
        try simp at hg25
        try simp [hg20, hg25]
        try simp [hg20]
        try (rw [Bool.eq_iff_iff]; simp; omega)
        try omega
        try simp
        try omega
        try (by_cases h9 : y = 0 <;> simp [h9])
  · simp only [sx, ty, Bool.false_eq_true, Int.reduceEq, Int.reduceLT, Nat.reduceAdd, Nat.reduceSub, Nat.reduceMul, Nat.reduceLT, Nat.reduceLeDiff, Nat.reduceEqDiff, List.reduceReplicate, reduceIte, sxk, beq_self_eq_true, bne_self_eq_false, Int.reduceBEq, Int.reduceBNe, Bool.or_false, Bool.false_or, Bool.not_false, Bool.not_true, mbits, Int.reduceToNat, Int.reducePow, Int.toNat_natCast]
    refine W.cond rfl rfl (fun hc => ?_) (fun hc => ?_)
    rotate_left
    · skip
      (have h0 : l = [] := List.length_eq_zero_iff.1 hlen; simp [h0] at hc)
    · skip
      refine W.pure (ds := []) rfl fun K5 hK5 => ?_
      simp only [sx, ty, Bool.false_eq_true, Int.reduceEq, Int.reduceLT, Nat.reduceAdd, Nat.reduceSub, Nat.reduceMul, Nat.reduceLT, Nat.reduceLeDiff, Nat.reduceEqDiff, List.reduceReplicate, reduceIte, beq_self_eq_true, bne_self_eq_false, Int.reduceBEq, Int.reduceBNe, Bool.or_false, Bool.false_or, Bool.not_false, Bool.not_true, mbits, Int.reduceToNat, Int.reducePow, Int.toNat_natCast]; with_reducible refine hK5 _ ?_; clear hK5
      refine W.ret ⟨by simp, _, rfl, fun ρ w1 hb => ?_⟩
      rfl

theorem law5 {S : Nat → Prop} {w : World} {v : Value} {l : List (List Int)} {at9 y : Int} (hl : rLists.rd S w [v] l) (hI : ∀ x, x ∈ l → ∀ n, n ∈ x → isI n) (hat : 0 ≤ at9 ∧ at9 ≤ 65535) (hy : isB y) : Gives Try.prog 7 #[v, .int .u16 at9, .int .u8 y] w fun r _ => r = .bool true := by
  rcases Nat.lt_or_ge 1 l.length with h | h
  · exact law5a hl hI hat hy h (by omega)
  · rcases Nat.eq_zero_or_pos l.length with h0 | h0
    · exact law5c hl h0
    · exact law5b hl hI hat hy (by omega) h0
end Go.Proofs.Ytnbfdncmlbegmaa
