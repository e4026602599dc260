/-
  Codec: CodecMatchesReference: walk.
-/
import Derived.Test.YtnbfdncmlbegmaaC15
set_option linter.unusedVariables false
set_option linter.unusedSimpArgs false
set_option maxHeartbeats 1000000
namespace Go.Proofs.Ytnbfdncmlbegmaa
open Go Go.SX Go.RowKit

theorem putsF_isB : ∀ {l : List Int}, (∀ x, x ∈ l → isI x) → ∀ x, x ∈ putsF l → isB x
  | [], _, x, hx => by simp [putsF] at hx
  | n :: l, h, x, hx => by
    rw [show putsF (n :: l) = oneF n ++ putsF l by simp [putsF]] at hx
    rcases List.mem_append.1 hx with hx | hx
    · exact oneF_bytes (h n List.mem_cons_self) x hx
    · exact putsF_isB (fun y hy => h y (List.mem_cons_of_mem _ hy)) x hx
theorem putF_isB {l : List Int} (h : ∀ x, x ∈ l → isI x) (hl : l.length ≤ 4000) : ∀ x, x ∈ putF l → isB x := fun x hx => by
  rcases List.mem_append.1 hx with hx | hx
  · exact oneF_bytes (by unfold isI; omega) x hx
  · exact putsF_isB h x hx
theorem PutF_isB {l : List Int} (h : ∀ x, x ∈ l → isI x) : ∀ x, x ∈ (PutF l).1 → isB x := fun x hx => by
  by_cases h0 : 4000 < l.length
  · rw [PutF_long h0] at hx; cases hx
  · rw [PutF_ok h0] at hx; exact putF_isB h (by omega) x hx
theorem hdr_isB (n : Nat) : ∀ x, x ∈ hdr n → isB x := fun x hx => by
  simp only [hdr, List.mem_cons, List.not_mem_nil, or_false] at hx
  unfold isB
  rcases hx with rfl | rfl | rfl <;> omega
theorem frameF_isB {b : List Int} (h : ∀ x, x ∈ b → isB x) : ∀ x, x ∈ frameF b → isB x := fun x hx => by
  rcases List.mem_append.1 hx with hx | hx
  · rcases List.mem_append.1 hx with hx | hx
    · exact hdr_isB _ x hx
    · exact h x hx
  · exact bigE_isB _ x hx
theorem FrameF_isB {l : List Int} (h : ∀ x, x ∈ l → isI x) : ∀ x, x ∈ (FrameF l).1 → isB x := fun x hx => by
  by_cases h0 : 4000 < l.length
  · rw [FrameF_long h0] at hx; cases hx
  · rw [FrameF_ok h0] at hx; exact frameF_isB (putF_isB h (by omega)) x hx

theorem sameB_self {S S2 : Nat → Prop} {w : World} {v u : Value} {a : List Int} (hl : rBytes.rd S w [v] a) (hl2 : rBytes.rd S2 w [u] a) (ha : ∀ x, x ∈ a → isB x) : Gives Try.prog 12 #[v, u] w fun r _ => r = .bool true := (sameB_spec hl hl2 ha ha).mono fun _ _ _ h => by simpa using h
theorem sameI_self {S S2 : Nat → Prop} {w : World} {v u : Value} {a : List Int} (hl : rInts.rd S w [v] a) (hl2 : rInts.rd S2 w [u] a) : Gives Try.prog 17 #[v, u] w fun r _ => r = .bool true := (sameI_spec hl hl2).mono fun _ _ _ h => by simpa using h
theorem sameL_self {S S2 : Nat → Prop} {w : World} {v u : Value} {a : List (List Int)} (hl : rLists.rd S w [v] a) (hl2 : rLists.rd S2 w [u] a) : Gives Try.prog 20 #[v, u] w fun r _ => r = .bool true := (sameL_spec hl hl2).mono fun _ _ _ h => by simpa using h
/-- function 3 -/
theorem law1 {S S2 : Nat → Prop} {w : World} {v u : Value} {l b : List Int} (hl : rInts.rd S w [v] l) (hl2 : rBytes.rd S2 w [u] b) (hI : ∀ x, x ∈ l → isI x) (hb8 : ∀ x, x ∈ b → isB x) : Gives Try.prog 3 #[v, u] w fun r _ => r = .bool true := by
  obtain ⟨p, c, rfl, hc1, hc2⟩ := Rp.slice_val hl
  obtain ⟨p2, c2, rfl, hc3, hc4⟩ := Rp.slice_val hl2
  have hl : (Rp.slice rInt).rd (fun _ => True) w _ l := Rp.any hl
  have hl2 : (Rp.slice rByte).rd (fun _ => True) w _ b := Rp.any hl2
  refine gives_of [.val (.slice p l.length c), .val (.slice p2 b.length c2)] 132 [.tmp 4] Try.func3 rfl rfl rfl (by simp) rfl rfl ?_
  refine W.pure (ds := []) rfl fun K1 hK1 => ?_
  simp only [sx, ty, Bool.false_eq_true, Int.reduceEq, Int.reduceLT, Nat.reduceAdd, Nat.reduceSub, Nat.reduceMul, Nat.reduceLT, Nat.reduceLeDiff, Nat.reduceEqDiff, List.reduceReplicate, reduceIte, beq_self_eq_true, bne_self_eq_false, Int.reduceBEq, Int.reduceBNe, Bool.or_false, Bool.false_or, Bool.not_false, Bool.not_true, mbits, Int.reduceToNat, Int.reducePow, Int.toNat_natCast]; with_reducible refine hK1 _ ?_; clear hK1
  refine W.seqK fun K2 hK2 => W.region ?_
  refine WO.call (.bool true) (ds := []) rfl rfl rfl rfl co9 (fun ρ w1 hb => head_spec w1) ?_
  refine WO.go 1 (ds := []) rfl ?_
  simp only [sx, ty, Bool.false_eq_true, Int.reduceEq, Int.reduceLT, Nat.reduceAdd, Nat.reduceSub, Nat.reduceMul, Nat.reduceLT, Nat.reduceLeDiff, Nat.reduceEqDiff, List.reduceReplicate, reduceIte, beq_self_eq_true, bne_self_eq_false, Int.reduceBEq, Int.reduceBNe, Bool.or_false, Bool.false_or, Bool.not_false, Bool.not_true, mbits, Int.reduceToNat, Int.reducePow, Int.toNat_natCast]
  with_reducible refine WO.nil ?_
  refine hK2 _ ?_; clear hK2
  refine W.seqK fun K3 hK3 => ?_
  refine W.join 36 (.val (.bool (decide ((300 < l.length ∧ l.length ≤ 4000) ∨ (3000 < b.length ∧ b.length ≤ 200000))))) [0, 1, 5] (W.region ?_) ?_
  · skip
    refine WO.go 4 (ds := [some 19, some 20, some 21, some 22, some 23, some 24, some 25, some 26, some 27, some 28, some 29, some 30, some 31, some 32, some 33, some 34, some 35, some 36]) rfl ?_
    simp only [sx, ty, Bool.false_eq_true, Int.reduceEq, Int.reduceLT, Nat.reduceAdd, Nat.reduceSub, Nat.reduceMul, Nat.reduceLT, Nat.reduceLeDiff, Nat.reduceEqDiff, List.reduceReplicate, reduceIte, beq_self_eq_true, bne_self_eq_false, Int.reduceBEq, Int.reduceBNe, Bool.or_false, Bool.false_or, Bool.not_false, Bool.not_true, mbits, Int.reduceToNat, Int.reducePow, Int.toNat_natCast]
    refine WO.cases 22 _ rfl (fun hg22 => ?_) (fun hg22 => ?_)
    · skip
      refine WO.go 5 (ds := [some 19, some 20, some 21, some 22, some 23, some 24, some 25, some 26, some 27, some 28, some 29, some 30, some 31, some 32, some 33, some 34, some 35, some 36]) rfl ?_
      simp only [sx, ty, Bool.false_eq_true, Int.reduceEq, Int.reduceLT, Nat.reduceAdd, Nat.reduceSub, Nat.reduceMul, Nat.reduceLT, Nat.reduceLeDiff, Nat.reduceEqDiff, List.reduceReplicate, reduceIte, beq_self_eq_true, bne_self_eq_false, Int.reduceBEq, Int.reduceBNe, Bool.or_false, Bool.false_or, Bool.not_false, Bool.not_true, mbits, Int.reduceToNat, Int.reducePow, Int.toNat_natCast]
      refine WO.cases 27 _ rfl (fun hg27 => ?_) (fun hg27 => ?_)
      · skip
        refine WO.go 9 (ds := [some 19, some 20, some 21, some 22, some 23, some 24, some 25, some 26, some 27, some 28, some 29, some 30, some 31, some 32, some 33, some 34, some 35, some 36]) rfl ?_
        simp only [sx, ty, Bool.false_eq_true, Int.reduceEq, Int.reduceLT, Nat.reduceAdd, Nat.reduceSub, Nat.reduceMul, Nat.reduceLT, Nat.reduceLeDiff, Nat.reduceEqDiff, List.reduceReplicate, reduceIte, beq_self_eq_true, bne_self_eq_false, Int.reduceBEq, Int.reduceBNe, Bool.or_false, Bool.false_or, Bool.not_false, Bool.not_true, mbits, Int.reduceToNat, Int.reducePow, Int.toNat_natCast]
        with_reducible refine WO.nil ?_
        refine ⟨rfl, ?_, ⟨_, rfl⟩, by simp [Own.bnd, bndL, bnd, boxO], by simp⟩
        try rw [hg22]
        try rw [hg27]
        try rw [hg31]
        simp [getE, bnd, keepE]
        try simp at hg22
        try simp at hg27
        try simp at hg31
        try (rw [Bool.eq_iff_iff]; simp; omega)
        try omega
        try simp
        try omega
      · skip
        refine WO.go 4 (ds := [some 19, some 20, some 21, some 22, some 23, some 24, some 25, some 26, some 27, some 28, some 29, some 30, some 31, some 32, some 33, some 34, some 35, some 36]) rfl ?_
        simp only [sx, ty, Bool.false_eq_true, Int.reduceEq, Int.reduceLT, Nat.reduceAdd, Nat.reduceSub, Nat.reduceMul, Nat.reduceLT, Nat.reduceLeDiff, Nat.reduceEqDiff, List.reduceReplicate, reduceIte, beq_self_eq_true, bne_self_eq_false, Int.reduceBEq, Int.reduceBNe, Bool.or_false, Bool.false_or, Bool.not_false, Bool.not_true, mbits, Int.reduceToNat, Int.reducePow, Int.toNat_natCast]
        refine WO.cases 31 _ rfl (fun hg31 => ?_) (fun hg31 => ?_)
        · skip
          refine WO.go 5 (ds := [some 19, some 20, some 21, some 22, some 23, some 24, some 25, some 26, some 27, some 28, some 29, some 30, some 31, some 32, some 33, some 34, some 35, some 36]) rfl ?_
          simp only [sx, ty, Bool.false_eq_true, Int.reduceEq, Int.reduceLT, Nat.reduceAdd, Nat.reduceSub, Nat.reduceMul, Nat.reduceLT, Nat.reduceLeDiff, Nat.reduceEqDiff, List.reduceReplicate, reduceIte, beq_self_eq_true, bne_self_eq_false, Int.reduceBEq, Int.reduceBNe, Bool.or_false, Bool.false_or, Bool.not_false, Bool.not_true, mbits, Int.reduceToNat, Int.reducePow, Int.toNat_natCast]
          with_reducible refine WO.nil ?_
          refine ⟨rfl, ?_, ⟨_, rfl⟩, by simp [Own.bnd, bndL, bnd, boxO], by simp⟩
          try rw [hg22]
          try rw [hg27]
          try rw [hg31]
          simp [getE, bnd, keepE]
          try simp at hg22
          try simp at hg27
          try simp at hg31
          try (rw [Bool.eq_iff_iff]; simp; omega)
          try omega
          try simp
          try omega
        · skip
          refine WO.go 5 (ds := [some 19, some 20, some 21, some 22, some 23, some 24, some 25, some 26, some 27, some 28, some 29, some 30, some 31, some 32, some 33, some 34, some 35, some 36]) rfl ?_
          simp only [sx, ty, Bool.false_eq_true, Int.reduceEq, Int.reduceLT, Nat.reduceAdd, Nat.reduceSub, Nat.reduceMul, Nat.reduceLT, Nat.reduceLeDiff, Nat.reduceEqDiff, List.reduceReplicate, reduceIte, beq_self_eq_true, bne_self_eq_false, Int.reduceBEq, Int.reduceBNe, Bool.or_false, Bool.false_or, Bool.not_false, Bool.not_true, mbits, Int.reduceToNat, Int.reducePow, Int.toNat_natCast]
          with_reducible refine WO.nil ?_
          refine ⟨rfl, ?_, ⟨_, rfl⟩, by simp [Own.bnd, bndL, bnd, boxO], by simp⟩
          try rw [hg22]
          try rw [hg27]
          try rw [hg31]
          simp [getE, bnd, keepE]
          try simp at hg22
          try simp at hg27
          try simp at hg31
          try (rw [Bool.eq_iff_iff]; simp; omega)
          try omega
          try simp
          try omega
    · skip
      refine WO.go 9 (ds := [some 19, some 20, some 21, some 22, some 23, some 24, some 25, some 26, some 27, some 28, some 29, some 30, some 31, some 32, some 33, some 34, some 35, some 36]) rfl ?_
      simp only [sx, ty, Bool.false_eq_true, Int.reduceEq, Int.reduceLT, Nat.reduceAdd, Nat.reduceSub, Nat.reduceMul, Nat.reduceLT, Nat.reduceLeDiff, Nat.reduceEqDiff, List.reduceReplicate, reduceIte, beq_self_eq_true, bne_self_eq_false, Int.reduceBEq, Int.reduceBNe, Bool.or_false, Bool.false_or, Bool.not_false, Bool.not_true, mbits, Int.reduceToNat, Int.reducePow, Int.toNat_natCast]
      refine WO.cases 31 _ rfl (fun hg31 => ?_) (fun hg31 => ?_)
      · skip
        refine WO.go 5 (ds := [some 19, some 20, some 21, some 22, some 23, some 24, some 25, some 26, some 27, some 28, some 29, some 30, some 31, some 32, some 33, some 34, some 35, some 36]) rfl ?_
        simp only [sx, ty, Bool.false_eq_true, Int.reduceEq, Int.reduceLT, Nat.reduceAdd, Nat.reduceSub, Nat.reduceMul, Nat.reduceLT, Nat.reduceLeDiff, Nat.reduceEqDiff, List.reduceReplicate, reduceIte, beq_self_eq_true, bne_self_eq_false, Int.reduceBEq, Int.reduceBNe, Bool.or_false, Bool.false_or, Bool.not_false, Bool.not_true, mbits, Int.reduceToNat, Int.reducePow, Int.toNat_natCast]
        with_reducible refine WO.nil ?_
        refine ⟨rfl, ?_, ⟨_, rfl⟩, by simp [Own.bnd, bndL, bnd, boxO], by simp⟩
        try rw [hg22]
        try rw [hg27]
        try rw [hg31]
        simp [getE, bnd, keepE]
        try simp at hg22
        try simp at hg27
        try simp at hg31
        try (rw [Bool.eq_iff_iff]; simp; omega)
        try omega
        try simp
        try omega
      · skip
        refine WO.go 5 (ds := [some 19, some 20, some 21, some 22, some 23, some 24, some 25, some 26, some 27, some 28, some 29, some 30, some 31, some 32, some 33, some 34, some 35, some 36]) rfl ?_
        simp only [sx, ty, Bool.false_eq_true, Int.reduceEq, Int.reduceLT, Nat.reduceAdd, Nat.reduceSub, Nat.reduceMul, Nat.reduceLT, Nat.reduceLeDiff, Nat.reduceEqDiff, List.reduceReplicate, reduceIte, beq_self_eq_true, bne_self_eq_false, Int.reduceBEq, Int.reduceBNe, Bool.or_false, Bool.false_or, Bool.not_false, Bool.not_true, mbits, Int.reduceToNat, Int.reducePow, Int.toNat_natCast]
        with_reducible refine WO.nil ?_
        refine ⟨rfl, ?_, ⟨_, rfl⟩, by simp [Own.bnd, bndL, bnd, boxO], by simp⟩
        try rw [hg22]
        try rw [hg27]
        try rw [hg31]
        simp [getE, bnd, keepE]
        try simp at hg22
        try simp at hg27
        try simp at hg31
        try (rw [Bool.eq_iff_iff]; simp; omega)
        try omega
        try simp
        try omega
  · simp only [sx, ty, Bool.false_eq_true, Int.reduceEq, Int.reduceLT, Nat.reduceAdd, Nat.reduceSub, Nat.reduceMul, Nat.reduceLT, Nat.reduceLeDiff, Nat.reduceEqDiff, List.reduceReplicate, reduceIte, sxk, beq_self_eq_true, bne_self_eq_false, Int.reduceBEq, Int.reduceBNe, Bool.or_false, Bool.false_or, Bool.not_false, Bool.not_true, mbits, Int.reduceToNat, Int.reducePow, Int.toNat_natCast]
    refine W.cond rfl rfl (fun hc => ?_) (fun hc => ?_)
    · skip
      have h0 : ((300 < l.length ∧ l.length ≤ 4000) ∨ (3000 < b.length ∧ b.length ≤ 200000)) := by simpa using hc
      refine W.pure (ds := []) rfl fun K5 hK5 => ?_
      simp only [sx, ty, Bool.false_eq_true, Int.reduceEq, Int.reduceLT, Nat.reduceAdd, Nat.reduceSub, Nat.reduceMul, Nat.reduceLT, Nat.reduceLeDiff, Nat.reduceEqDiff, List.reduceReplicate, reduceIte, beq_self_eq_true, bne_self_eq_false, Int.reduceBEq, Int.reduceBNe, Bool.or_false, Bool.false_or, Bool.not_false, Bool.not_true, mbits, Int.reduceToNat, Int.reducePow, Int.toNat_natCast]; with_reducible refine hK5 _ ?_; clear hK5
      refine W.ret ⟨by simp, _, rfl, fun ρ w1 hb => ?_⟩
      rfl
    · skip
      have h0 : ¬ ((300 < l.length ∧ l.length ≤ 4000) ∨ (3000 < b.length ∧ b.length ≤ 200000)) := by simpa using hc
      refine W.skip (hK3 _ ?_)
      refine W.seqK fun K6 hK6 => W.region ?_
      refine WO.go 1 (ds := []) rfl ?_
      simp only [sx, ty, Bool.false_eq_true, Int.reduceEq, Int.reduceLT, Nat.reduceAdd, Nat.reduceSub, Nat.reduceMul, Nat.reduceLT, Nat.reduceLeDiff, Nat.reduceEqDiff, List.reduceReplicate, reduceIte, beq_self_eq_true, bne_self_eq_false, Int.reduceBEq, Int.reduceBNe, Bool.or_false, Bool.false_or, Bool.not_false, Bool.not_true, mbits, Int.reduceToNat, Int.reducePow, Int.toNat_natCast]
      refine WO.callM (fun x : Option Addr × Nat => .tuple #[.slice x.1 (PutF l).1.length x.2, .int .i64 (PutF l).2]) (fun lo x s9 => rBytes.rd (fun b => lo ≤ b) s9 [.slice x.1 (PutF l).1.length x.2] (PutF l).1) (ds := []) rfl rfl rfl rfl co10 (fun ρ w1 hb => Put_spec (Rp.now hl (hb.first (by simp))) hI) fun x lo hr1s hr1 => ?_
      obtain ⟨hr1p, hr1c⟩ := x
      simp only at hr1
      refine WO.go 5 (ds := []) rfl ?_
      simp only [sx, ty, Bool.false_eq_true, Int.reduceEq, Int.reduceLT, Nat.reduceAdd, Nat.reduceSub, Nat.reduceMul, Nat.reduceLT, Nat.reduceLeDiff, Nat.reduceEqDiff, List.reduceReplicate, reduceIte, beq_self_eq_true, bne_self_eq_false, Int.reduceBEq, Int.reduceBNe, Bool.or_false, Bool.false_or, Bool.not_false, Bool.not_true, mbits, Int.reduceToNat, Int.reducePow, Int.toNat_natCast]
      with_reducible refine WO.nil ?_
      refine hK6 _ ?_; clear hK6
      refine W.seqK fun K7 hK7 => W.region ?_
      refine WO.go 1 (ds := []) rfl ?_
      simp only [sx, ty, Bool.false_eq_true, Int.reduceEq, Int.reduceLT, Nat.reduceAdd, Nat.reduceSub, Nat.reduceMul, Nat.reduceLT, Nat.reduceLeDiff, Nat.reduceEqDiff, List.reduceReplicate, reduceIte, beq_self_eq_true, bne_self_eq_false, Int.reduceBEq, Int.reduceBNe, Bool.or_false, Bool.false_or, Bool.not_false, Bool.not_true, mbits, Int.reduceToNat, Int.reducePow, Int.toNat_natCast]
      refine WO.callM (fun x : Option Addr × Nat => .tuple #[.slice x.1 (PutF l).1.length x.2, .int .i64 (PutF l).2]) (fun lo x s9 => rBytes.rd (fun b => lo ≤ b) s9 [.slice x.1 (PutF l).1.length x.2] (PutF l).1) (ds := []) rfl rfl rfl rfl co11 (fun ρ w1 hb => rPut_spec (Rp.now hl (hb.first (by simp))) hI) fun x lo hr2s hr2 => ?_
      obtain ⟨hr2p, hr2c⟩ := x
      simp only at hr2
      refine WO.go 5 (ds := []) rfl ?_
      simp only [sx, ty, Bool.false_eq_true, Int.reduceEq, Int.reduceLT, Nat.reduceAdd, Nat.reduceSub, Nat.reduceMul, Nat.reduceLT, Nat.reduceLeDiff, Nat.reduceEqDiff, List.reduceReplicate, reduceIte, beq_self_eq_true, bne_self_eq_false, Int.reduceBEq, Int.reduceBNe, Bool.or_false, Bool.false_or, Bool.not_false, Bool.not_true, mbits, Int.reduceToNat, Int.reducePow, Int.toNat_natCast]
      with_reducible refine WO.nil ?_
      refine hK7 _ ?_; clear hK7
      refine W.join 5 (.val (.bool true)) [0, 1] (W.region ?_) ?_
      · skip
        refine WO.go 4 (ds := [some 48, some 49, some 50, some 51, some 52, some 53, some 54, some 55, some 56, some 57, some 58, some 5]) rfl ?_
        simp only [sx, ty, Bool.false_eq_true, Int.reduceEq, Int.reduceLT, Nat.reduceAdd, Nat.reduceSub, Nat.reduceMul, Nat.reduceLT, Nat.reduceLeDiff, Nat.reduceEqDiff, List.reduceReplicate, reduceIte, beq_self_eq_true, bne_self_eq_false, Int.reduceBEq, Int.reduceBNe, Bool.or_false, Bool.false_or, Bool.not_false, Bool.not_true, mbits, Int.reduceToNat, Int.reducePow, Int.toNat_natCast]
        refine WO.call (.bool true) (ds := [some 48, some 49, some 50, some 51, some 52, some 53, some 54, some 55, some 56, some 57, some 58, some 5]) rfl rfl rfl rfl co12 (fun ρ w1 hb => sameB_self (Rp.keep hr1 (hb.at (by simp))) (Rp.keep hr2 (hb.at (by simp))) (PutF_isB hI)) ?_
        refine WO.go 7 (ds := [some 48, some 49, some 50, some 51, some 52, some 53, some 54, some 55, some 56, some 57, some 58, some 5]) rfl ?_
        simp only [sx, ty, Bool.false_eq_true, Int.reduceEq, Int.reduceLT, Nat.reduceAdd, Nat.reduceSub, Nat.reduceMul, Nat.reduceLT, Nat.reduceLeDiff, Nat.reduceEqDiff, List.reduceReplicate, reduceIte, beq_self_eq_true, bne_self_eq_false, Int.reduceBEq, Int.reduceBNe, Bool.or_false, Bool.false_or, Bool.not_false, Bool.not_true, mbits, Int.reduceToNat, Int.reducePow, Int.toNat_natCast]
        with_reducible refine WO.nil ?_
        refine ⟨rfl, by simp [getE, bnd, keepE], ⟨_, rfl⟩, by simp [Own.bnd, bndL, bnd, boxO], by simp⟩
      · simp only [sx, ty, Bool.false_eq_true, Int.reduceEq, Int.reduceLT, Nat.reduceAdd, Nat.reduceSub, Nat.reduceMul, Nat.reduceLT, Nat.reduceLeDiff, Nat.reduceEqDiff, List.reduceReplicate, reduceIte, sxk, beq_self_eq_true, bne_self_eq_false, Int.reduceBEq, Int.reduceBNe, Bool.or_false, Bool.false_or, Bool.not_false, Bool.not_true, mbits, Int.reduceToNat, Int.reducePow, Int.toNat_natCast]
        refine W.seqK fun K9 hK9 => W.region ?_
        refine WO.go 1 (ds := []) rfl ?_
        simp only [sx, ty, Bool.false_eq_true, Int.reduceEq, Int.reduceLT, Nat.reduceAdd, Nat.reduceSub, Nat.reduceMul, Nat.reduceLT, Nat.reduceLeDiff, Nat.reduceEqDiff, List.reduceReplicate, reduceIte, beq_self_eq_true, bne_self_eq_false, Int.reduceBEq, Int.reduceBNe, Bool.or_false, Bool.false_or, Bool.not_false, Bool.not_true, mbits, Int.reduceToNat, Int.reducePow, Int.toNat_natCast]
        refine WO.callM (fun x : Option Addr × Nat => .tuple #[.slice x.1 (FrameF l).1.length x.2, .int .i64 (FrameF l).2]) (fun lo x s9 => rBytes.rd (fun b => lo ≤ b) s9 [.slice x.1 (FrameF l).1.length x.2] (FrameF l).1) (ds := []) rfl rfl rfl rfl co13 (fun ρ w1 hb => Frame_spec (Rp.now hl (hb.first (by simp))) hI) fun x lo hr3s hr3 => ?_
        obtain ⟨hr3p, hr3c⟩ := x
        simp only at hr3
        refine WO.go 5 (ds := []) rfl ?_
        simp only [sx, ty, Bool.false_eq_true, Int.reduceEq, Int.reduceLT, Nat.reduceAdd, Nat.reduceSub, Nat.reduceMul, Nat.reduceLT, Nat.reduceLeDiff, Nat.reduceEqDiff, List.reduceReplicate, reduceIte, beq_self_eq_true, bne_self_eq_false, Int.reduceBEq, Int.reduceBNe, Bool.or_false, Bool.false_or, Bool.not_false, Bool.not_true, mbits, Int.reduceToNat, Int.reducePow, Int.toNat_natCast]
        with_reducible refine WO.nil ?_
        refine hK9 _ ?_; clear hK9
        refine W.seqK fun K10 hK10 => W.region ?_
        refine WO.go 1 (ds := []) rfl ?_
        simp only [sx, ty, Bool.false_eq_true, Int.reduceEq, Int.reduceLT, Nat.reduceAdd, Nat.reduceSub, Nat.reduceMul, Nat.reduceLT, Nat.reduceLeDiff, Nat.reduceEqDiff, List.reduceReplicate, reduceIte, beq_self_eq_true, bne_self_eq_false, Int.reduceBEq, Int.reduceBNe, Bool.or_false, Bool.false_or, Bool.not_false, Bool.not_true, mbits, Int.reduceToNat, Int.reducePow, Int.toNat_natCast]
        refine WO.callM (fun x : Option Addr × Nat => .tuple #[.slice x.1 (FrameF l).1.length x.2, .int .i64 (FrameF l).2]) (fun lo x s9 => rBytes.rd (fun b => lo ≤ b) s9 [.slice x.1 (FrameF l).1.length x.2] (FrameF l).1) (ds := []) rfl rfl rfl rfl co14 (fun ρ w1 hb => rFrame_spec (Rp.now hl (hb.first (by simp))) hI) fun x lo hr4s hr4 => ?_
        obtain ⟨hr4p, hr4c⟩ := x
        simp only at hr4
        refine WO.go 5 (ds := []) rfl ?_
        simp only [sx, ty, Bool.false_eq_true, Int.reduceEq, Int.reduceLT, Nat.reduceAdd, Nat.reduceSub, Nat.reduceMul, Nat.reduceLT, Nat.reduceLeDiff, Nat.reduceEqDiff, List.reduceReplicate, reduceIte, beq_self_eq_true, bne_self_eq_false, Int.reduceBEq, Int.reduceBNe, Bool.or_false, Bool.false_or, Bool.not_false, Bool.not_true, mbits, Int.reduceToNat, Int.reducePow, Int.toNat_natCast]
        with_reducible refine WO.nil ?_
        refine hK10 _ ?_; clear hK10
        refine W.join 5 (.val (.bool true)) [1] (W.region ?_) ?_
        · skip
          refine WO.go 4 (ds := [some 69, some 70, some 71, some 72, some 73, some 74, some 75, some 76, some 77, some 78, some 79, some 5]) rfl ?_
          simp only [sx, ty, Bool.false_eq_true, Int.reduceEq, Int.reduceLT, Nat.reduceAdd, Nat.reduceSub, Nat.reduceMul, Nat.reduceLT, Nat.reduceLeDiff, Nat.reduceEqDiff, List.reduceReplicate, reduceIte, beq_self_eq_true, bne_self_eq_false, Int.reduceBEq, Int.reduceBNe, Bool.or_false, Bool.false_or, Bool.not_false, Bool.not_true, mbits, Int.reduceToNat, Int.reducePow, Int.toNat_natCast]
          refine WO.call (.bool true) (ds := [some 69, some 70, some 71, some 72, some 73, some 74, some 75, some 76, some 77, some 78, some 79, some 5]) rfl rfl rfl rfl co12 (fun ρ w1 hb => sameB_self (Rp.keep hr3 (hb.at (by simp))) (Rp.keep hr4 (hb.at (by simp))) (FrameF_isB hI)) ?_
          refine WO.go 7 (ds := [some 69, some 70, some 71, some 72, some 73, some 74, some 75, some 76, some 77, some 78, some 79, some 5]) rfl ?_
          simp only [sx, ty, Bool.false_eq_true, Int.reduceEq, Int.reduceLT, Nat.reduceAdd, Nat.reduceSub, Nat.reduceMul, Nat.reduceLT, Nat.reduceLeDiff, Nat.reduceEqDiff, List.reduceReplicate, reduceIte, beq_self_eq_true, bne_self_eq_false, Int.reduceBEq, Int.reduceBNe, Bool.or_false, Bool.false_or, Bool.not_false, Bool.not_true, mbits, Int.reduceToNat, Int.reducePow, Int.toNat_natCast]
          with_reducible refine WO.nil ?_
          refine ⟨rfl, by simp [getE, bnd, keepE], ⟨_, rfl⟩, by simp [Own.bnd, bndL, bnd, boxO], by simp⟩
        · simp only [sx, ty, Bool.false_eq_true, Int.reduceEq, Int.reduceLT, Nat.reduceAdd, Nat.reduceSub, Nat.reduceMul, Nat.reduceLT, Nat.reduceLeDiff, Nat.reduceEqDiff, List.reduceReplicate, reduceIte, sxk, beq_self_eq_true, bne_self_eq_false, Int.reduceBEq, Int.reduceBNe, Bool.or_false, Bool.false_or, Bool.not_false, Bool.not_true, mbits, Int.reduceToNat, Int.reducePow, Int.toNat_natCast]
          refine W.seqK fun K12 hK12 => ?_
          refine W.pure (ds := []) rfl fun K13 hK13 => ?_
          simp only [sx, ty, Bool.false_eq_true, Int.reduceEq, Int.reduceLT, Nat.reduceAdd, Nat.reduceSub, Nat.reduceMul, Nat.reduceLT, Nat.reduceLeDiff, Nat.reduceEqDiff, List.reduceReplicate, reduceIte, beq_self_eq_true, bne_self_eq_false, Int.reduceBEq, Int.reduceBNe, Bool.or_false, Bool.false_or, Bool.not_false, Bool.not_true, mbits, Int.reduceToNat, Int.reducePow, Int.toNat_natCast]; with_reducible refine hK13 _ ?_; clear hK13
          refine W.cond rfl rfl (fun hc => ?_) (fun hc => ?_)
          · skip
            refine W.seqK fun K14 hK14 => W.region ?_
            refine WO.go 1 (ds := []) rfl ?_
            simp only [sx, ty, Bool.false_eq_true, Int.reduceEq, Int.reduceLT, Nat.reduceAdd, Nat.reduceSub, Nat.reduceMul, Nat.reduceLT, Nat.reduceLeDiff, Nat.reduceEqDiff, List.reduceReplicate, reduceIte, beq_self_eq_true, bne_self_eq_false, Int.reduceBEq, Int.reduceBNe, Bool.or_false, Bool.false_or, Bool.not_false, Bool.not_true, mbits, Int.reduceToNat, Int.reducePow, Int.toNat_natCast]
            refine WO.callM (fun x : Option Addr × Nat => .tuple #[.slice x.1 (GetF b).1.length x.2, .int .i64 (GetF b).2]) (fun lo x s9 => rInts.rd (fun b => lo ≤ b) s9 [.slice x.1 (GetF b).1.length x.2] (GetF b).1) (ds := []) rfl rfl rfl rfl co15 (fun ρ w1 hb => Get_spec (Rp.now hl2 (hb.first (by simp))) hb8) fun x lo hr5s hr5 => ?_
            obtain ⟨hr5p, hr5c⟩ := x
            simp only at hr5
            refine WO.go 5 (ds := []) rfl ?_
            simp only [sx, ty, Bool.false_eq_true, Int.reduceEq, Int.reduceLT, Nat.reduceAdd, Nat.reduceSub, Nat.reduceMul, Nat.reduceLT, Nat.reduceLeDiff, Nat.reduceEqDiff, List.reduceReplicate, reduceIte, beq_self_eq_true, bne_self_eq_false, Int.reduceBEq, Int.reduceBNe, Bool.or_false, Bool.false_or, Bool.not_false, Bool.not_true, mbits, Int.reduceToNat, Int.reducePow, Int.toNat_natCast]
            with_reducible refine WO.nil ?_
            refine hK14 _ ?_; clear hK14
            refine W.seqK fun K15 hK15 => W.region ?_
            refine WO.go 1 (ds := []) rfl ?_
            simp only [sx, ty, Bool.false_eq_true, Int.reduceEq, Int.reduceLT, Nat.reduceAdd, Nat.reduceSub, Nat.reduceMul, Nat.reduceLT, Nat.reduceLeDiff, Nat.reduceEqDiff, List.reduceReplicate, reduceIte, beq_self_eq_true, bne_self_eq_false, Int.reduceBEq, Int.reduceBNe, Bool.or_false, Bool.false_or, Bool.not_false, Bool.not_true, mbits, Int.reduceToNat, Int.reducePow, Int.toNat_natCast]
            refine WO.callM (fun x : Option Addr × Nat => .tuple #[.slice x.1 (GetF b).1.length x.2, .int .i64 (GetF b).2]) (fun lo x s9 => rInts.rd (fun b => lo ≤ b) s9 [.slice x.1 (GetF b).1.length x.2] (GetF b).1) (ds := []) rfl rfl rfl rfl co16 (fun ρ w1 hb => rGet_spec (Rp.now hl2 (hb.first (by simp))) hb8) fun x lo hr6s hr6 => ?_
            obtain ⟨hr6p, hr6c⟩ := x
            simp only at hr6
            refine WO.go 5 (ds := []) rfl ?_
            simp only [sx, ty, Bool.false_eq_true, Int.reduceEq, Int.reduceLT, Nat.reduceAdd, Nat.reduceSub, Nat.reduceMul, Nat.reduceLT, Nat.reduceLeDiff, Nat.reduceEqDiff, List.reduceReplicate, reduceIte, beq_self_eq_true, bne_self_eq_false, Int.reduceBEq, Int.reduceBNe, Bool.or_false, Bool.false_or, Bool.not_false, Bool.not_true, mbits, Int.reduceToNat, Int.reducePow, Int.toNat_natCast]
            with_reducible refine WO.nil ?_
            refine hK15 _ ?_; clear hK15
            refine W.region ?_
            refine WO.go 4 (ds := [some 93, some 94, some 95, some 96, some 97, some 98, some 99, some 100, some 101, some 102, some 103, some 5]) rfl ?_
            simp only [sx, ty, Bool.false_eq_true, Int.reduceEq, Int.reduceLT, Nat.reduceAdd, Nat.reduceSub, Nat.reduceMul, Nat.reduceLT, Nat.reduceLeDiff, Nat.reduceEqDiff, List.reduceReplicate, reduceIte, beq_self_eq_true, bne_self_eq_false, Int.reduceBEq, Int.reduceBNe, Bool.or_false, Bool.false_or, Bool.not_false, Bool.not_true, mbits, Int.reduceToNat, Int.reducePow, Int.toNat_natCast]
            refine WO.call (.bool true) (ds := [some 93, some 94, some 95, some 96, some 97, some 98, some 99, some 100, some 101, some 102, some 103, some 5]) rfl rfl rfl rfl co17 (fun ρ w1 hb => sameI_self (Rp.keep hr5 (hb.at (by simp))) (Rp.keep hr6 (hb.at (by simp)))) ?_
            refine WO.go 7 (ds := [some 93, some 94, some 95, some 96, some 97, some 98, some 99, some 100, some 101, some 102, some 103, some 5]) rfl ?_
            simp only [sx, ty, Bool.false_eq_true, Int.reduceEq, Int.reduceLT, Nat.reduceAdd, Nat.reduceSub, Nat.reduceMul, Nat.reduceLT, Nat.reduceLeDiff, Nat.reduceEqDiff, List.reduceReplicate, reduceIte, beq_self_eq_true, bne_self_eq_false, Int.reduceBEq, Int.reduceBNe, Bool.or_false, Bool.false_or, Bool.not_false, Bool.not_true, mbits, Int.reduceToNat, Int.reducePow, Int.toNat_natCast]
            with_reducible refine WO.nil ?_
            refine hK12 _ ?_
            refine W.seqK fun K16 hK16 => W.region ?_
            refine WO.go 1 (ds := []) rfl ?_
            simp only [sx, ty, Bool.false_eq_true, Int.reduceEq, Int.reduceLT, Nat.reduceAdd, Nat.reduceSub, Nat.reduceMul, Nat.reduceLT, Nat.reduceLeDiff, Nat.reduceEqDiff, List.reduceReplicate, reduceIte, beq_self_eq_true, bne_self_eq_false, Int.reduceBEq, Int.reduceBNe, Bool.or_false, Bool.false_or, Bool.not_false, Bool.not_true, mbits, Int.reduceToNat, Int.reducePow, Int.toNat_natCast]
            refine WO.callM (fun x : Option Addr × Nat => .tuple #[.slice x.1 (FramesF b).1.length x.2, .int .i64 ((FramesF b).2.1 : Nat), .int .i64 (FramesF b).2.2]) (fun lo x s9 => rLists.rd (fun b => lo ≤ b) s9 [.slice x.1 (FramesF b).1.length x.2] (FramesF b).1) (ds := []) rfl rfl rfl rfl co18 (fun ρ w1 hb => Frames_spec (Rp.now hl2 (hb.first (by simp))) hb8) fun x lo hr7s hr7 => ?_
            obtain ⟨hr7p, hr7c⟩ := x
            simp only at hr7
            refine WO.go 7 (ds := []) rfl ?_
            simp only [sx, ty, Bool.false_eq_true, Int.reduceEq, Int.reduceLT, Nat.reduceAdd, Nat.reduceSub, Nat.reduceMul, Nat.reduceLT, Nat.reduceLeDiff, Nat.reduceEqDiff, List.reduceReplicate, reduceIte, beq_self_eq_true, bne_self_eq_false, Int.reduceBEq, Int.reduceBNe, Bool.or_false, Bool.false_or, Bool.not_false, Bool.not_true, mbits, Int.reduceToNat, Int.reducePow, Int.toNat_natCast]
            with_reducible refine WO.nil ?_
            refine hK16 _ ?_; clear hK16
            refine W.seqK fun K17 hK17 => W.region ?_
            refine WO.go 1 (ds := []) rfl ?_
            simp only [sx, ty, Bool.false_eq_true, Int.reduceEq, Int.reduceLT, Nat.reduceAdd, Nat.reduceSub, Nat.reduceMul, Nat.reduceLT, Nat.reduceLeDiff, Nat.reduceEqDiff, List.reduceReplicate, reduceIte, beq_self_eq_true, bne_self_eq_false, Int.reduceBEq, Int.reduceBNe, Bool.or_false, Bool.false_or, Bool.not_false, Bool.not_true, mbits, Int.reduceToNat, Int.reducePow, Int.toNat_natCast]
            refine WO.callM (fun x : Option Addr × Nat => .tuple #[.slice x.1 (FramesF b).1.length x.2, .int .i64 ((FramesF b).2.1 : Nat), .int .i64 (FramesF b).2.2]) (fun lo x s9 => rLists.rd (fun b => lo ≤ b) s9 [.slice x.1 (FramesF b).1.length x.2] (FramesF b).1) (ds := []) rfl rfl rfl rfl co19 (fun ρ w1 hb => rFrames_spec (Rp.now hl2 (hb.first (by simp))) hb8) fun x lo hr8s hr8 => ?_
            obtain ⟨hr8p, hr8c⟩ := x
            simp only at hr8
            refine WO.go 7 (ds := []) rfl ?_
            simp only [sx, ty, Bool.false_eq_true, Int.reduceEq, Int.reduceLT, Nat.reduceAdd, Nat.reduceSub, Nat.reduceMul, Nat.reduceLT, Nat.reduceLeDiff, Nat.reduceEqDiff, List.reduceReplicate, reduceIte, beq_self_eq_true, bne_self_eq_false, Int.reduceBEq, Int.reduceBNe, Bool.or_false, Bool.false_or, Bool.not_false, Bool.not_true, mbits, Int.reduceToNat, Int.reducePow, Int.toNat_natCast]
            with_reducible refine WO.nil ?_
            refine hK17 _ ?_; clear hK17
            refine W.join 4 (.val (.bool true)) [] (W.region ?_) ?_
            · skip
              refine WO.go 4 (ds := [some 116, some 117, some 118, some 119, some 120, some 121, some 122, some 123, some 124, some 125, some 126, some 127, some 128, some 129, some 130, some 131, some 4]) rfl ?_
              simp only [sx, ty, Bool.false_eq_true, Int.reduceEq, Int.reduceLT, Nat.reduceAdd, Nat.reduceSub, Nat.reduceMul, Nat.reduceLT, Nat.reduceLeDiff, Nat.reduceEqDiff, List.reduceReplicate, reduceIte, beq_self_eq_true, bne_self_eq_false, Int.reduceBEq, Int.reduceBNe, Bool.or_false, Bool.false_or, Bool.not_false, Bool.not_true, mbits, Int.reduceToNat, Int.reducePow, Int.toNat_natCast]
              refine WO.call (.bool true) (ds := [some 116, some 117, some 118, some 119, some 120, some 121, some 122, some 123, some 124, some 125, some 126, some 127, some 128, some 129, some 130, some 131, some 4]) rfl rfl rfl rfl co20 (fun ρ w1 hb => sameL_self (Rp.keep hr7 (hb.at (by simp))) (Rp.keep hr8 (hb.at (by simp)))) ?_
              refine WO.go 12 (ds := [some 116, some 117, some 118, some 119, some 120, some 121, some 122, some 123, some 124, some 125, some 126, some 127, some 128, some 129, some 130, some 131, some 4]) rfl ?_
              simp only [sx, ty, Bool.false_eq_true, Int.reduceEq, Int.reduceLT, Nat.reduceAdd, Nat.reduceSub, Nat.reduceMul, Nat.reduceLT, Nat.reduceLeDiff, Nat.reduceEqDiff, List.reduceReplicate, reduceIte, beq_self_eq_true, bne_self_eq_false, Int.reduceBEq, Int.reduceBNe, Bool.or_false, Bool.false_or, Bool.not_false, Bool.not_true, mbits, Int.reduceToNat, Int.reducePow, Int.toNat_natCast]
              with_reducible refine WO.nil ?_
              refine ⟨rfl, by simp [getE, bnd, keepE], ⟨_, rfl⟩, by simp [Own.bnd, bndL, bnd, boxO], by simp⟩
            · simp only [sx, ty, Bool.false_eq_true, Int.reduceEq, Int.reduceLT, Nat.reduceAdd, Nat.reduceSub, Nat.reduceMul, Nat.reduceLT, Nat.reduceLeDiff, Nat.reduceEqDiff, List.reduceReplicate, reduceIte, sxk, beq_self_eq_true, bne_self_eq_false, Int.reduceBEq, Int.reduceBNe, Bool.or_false, Bool.false_or, Bool.not_false, Bool.not_true, mbits, Int.reduceToNat, Int.reducePow, Int.toNat_natCast]
              refine W.ret ⟨by simp, _, rfl, fun ρ w1 hb => ?_⟩
              rfl
          · skip
            refine W.skip (hK12 _ ?_)
            refine W.seqK fun K19 hK19 => W.region ?_
            refine WO.go 1 (ds := []) rfl ?_
            simp only [sx, ty, Bool.false_eq_true, Int.reduceEq, Int.reduceLT, Nat.reduceAdd, Nat.reduceSub, Nat.reduceMul, Nat.reduceLT, Nat.reduceLeDiff, Nat.reduceEqDiff, List.reduceReplicate, reduceIte, beq_self_eq_true, bne_self_eq_false, Int.reduceBEq, Int.reduceBNe, Bool.or_false, Bool.false_or, Bool.not_false, Bool.not_true, mbits, Int.reduceToNat, Int.reducePow, Int.toNat_natCast]
            refine WO.callM (fun x : Option Addr × Nat => .tuple #[.slice x.1 (FramesF b).1.length x.2, .int .i64 ((FramesF b).2.1 : Nat), .int .i64 (FramesF b).2.2]) (fun lo x s9 => rLists.rd (fun b => lo ≤ b) s9 [.slice x.1 (FramesF b).1.length x.2] (FramesF b).1) (ds := []) rfl rfl rfl rfl co18 (fun ρ w1 hb => Frames_spec (Rp.now hl2 (hb.first (by simp))) hb8) fun x lo hr7s hr7 => ?_
            obtain ⟨hr7p, hr7c⟩ := x
            simp only at hr7
            refine WO.go 7 (ds := []) rfl ?_
            simp only [sx, ty, Bool.false_eq_true, Int.reduceEq, Int.reduceLT, Nat.reduceAdd, Nat.reduceSub, Nat.reduceMul, Nat.reduceLT, Nat.reduceLeDiff, Nat.reduceEqDiff, List.reduceReplicate, reduceIte, beq_self_eq_true, bne_self_eq_false, Int.reduceBEq, Int.reduceBNe, Bool.or_false, Bool.false_or, Bool.not_false, Bool.not_true, mbits, Int.reduceToNat, Int.reducePow, Int.toNat_natCast]
            with_reducible refine WO.nil ?_
            refine hK19 _ ?_; clear hK19
            refine W.seqK fun K20 hK20 => W.region ?_
            refine WO.go 1 (ds := []) rfl ?_
            simp only [sx, ty, Bool.false_eq_true, Int.reduceEq, Int.reduceLT, Nat.reduceAdd, Nat.reduceSub, Nat.reduceMul, Nat.reduceLT, Nat.reduceLeDiff, Nat.reduceEqDiff, List.reduceReplicate, reduceIte, beq_self_eq_true, bne_self_eq_false, Int.reduceBEq, Int.reduceBNe, Bool.or_false, Bool.false_or, Bool.not_false, Bool.not_true, mbits, Int.reduceToNat, Int.reducePow, Int.toNat_natCast]
            refine WO.callM (fun x : Option Addr × Nat => .tuple #[.slice x.1 (FramesF b).1.length x.2, .int .i64 ((FramesF b).2.1 : Nat), .int .i64 (FramesF b).2.2]) (fun lo x s9 => rLists.rd (fun b => lo ≤ b) s9 [.slice x.1 (FramesF b).1.length x.2] (FramesF b).1) (ds := []) rfl rfl rfl rfl co19 (fun ρ w1 hb => rFrames_spec (Rp.now hl2 (hb.first (by simp))) hb8) fun x lo hr8s hr8 => ?_
            obtain ⟨hr8p, hr8c⟩ := x
            simp only at hr8
            refine WO.go 7 (ds := []) rfl ?_
            simp only [sx, ty, Bool.false_eq_true, Int.reduceEq, Int.reduceLT, Nat.reduceAdd, Nat.reduceSub, Nat.reduceMul, Nat.reduceLT, Nat.reduceLeDiff, Nat.reduceEqDiff, List.reduceReplicate, reduceIte, beq_self_eq_true, bne_self_eq_false, Int.reduceBEq, Int.reduceBNe, Bool.or_false, Bool.false_or, Bool.not_false, Bool.not_true, mbits, Int.reduceToNat, Int.reducePow, Int.toNat_natCast]
            with_reducible refine WO.nil ?_
            refine hK20 _ ?_; clear hK20
            refine W.join 4 (.val (.bool true)) [] (W.region ?_) ?_
            · skip
              refine WO.go 4 (ds := [some 116, some 117, some 118, some 119, some 120, some 121, some 122, some 123, some 124, some 125, some 126, some 127, some 128, some 129, some 130, some 131, some 4]) rfl ?_
              simp only [sx, ty, Bool.false_eq_true, Int.reduceEq, Int.reduceLT, Nat.reduceAdd, Nat.reduceSub, Nat.reduceMul, Nat.reduceLT, Nat.reduceLeDiff, Nat.reduceEqDiff, List.reduceReplicate, reduceIte, beq_self_eq_true, bne_self_eq_false, Int.reduceBEq, Int.reduceBNe, Bool.or_false, Bool.false_or, Bool.not_false, Bool.not_true, mbits, Int.reduceToNat, Int.reducePow, Int.toNat_natCast]
              refine WO.call (.bool true) (ds := [some 116, some 117, some 118, some 119, some 120, some 121, some 122, some 123, some 124, some 125, some 126, some 127, some 128, some 129, some 130, some 131, some 4]) rfl rfl rfl rfl co20 (fun ρ w1 hb => sameL_self (Rp.keep hr7 (hb.at (by simp))) (Rp.keep hr8 (hb.at (by simp)))) ?_
              refine WO.go 12 (ds := [some 116, some 117, some 118, some 119, some 120, some 121, some 122, some 123, some 124, some 125, some 126, some 127, some 128, some 129, some 130, some 131, some 4]) rfl ?_
              simp only [sx, ty, Bool.false_eq_true, Int.reduceEq, Int.reduceLT, Nat.reduceAdd, Nat.reduceSub, Nat.reduceMul, Nat.reduceLT, Nat.reduceLeDiff, Nat.reduceEqDiff, List.reduceReplicate, reduceIte, beq_self_eq_true, bne_self_eq_false, Int.reduceBEq, Int.reduceBNe, Bool.or_false, Bool.false_or, Bool.not_false, Bool.not_true, mbits, Int.reduceToNat, Int.reducePow, Int.toNat_natCast]
              with_reducible refine WO.nil ?_
              refine ⟨rfl, by simp [getE, bnd, keepE], ⟨_, rfl⟩, by simp [Own.bnd, bndL, bnd, boxO], by simp⟩
            · simp only [sx, ty, Bool.false_eq_true, Int.reduceEq, Int.reduceLT, Nat.reduceAdd, Nat.reduceSub, Nat.reduceMul, Nat.reduceLT, Nat.reduceLeDiff, Nat.reduceEqDiff, List.reduceReplicate, reduceIte, sxk, beq_self_eq_true, bne_self_eq_false, Int.reduceBEq, Int.reduceBNe, Bool.or_false, Bool.false_or, Bool.not_false, Bool.not_true, mbits, Int.reduceToNat, Int.reducePow, Int.toNat_natCast]
              refine W.ret ⟨by simp, _, rfl, fun ρ w1 hb => ?_⟩
              rfl
end Go.Proofs.Ytnbfdncmlbegmaa
