/-
  Holdings: what the reference of the chapter computes: walks.
-/
import Derived.Test.YtblagioibffgcaaW3
set_option linter.unusedVariables false
set_option linter.unusedSimpArgs false
set_option maxHeartbeats 1000000
namespace Go.Proofs.Ytblagioibffgcaa
open Go Go.SX Go.RowKit

theorem idx_self {l : List Int} {i : Nat} (hlt : i < l.length) (h : ∀ j, j < i → l[j]? ≠ some l[i]) : idxOf l l[i] = i :=
  findI_some (fun j hj y hy => by
    have := h j hj
    rw [hy] at this
    simp only [beq_eq_false_iff_ne, ne_eq]
    rintro rfl
    exact this rfl) (getIdx l hlt) (by simp)
theorem nodup_idx (l : List Int) : (∀ (i : Nat) (h : i < l.length), idxOf l l[i] = i) ↔ l.Nodup := by
  constructor
  · intro h
    rw [List.nodup_iff_pairwise_ne, List.pairwise_iff_getElem]
    intro i j hi hj hij he
    have h1 := h i hi
    have h2 := h j hj
    rw [← he, h1] at h2
    omega
  · intro h i hi
    refine idx_self hi fun j hj he => ?_
    rw [getIdx l (by omega)] at he
    have := (List.pairwise_iff_getElem.1 (List.nodup_iff_pairwise_ne.1 h)) j i (by omega) hi hj
    exact this (Option.some.inj he)
theorem idx_le (l : List Int) (i : Nat) (hi : i < l.length) : idxOf l l[i] ≤ i ∧ 0 ≤ idxOf l l[i] := by
  by_cases h : ∃ j, j < i ∧ l[j]? = some l[i]
  · unfold idxOf findI
    cases hf : l.findIdx? (fun y => l[i] == y) with
    | none =>
      rw [List.findIdx?_eq_none_iff] at hf
      have := hf l[i] (List.getElem_mem hi)
      simp at this
    | some k =>
      rw [List.findIdx?_eq_some_iff_getElem] at hf
      obtain ⟨hk, hp, hno⟩ := hf
      simp only
      refine ⟨?_, by omega⟩
      by_cases hki : k ≤ i
      · omega
      · exact absurd (hno i (by omega)) (by simp)
  · rw [idx_self hi (fun j hj he => h ⟨j, hj, he⟩)]
    omega
/-- function 21 -/
theorem in_spec (w : World) (n lo hi : Int) : Gives Try.prog 21 #[.int .i64 n, .int .i64 lo, .int .i64 hi] w fun r _ => r = .bool (within lo hi n) := by
  refine gives_of [.val (.int .i64 n), .val (.int .i64 lo), .val (.int .i64 hi)] 15 [.tmp 6] Try.func21 rfl rfl rfl (by simp) rfl rfl ?_
  refine W.pure (ds := []) rfl fun K1 hK1 => ?_
  simp only [sx, ty, Bool.false_eq_true, Int.reduceEq, Int.reduceLT, Nat.reduceAdd, Nat.reduceSub, Nat.reduceMul, Nat.reduceLT, Nat.reduceLeDiff, Nat.reduceEqDiff, List.reduceReplicate, reduceIte]; with_reducible refine hK1 _ ?_; clear hK1
  refine W.join 6 (.val (.bool (decide (lo ≤ n) && decide (n ≤ hi)))) [] (W.region ?_) ?_
  · skip
    refine WO.go 4 (ds := [some 7, some 8, some 9, some 10, some 11, some 12, some 13, some 14, some 6]) rfl ?_
    simp only [sx, ty, Bool.false_eq_true, Int.reduceEq, Int.reduceLT, Nat.reduceAdd, Nat.reduceSub, Nat.reduceMul, Nat.reduceLT, Nat.reduceLeDiff, Nat.reduceEqDiff, List.reduceReplicate, reduceIte]
    refine WO.cases 10 _ rfl (fun hg10 => ?_) (fun hg10 => ?_)
    · skip
      refine WO.go 5 (ds := [some 7, some 8, some 9, some 10, some 11, some 12, some 13, some 14, some 6]) rfl ?_
      simp only [sx, ty, Bool.false_eq_true, Int.reduceEq, Int.reduceLT, Nat.reduceAdd, Nat.reduceSub, Nat.reduceMul, Nat.reduceLT, Nat.reduceLeDiff, Nat.reduceEqDiff, List.reduceReplicate, reduceIte]
      with_reducible refine WO.nil ?_
      refine ⟨rfl, ?_, ⟨_, rfl⟩, by simp [Own.bnd, bndL, bnd, boxO], by simp⟩
      try rw [hg10]
      simp [getE, bnd, keepE]
    · skip
      refine WO.go 5 (ds := [some 7, some 8, some 9, some 10, some 11, some 12, some 13, some 14, some 6]) rfl ?_
      simp only [sx, ty, Bool.false_eq_true, Int.reduceEq, Int.reduceLT, Nat.reduceAdd, Nat.reduceSub, Nat.reduceMul, Nat.reduceLT, Nat.reduceLeDiff, Nat.reduceEqDiff, List.reduceReplicate, reduceIte]
      with_reducible refine WO.nil ?_
      refine ⟨rfl, ?_, ⟨_, rfl⟩, by simp [Own.bnd, bndL, bnd, boxO], by simp⟩
      try rw [hg10]
      simp [getE, bnd, keepE]
  · simp only [sx, ty, Bool.false_eq_true, Int.reduceEq, Int.reduceLT, Nat.reduceAdd, Nat.reduceSub, Nat.reduceMul, Nat.reduceLT, Nat.reduceLeDiff, Nat.reduceEqDiff, List.reduceReplicate, reduceIte, sxk]
    refine W.ret ⟨by simp, _, rfl, fun ρ w1 hb => ?_⟩
    rfl
/-- function 17 -/
theorem rindex_spec {S : Nat → Prop} {w : World} {v : Value} {l : List Int} (hl : rInts.rd S w [v] l) (n : Int) : Gives Try.prog 17 #[v, .int .i64 n] w fun r _ => r = .int .i64 (idxOf l n) := by
  obtain ⟨p, c, rfl, hc1, hc2⟩ := Rp.slice_val hl
  have hl : (Rp.slice rInt).rd (fun _ => True) w _ l := Rp.any hl
  refine gives_of [.val (.slice p l.length c), .val (.int .i64 n)] 19 [.tmp 4] Try.func17 rfl rfl rfl (by simp) rfl rfl ?_
  refine W.pure (ds := []) rfl fun K1 hK1 => ?_
  simp only [sx, ty, Bool.false_eq_true, Int.reduceEq, Int.reduceLT, Nat.reduceAdd, Nat.reduceSub, Nat.reduceMul, Nat.reduceLT, Nat.reduceLeDiff, Nat.reduceEqDiff, List.reduceReplicate, reduceIte]; with_reducible refine hK1 _ ?_; clear hK1
  refine W.seqK fun K2 hK2 => ?_
  refine W.pure (ds := []) rfl fun K3 hK3 => ?_
  simp only [sx, ty, Bool.false_eq_true, Int.reduceEq, Int.reduceLT, Nat.reduceAdd, Nat.reduceSub, Nat.reduceMul, Nat.reduceLT, Nat.reduceLeDiff, Nat.reduceEqDiff, List.reduceReplicate, reduceIte]; with_reducible refine hK3 _ ?_; clear hK3
  refine W.block ?_
  refine W.loopK (X := Nat) [0, 1] (fun x => [(5, .val (.int .i64 x))]) (fun x => x ≤ l.length ∧ ∀ j, j < x → ∀ y, l[j]? = some y → (n == y) = false) (fun x => l.length - x) 0 ?_ ?_ ?_
  · exact ⟨rfl, by simp [getE, bnd, keepE], ⟨[], by simp⟩, by simp [Own.bnd, bndL, bnd, boxO], by simp⟩
  · skip
    exact ⟨Nat.zero_le _, fun j hj => by omega⟩
  · rintro i ⟨hi, hno⟩
    simp only [sx, ty, Bool.false_eq_true, Int.reduceEq, Int.reduceLT, Nat.reduceAdd, Nat.reduceSub, Nat.reduceMul, Nat.reduceLT, Nat.reduceLeDiff, Nat.reduceEqDiff, List.reduceReplicate, reduceIte, sxk]
    refine W.seqK fun K4 hK4 => ?_
    refine W.pure (ds := []) rfl fun K5 hK5 => ?_
    simp only [sx, ty, Bool.false_eq_true, Int.reduceEq, Int.reduceLT, Nat.reduceAdd, Nat.reduceSub, Nat.reduceMul, Nat.reduceLT, Nat.reduceLeDiff, Nat.reduceEqDiff, List.reduceReplicate, reduceIte]; with_reducible refine hK5 _ ?_; clear hK5
    refine W.cond rfl rfl (fun hc => ?_) (fun hc => ?_)
    · skip
      have hlt : i < l.length := by simpa using hc
      refine W.skip (hK4 _ ?_)
      refine W.seqK fun K6 hK6 => ?_
      refine W.block ?_
      refine W.seqK fun K7 hK7 => W.region ?_
      refine WO.go 2 (ds := []) rfl ?_
      simp only [sx, ty, Bool.false_eq_true, Int.reduceEq, Int.reduceLT, Nat.reduceAdd, Nat.reduceSub, Nat.reduceMul, Nat.reduceLT, Nat.reduceLeDiff, Nat.reduceEqDiff, List.reduceReplicate, reduceIte]
      refine WO.elem (y := l[i]) hl (by simp [St.put]) (ds := []) rfl rfl rfl (by simp [St.put]) (fun _ => rfl) rfl rfl rfl rfl rfl el33 agg3 sz3 (.inr rfl) (by omega) (getIdx l hlt) fun p ces hces => ?_
      obtain rfl := rInt_open hces
      refine WO.go 2 (ds := []) rfl ?_
      simp only [sx, ty, Bool.false_eq_true, Int.reduceEq, Int.reduceLT, Nat.reduceAdd, Nat.reduceSub, Nat.reduceMul, Nat.reduceLT, Nat.reduceLeDiff, Nat.reduceEqDiff, List.reduceReplicate, reduceIte]
      with_reducible refine WO.nil ?_
      refine hK7 _ ?_; clear hK7
      refine W.cond rfl rfl (fun hc => ?_) (fun hc => ?_)
      · skip
        refine W.pure (ds := []) rfl fun K8 hK8 => ?_
        simp only [sx, ty, Bool.false_eq_true, Int.reduceEq, Int.reduceLT, Nat.reduceAdd, Nat.reduceSub, Nat.reduceMul, Nat.reduceLT, Nat.reduceLeDiff, Nat.reduceEqDiff, List.reduceReplicate, reduceIte]; with_reducible refine hK8 _ ?_; clear hK8
        refine W.ret ⟨by simp, _, rfl, fun ρ w1 hb => ?_⟩
        simp only [beq_iff_eq] at hc
        simp only [den]
        rw [show idxOf l n = i from findI_some hno (getIdx l hlt) (by simp; exact hc.symm)]
      · skip
        refine W.skip (hK6 _ ?_)
        refine W.region ?_
        refine WO.go 3 (ds := []) rfl ?_
        simp only [sx, ty, Bool.false_eq_true, Int.reduceEq, Int.reduceLT, Nat.reduceAdd, Nat.reduceSub, Nat.reduceMul, Nat.reduceLT, Nat.reduceLeDiff, Nat.reduceEqDiff, List.reduceReplicate, reduceIte]
        with_reducible refine WO.nil ?_
        refine ⟨i + 1, ?_, by first | omega | (simp; omega), rfl, by simp [getE, bnd, keepE, wrap_succ (show i + 1 ≤ 9223372036854775807 by omega)], ⟨_, rfl⟩, by simp [Own.bnd, bndL, bnd, boxO], by simp⟩
        refine ⟨hlt, fun j hj y hy => ?_⟩
        rcases Nat.lt_succ_iff_lt_or_eq.1 hj with h | rfl
        · exact hno j h y hy
        · rw [getIdx l hlt] at hy; obtain rfl := Option.some.inj hy
          simp only [beq_eq_false_iff_ne, ne_eq] at hc ⊢
          exact fun h => hc h.symm
    · skip
      refine W.exit (hK2 _ ?_)
      refine W.pure (ds := []) rfl fun K9 hK9 => ?_
      simp only [sx, ty, Bool.false_eq_true, Int.reduceEq, Int.reduceLT, Nat.reduceAdd, Nat.reduceSub, Nat.reduceMul, Nat.reduceLT, Nat.reduceLeDiff, Nat.reduceEqDiff, List.reduceReplicate, reduceIte]; with_reducible refine hK9 _ ?_; clear hK9
      refine W.ret ⟨by simp, _, rfl, fun ρ w1 hb => ?_⟩
      have hge : l.length ≤ i := by simpa using hc
      simp only [den]
      rw [show idxOf l n = -1 from findI_none fun j y hy => hno j (by have := (List.getElem?_eq_some_iff.1 hy).1; omega) y hy]
/-- function 18 -/
theorem rdemand_spec {S : Nat → Prop} {w : World} {ces : List Value} {d : Dem} (hd : rDem.rd S w ces d) : Gives Try.prog 18 #[.agg ces.toArray] w fun r _ => r = .bool (validD d) := by
  obtain ⟨p, c, rfl, hel0, hlen⟩ := rDem_open hd
  have hel : (Rp.slice rInt).rd (fun _ => True) w _ d.2.2.2 := Rp.any hel0
  refine gives_of [.agg [.val (.int .i64 d.1), .val (.int .i64 d.2.1), .val (.int .i64 d.2.2.1), .val (.slice p d.2.2.2.length c)]] 53 [.tmp 2] Try.func18 rfl rfl rfl (by simp) rfl rfl ?_
  refine W.pure (ds := []) rfl fun K1 hK1 => ?_
  simp only [sx, ty, Bool.false_eq_true, Int.reduceEq, Int.reduceLT, Nat.reduceAdd, Nat.reduceSub, Nat.reduceMul, Nat.reduceLT, Nat.reduceLeDiff, Nat.reduceEqDiff, List.reduceReplicate, reduceIte]; with_reducible refine hK1 _ ?_; clear hK1
  refine W.seqK fun K2 hK2 => ?_
  refine W.join 26 (.val (.bool (!(within 1 1000000 d.1 && within 1 1000000 d.2.1 && within 1 1000000 d.2.2.1 && within 1 12 d.2.2.2.length)))) [1] (W.region ?_) ?_
  · skip
    refine WO.go 2 (ds := [some 4, some 5, some 6, some 7, some 8, some 9, some 10, some 11, some 12, some 13, some 14, some 15, some 16, some 17, some 18, some 19, some 20, some 21, some 22, some 23, some 24, some 25, some 26]) rfl ?_
    simp only [sx, ty, Bool.false_eq_true, Int.reduceEq, Int.reduceLT, Nat.reduceAdd, Nat.reduceSub, Nat.reduceMul, Nat.reduceLT, Nat.reduceLeDiff, Nat.reduceEqDiff, List.reduceReplicate, reduceIte]
    refine WO.call (.bool (within 1 1000000 d.1)) (ds := [some 4, some 5, some 6, some 7, some 8, some 9, some 10, some 11, some 12, some 13, some 14, some 15, some 16, some 17, some 18, some 19, some 20, some 21, some 22, some 23, some 24, some 25, some 26]) rfl rfl rfl rfl co21 (fun ρ w1 hb => in_spec w1 _ _ _) ?_
    refine WO.go 2 (ds := [some 4, some 5, some 6, some 7, some 8, some 9, some 10, some 11, some 12, some 13, some 14, some 15, some 16, some 17, some 18, some 19, some 20, some 21, some 22, some 23, some 24, some 25, some 26]) rfl ?_
    simp only [sx, ty, Bool.false_eq_true, Int.reduceEq, Int.reduceLT, Nat.reduceAdd, Nat.reduceSub, Nat.reduceMul, Nat.reduceLT, Nat.reduceLeDiff, Nat.reduceEqDiff, List.reduceReplicate, reduceIte]
    refine WO.cases 8 _ rfl (fun hg8 => ?_) (fun hg8 => ?_)
    · skip
      have hg8 : within 1 1000000 d.1 = false := by simpa using hg8
      refine WO.go 18 (ds := [some 4, some 5, some 6, some 7, some 8, some 9, some 10, some 11, some 12, some 13, some 14, some 15, some 16, some 17, some 18, some 19, some 20, some 21, some 22, some 23, some 24, some 25, some 26]) rfl ?_
      simp only [sx, ty, Bool.false_eq_true, Int.reduceEq, Int.reduceLT, Nat.reduceAdd, Nat.reduceSub, Nat.reduceMul, Nat.reduceLT, Nat.reduceLeDiff, Nat.reduceEqDiff, List.reduceReplicate, reduceIte]
      with_reducible refine WO.nil ?_
      refine ⟨rfl, ?_, ⟨_, rfl⟩, by simp [Own.bnd, bndL, bnd, boxO], by simp⟩
      simp only [Bool.not_eq_true', Bool.not_eq_false'] at *
      try rw [hg8]
      try rw [hg14]
      try rw [hg20]
      simp [getE, bnd, keepE]
    · skip
      have hg8 : within 1 1000000 d.1 = true := by simpa using hg8
      refine WO.go 2 (ds := [some 4, some 5, some 6, some 7, some 8, some 9, some 10, some 11, some 12, some 13, some 14, some 15, some 16, some 17, some 18, some 19, some 20, some 21, some 22, some 23, some 24, some 25, some 26]) rfl ?_
      simp only [sx, ty, Bool.false_eq_true, Int.reduceEq, Int.reduceLT, Nat.reduceAdd, Nat.reduceSub, Nat.reduceMul, Nat.reduceLT, Nat.reduceLeDiff, Nat.reduceEqDiff, List.reduceReplicate, reduceIte]
      refine WO.call (.bool (within 1 1000000 d.2.1)) (ds := [some 4, some 5, some 6, some 7, some 8, some 9, some 10, some 11, some 12, some 13, some 14, some 15, some 16, some 17, some 18, some 19, some 20, some 21, some 22, some 23, some 24, some 25, some 26]) rfl rfl rfl rfl co21 (fun ρ w1 hb => in_spec w1 _ _ _) ?_
      refine WO.go 3 (ds := [some 4, some 5, some 6, some 7, some 8, some 9, some 10, some 11, some 12, some 13, some 14, some 15, some 16, some 17, some 18, some 19, some 20, some 21, some 22, some 23, some 24, some 25, some 26]) rfl ?_
      simp only [sx, ty, Bool.false_eq_true, Int.reduceEq, Int.reduceLT, Nat.reduceAdd, Nat.reduceSub, Nat.reduceMul, Nat.reduceLT, Nat.reduceLeDiff, Nat.reduceEqDiff, List.reduceReplicate, reduceIte]
      refine WO.cases 14 _ rfl (fun hg14 => ?_) (fun hg14 => ?_)
      · skip
        have hg14 : within 1 1000000 d.2.1 = false := by simpa using hg14
        refine WO.go 12 (ds := [some 4, some 5, some 6, some 7, some 8, some 9, some 10, some 11, some 12, some 13, some 14, some 15, some 16, some 17, some 18, some 19, some 20, some 21, some 22, some 23, some 24, some 25, some 26]) rfl ?_
        simp only [sx, ty, Bool.false_eq_true, Int.reduceEq, Int.reduceLT, Nat.reduceAdd, Nat.reduceSub, Nat.reduceMul, Nat.reduceLT, Nat.reduceLeDiff, Nat.reduceEqDiff, List.reduceReplicate, reduceIte]
        with_reducible refine WO.nil ?_
        refine ⟨rfl, ?_, ⟨_, rfl⟩, by simp [Own.bnd, bndL, bnd, boxO], by simp⟩
        simp only [Bool.not_eq_true', Bool.not_eq_false'] at *
        try rw [hg8]
        try rw [hg14]
        try rw [hg20]
        simp [getE, bnd, keepE]
      · skip
        have hg14 : within 1 1000000 d.2.1 = true := by simpa using hg14
        refine WO.go 2 (ds := [some 4, some 5, some 6, some 7, some 8, some 9, some 10, some 11, some 12, some 13, some 14, some 15, some 16, some 17, some 18, some 19, some 20, some 21, some 22, some 23, some 24, some 25, some 26]) rfl ?_
        simp only [sx, ty, Bool.false_eq_true, Int.reduceEq, Int.reduceLT, Nat.reduceAdd, Nat.reduceSub, Nat.reduceMul, Nat.reduceLT, Nat.reduceLeDiff, Nat.reduceEqDiff, List.reduceReplicate, reduceIte]
        refine WO.call (.bool (within 1 1000000 d.2.2.1)) (ds := [some 4, some 5, some 6, some 7, some 8, some 9, some 10, some 11, some 12, some 13, some 14, some 15, some 16, some 17, some 18, some 19, some 20, some 21, some 22, some 23, some 24, some 25, some 26]) rfl rfl rfl rfl co21 (fun ρ w1 hb => in_spec w1 _ _ _) ?_
        refine WO.go 3 (ds := [some 4, some 5, some 6, some 7, some 8, some 9, some 10, some 11, some 12, some 13, some 14, some 15, some 16, some 17, some 18, some 19, some 20, some 21, some 22, some 23, some 24, some 25, some 26]) rfl ?_
        simp only [sx, ty, Bool.false_eq_true, Int.reduceEq, Int.reduceLT, Nat.reduceAdd, Nat.reduceSub, Nat.reduceMul, Nat.reduceLT, Nat.reduceLeDiff, Nat.reduceEqDiff, List.reduceReplicate, reduceIte]
        refine WO.cases 20 _ rfl (fun hg20 => ?_) (fun hg20 => ?_)
        · skip
          have hg20 : within 1 1000000 d.2.2.1 = false := by simpa using hg20
          refine WO.go 6 (ds := [some 4, some 5, some 6, some 7, some 8, some 9, some 10, some 11, some 12, some 13, some 14, some 15, some 16, some 17, some 18, some 19, some 20, some 21, some 22, some 23, some 24, some 25, some 26]) rfl ?_
          simp only [sx, ty, Bool.false_eq_true, Int.reduceEq, Int.reduceLT, Nat.reduceAdd, Nat.reduceSub, Nat.reduceMul, Nat.reduceLT, Nat.reduceLeDiff, Nat.reduceEqDiff, List.reduceReplicate, reduceIte]
          with_reducible refine WO.nil ?_
          refine ⟨rfl, ?_, ⟨_, rfl⟩, by simp [Own.bnd, bndL, bnd, boxO], by simp⟩
          simp only [Bool.not_eq_true', Bool.not_eq_false'] at *
          try rw [hg8]
          try rw [hg14]
          try rw [hg20]
          simp [getE, bnd, keepE]
        · skip
          have hg20 : within 1 1000000 d.2.2.1 = true := by simpa using hg20
          refine WO.go 3 (ds := [some 4, some 5, some 6, some 7, some 8, some 9, some 10, some 11, some 12, some 13, some 14, some 15, some 16, some 17, some 18, some 19, some 20, some 21, some 22, some 23, some 24, some 25, some 26]) rfl ?_
          simp only [sx, ty, Bool.false_eq_true, Int.reduceEq, Int.reduceLT, Nat.reduceAdd, Nat.reduceSub, Nat.reduceMul, Nat.reduceLT, Nat.reduceLeDiff, Nat.reduceEqDiff, List.reduceReplicate, reduceIte]
          refine WO.call (.bool (within 1 12 d.2.2.2.length)) (ds := [some 4, some 5, some 6, some 7, some 8, some 9, some 10, some 11, some 12, some 13, some 14, some 15, some 16, some 17, some 18, some 19, some 20, some 21, some 22, some 23, some 24, some 25, some 26]) rfl rfl rfl rfl co21 (fun ρ w1 hb => in_spec w1 _ _ _) ?_
          refine WO.go 2 (ds := [some 4, some 5, some 6, some 7, some 8, some 9, some 10, some 11, some 12, some 13, some 14, some 15, some 16, some 17, some 18, some 19, some 20, some 21, some 22, some 23, some 24, some 25, some 26]) rfl ?_
          simp only [sx, ty, Bool.false_eq_true, Int.reduceEq, Int.reduceLT, Nat.reduceAdd, Nat.reduceSub, Nat.reduceMul, Nat.reduceLT, Nat.reduceLeDiff, Nat.reduceEqDiff, List.reduceReplicate, reduceIte]
          with_reducible refine WO.nil ?_
          refine ⟨rfl, ?_, ⟨_, rfl⟩, by simp [Own.bnd, bndL, bnd, boxO], by simp⟩
          simp only [Bool.not_eq_true', Bool.not_eq_false'] at *
          try rw [hg8]
          try rw [hg14]
          try rw [hg20]
          simp [getE, bnd, keepE]
  · simp only [sx, ty, Bool.false_eq_true, Int.reduceEq, Int.reduceLT, Nat.reduceAdd, Nat.reduceSub, Nat.reduceMul, Nat.reduceLT, Nat.reduceLeDiff, Nat.reduceEqDiff, List.reduceReplicate, reduceIte, sxk]
    refine W.cond rfl rfl (fun hc => ?_) (fun hc => ?_)
    · skip
      have h0 : (within 1 1000000 d.1 && within 1 1000000 d.2.1 && within 1 1000000 d.2.2.1 && within 1 12 d.2.2.2.length) = false := by rwa [Bool.not_eq_true'] at hc
      refine W.pure (ds := []) rfl fun K4 hK4 => ?_
      simp only [sx, ty, Bool.false_eq_true, Int.reduceEq, Int.reduceLT, Nat.reduceAdd, Nat.reduceSub, Nat.reduceMul, Nat.reduceLT, Nat.reduceLeDiff, Nat.reduceEqDiff, List.reduceReplicate, reduceIte]; with_reducible refine hK4 _ ?_; clear hK4
      refine W.ret ⟨by simp, _, rfl, fun ρ w1 hb => ?_⟩
      simp only [den, validD, h0, Bool.false_and]
    · skip
      have h0 : (within 1 1000000 d.1 && within 1 1000000 d.2.1 && within 1 1000000 d.2.2.1 && within 1 12 d.2.2.2.length) = true := by rwa [Bool.not_eq_false'] at hc
      refine W.skip (hK2 _ ?_)
      refine W.seqK fun K5 hK5 => ?_
      refine W.pure (ds := []) rfl fun K6 hK6 => ?_
      simp only [sx, ty, Bool.false_eq_true, Int.reduceEq, Int.reduceLT, Nat.reduceAdd, Nat.reduceSub, Nat.reduceMul, Nat.reduceLT, Nat.reduceLeDiff, Nat.reduceEqDiff, List.reduceReplicate, reduceIte]; with_reducible refine hK6 _ ?_; clear hK6
      refine W.block ?_
      refine W.loopK (X := Nat) [1] (fun x => [(3, .val (.int .i64 x))]) (fun x => x ≤ d.2.2.2.length ∧ (∀ (j : Nat) (hj : j < d.2.2.2.length), j < x → within 1 1000000 d.2.2.2[j] = true ∧ idxOf d.2.2.2 d.2.2.2[j] = j)) (fun x => d.2.2.2.length - x) 0 ?_ ?_ ?_
      · exact ⟨rfl, by simp [getE, bnd, keepE], ⟨[], by simp⟩, by simp [Own.bnd, bndL, bnd, boxO], by simp⟩
      · skip
        exact ⟨Nat.zero_le _, fun j hj h => by omega⟩
      · rintro i ⟨hi, hno⟩
        simp only [sx, ty, Bool.false_eq_true, Int.reduceEq, Int.reduceLT, Nat.reduceAdd, Nat.reduceSub, Nat.reduceMul, Nat.reduceLT, Nat.reduceLeDiff, Nat.reduceEqDiff, List.reduceReplicate, reduceIte, sxk]
        refine W.seqK fun K7 hK7 => ?_
        refine W.pure (ds := []) rfl fun K8 hK8 => ?_
        simp only [sx, ty, Bool.false_eq_true, Int.reduceEq, Int.reduceLT, Nat.reduceAdd, Nat.reduceSub, Nat.reduceMul, Nat.reduceLT, Nat.reduceLeDiff, Nat.reduceEqDiff, List.reduceReplicate, reduceIte]; with_reducible refine hK8 _ ?_; clear hK8
        refine W.cond rfl rfl (fun hc => ?_) (fun hc => ?_)
        · skip
          have hlt : i < d.2.2.2.length := by simpa using hc
          refine W.skip (hK7 _ ?_)
          refine W.seqK fun K9 hK9 => ?_
          refine W.block ?_
          refine W.join 52 (.val (.bool (!within 1 1000000 d.2.2.2[i] || (idxOf d.2.2.2 d.2.2.2[i] != i)))) [1, 3] (W.regionQ mixed (by kernel_rfl) ?_) ?_
          · skip
            refine WQ.go 3 (ds := [some 34, some 35, some 36, some 37, some 38, some 39, some 40, some 41, some 42, some 43, some 44, some 45, some 46, some 47, some 48, some 49, some 50, some 51, some 52]) rfl ?_
            simp only [sx, ty, Bool.false_eq_true, Int.reduceEq, Int.reduceLT, Nat.reduceAdd, Nat.reduceSub, Nat.reduceMul, Nat.reduceLT, Nat.reduceLeDiff, Nat.reduceEqDiff, List.reduceReplicate, reduceIte, sxq, Bool.false_eq_true]
            refine WQ.elem (y := d.2.2.2[i]) hel (by simp [St.put]) (ds := [some 34, some 35, some 36, some 37, some 38, some 39, some 40, some 41, some 42, some 43, some 44, some 45, some 46, some 47, some 48, some 49, some 50, some 51, some 52]) rfl rfl rfl (by simp [St.put]) (fun _ => rfl) rfl rfl rfl rfl rfl el33 agg3 sz3 (.inr rfl) (by omega) (getIdx d.2.2.2 hlt) fun p ces hces => ?_
            obtain rfl := rInt_open hces
            simp only [sx, ty, Bool.false_eq_true, Int.reduceEq, Int.reduceLT, Nat.reduceAdd, Nat.reduceSub, Nat.reduceMul, Nat.reduceLT, Nat.reduceLeDiff, Nat.reduceEqDiff, List.reduceReplicate, reduceIte]
            refine WQ.call (.bool (within 1 1000000 d.2.2.2[i])) (ds := [some 34, some 35, some 36, some 37, some 38, some 39, some 40, some 41, some 42, some 43, some 44, some 45, some 46, some 47, some 48, some 49, some 50, some 51, some 52]) rfl rfl rfl rfl co21 (fun ρ w1 hb => in_spec w1 _ _ _) ?_
            refine WQ.go 2 (ds := [some 34, some 35, some 36, some 37, some 38, some 39, some 40, some 41, some 42, some 43, some 44, some 45, some 46, some 47, some 48, some 49, some 50, some 51, some 52]) rfl ?_
            simp only [sx, ty, Bool.false_eq_true, Int.reduceEq, Int.reduceLT, Nat.reduceAdd, Nat.reduceSub, Nat.reduceMul, Nat.reduceLT, Nat.reduceLeDiff, Nat.reduceEqDiff, List.reduceReplicate, reduceIte, sxq, Bool.false_eq_true]
            refine WQ.cases 41 _ rfl (fun hg41 => ?_) (fun hg41 => ?_)
            · skip
              refine WQ.go 11 (ds := [some 34, some 35, some 36, some 37, some 38, some 39, some 40, some 41, some 42, some 43, some 44, some 45, some 46, some 47, some 48, some 49, some 50, some 51, some 52]) rfl ?_
              simp only [sx, ty, Bool.false_eq_true, Int.reduceEq, Int.reduceLT, Nat.reduceAdd, Nat.reduceSub, Nat.reduceMul, Nat.reduceLT, Nat.reduceLeDiff, Nat.reduceEqDiff, List.reduceReplicate, reduceIte, sxq, Bool.false_eq_true]
              with_reducible refine WQ.nil ?_
              refine ⟨rfl, ?_, ⟨_, rfl⟩, by simp [Own.bnd, bndL, bnd, boxO], by simp⟩
              simp only [Bool.not_eq_true', Bool.not_eq_false'] at hg41
              rw [hg41]
              simp [getE, bnd, keepE]
            · skip
              refine WQ.go 5 (ds := [some 34, some 35, some 36, some 37, some 38, some 39, some 40, some 41, some 42, some 43, some 44, some 45, some 46, some 47, some 48, some 49, some 50, some 51, some 52]) rfl ?_
              simp only [sx, ty, Bool.false_eq_true, Int.reduceEq, Int.reduceLT, Nat.reduceAdd, Nat.reduceSub, Nat.reduceMul, Nat.reduceLT, Nat.reduceLeDiff, Nat.reduceEqDiff, List.reduceReplicate, reduceIte, sxq, Bool.false_eq_true]
              refine WQ.elem (y := d.2.2.2[i]) hel (by simp [St.put]) (ds := [some 34, some 35, some 36, some 37, some 38, some 39, some 40, some 41, some 42, some 43, some 44, some 45, some 46, some 47, some 48, some 49, some 50, some 51, some 52]) rfl rfl rfl (by simp [St.put]) (fun _ => rfl) rfl rfl rfl rfl rfl el33 agg3 sz3 (.inr rfl) (by omega) (getIdx d.2.2.2 hlt) fun p ces hces => ?_
              obtain rfl := rInt_open hces
              simp only [sx, ty, Bool.false_eq_true, Int.reduceEq, Int.reduceLT, Nat.reduceAdd, Nat.reduceSub, Nat.reduceMul, Nat.reduceLT, Nat.reduceLeDiff, Nat.reduceEqDiff, List.reduceReplicate, reduceIte]
              refine WQ.call (.int .i64 (idxOf d.2.2.2 d.2.2.2[i])) (ds := [some 34, some 35, some 36, some 37, some 38, some 39, some 40, some 41, some 42, some 43, some 44, some 45, some 46, some 47, some 48, some 49, some 50, some 51, some 52]) rfl rfl rfl rfl co17 (fun ρ w1 hb => rindex_spec (Rp.now hel (hb.first (by simp))) _) ?_
              refine WQ.go 3 (ds := [some 34, some 35, some 36, some 37, some 38, some 39, some 40, some 41, some 42, some 43, some 44, some 45, some 46, some 47, some 48, some 49, some 50, some 51, some 52]) rfl ?_
              simp only [sx, ty, Bool.false_eq_true, Int.reduceEq, Int.reduceLT, Nat.reduceAdd, Nat.reduceSub, Nat.reduceMul, Nat.reduceLT, Nat.reduceLeDiff, Nat.reduceEqDiff, List.reduceReplicate, reduceIte, sxq, Bool.false_eq_true]
              with_reducible refine WQ.nil ?_
              refine ⟨rfl, ?_, ⟨_, rfl⟩, by simp [Own.bnd, bndL, bnd, boxO], by simp⟩
              simp only [Bool.not_eq_true', Bool.not_eq_false'] at hg41
              rw [hg41]
              simp [getE, bnd, keepE]
          · simp only [sx, ty, Bool.false_eq_true, Int.reduceEq, Int.reduceLT, Nat.reduceAdd, Nat.reduceSub, Nat.reduceMul, Nat.reduceLT, Nat.reduceLeDiff, Nat.reduceEqDiff, List.reduceReplicate, reduceIte, sxk]
            refine W.cond rfl rfl (fun hc => ?_) (fun hc => ?_)
            · skip
              refine W.pure (ds := []) rfl fun K11 hK11 => ?_
              simp only [sx, ty, Bool.false_eq_true, Int.reduceEq, Int.reduceLT, Nat.reduceAdd, Nat.reduceSub, Nat.reduceMul, Nat.reduceLT, Nat.reduceLeDiff, Nat.reduceEqDiff, List.reduceReplicate, reduceIte]; with_reducible refine hK11 _ ?_; clear hK11
              refine W.ret ⟨by simp, _, rfl, fun ρ w1 hb => ?_⟩
              simp only [den, validD, h0, Bool.true_and, Value.bool.injEq]
              rw [eq_comm, Bool.and_eq_false_iff]
              rcases (by simpa using hc : within 1 1000000 d.2.2.2[i] = false ∨ ¬ idxOf d.2.2.2 d.2.2.2[i] = i) with h | h
              · left; rw [List.all_eq_false]; exact ⟨_, List.getElem_mem hlt, by simp [h]⟩
              · right; rw [decide_eq_false_iff_not]; intro hn; exact h ((nodup_idx _).2 hn i hlt)
            · skip
              refine W.skip (hK9 _ ?_)
              refine W.region ?_
              refine WO.go 3 (ds := []) rfl ?_
              simp only [sx, ty, Bool.false_eq_true, Int.reduceEq, Int.reduceLT, Nat.reduceAdd, Nat.reduceSub, Nat.reduceMul, Nat.reduceLT, Nat.reduceLeDiff, Nat.reduceEqDiff, List.reduceReplicate, reduceIte]
              with_reducible refine WO.nil ?_
              refine ⟨i + 1, ?_, by first | omega | (simp; omega), rfl, by simp [getE, bnd, keepE, wrap_succ (show i + 1 ≤ 9223372036854775807 by omega)], ⟨_, rfl⟩, by simp [Own.bnd, bndL, bnd, boxO], by simp⟩
              refine ⟨hlt, fun j hj h => ?_⟩
              rcases Nat.lt_succ_iff_lt_or_eq.1 h with h | rfl
              · exact hno j hj h
              · simpa using hc
        · skip
          refine W.exit (hK5 _ ?_)
          refine W.pure (ds := []) rfl fun K12 hK12 => ?_
          simp only [sx, ty, Bool.false_eq_true, Int.reduceEq, Int.reduceLT, Nat.reduceAdd, Nat.reduceSub, Nat.reduceMul, Nat.reduceLT, Nat.reduceLeDiff, Nat.reduceEqDiff, List.reduceReplicate, reduceIte]; with_reducible refine hK12 _ ?_; clear hK12
          refine W.ret ⟨by simp, _, rfl, fun ρ w1 hb => ?_⟩
          have hge : d.2.2.2.length ≤ i := by simpa using hc
          simp only [den, validD, h0, Bool.true_and, Value.bool.injEq]
          rw [eq_comm, Bool.and_eq_true, List.all_eq_true, decide_eq_true_eq]
          refine ⟨fun x hx => ?_, (nodup_idx _).1 fun j hj => (hno j hj (by omega)).2⟩
          obtain ⟨j, hj, rfl⟩ := List.getElem_of_mem hx
          exact (hno j hj (by omega)).1
end Go.Proofs.Ytblagioibffgcaa
