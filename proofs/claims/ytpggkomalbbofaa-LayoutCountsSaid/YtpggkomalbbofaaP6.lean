/-
  Layout: Valid of the package, pages compared: walks.
-/
import Derived.Test.YtpggkomalbbofaaPlainE
set_option linter.unusedVariables false
set_option linter.unusedSimpArgs false
set_option maxHeartbeats 1000000
namespace Go.Proofs.Ytpggkomalbbofaa
open Go Go.SX Go.RowKit

theorem any_not {α : Type} (q : α → Bool) (l : List α) : (!(l.any fun x => !q x)) = l.all q := by simp [List.not_any_eq_all_not]
/-- function 16 -/
theorem valid_spec {S S2 : Nat → Prop} {w : World} {v u : Value} {ws : List Int} {l : List Pg} (hl : rInts.rd S w [v] ws) (hl2 : rPgs.rd S2 w [u] l) (width : Int) : Gives Try.prog 16 #[v, .int .i64 width, u] w fun r _ => r = .bool (validF ws width l) := by
  obtain ⟨p, c, rfl, hc1, hc2⟩ := Rp.slice_val hl
  obtain ⟨p2, c2, rfl, hc3, hc4⟩ := Rp.slice_val hl2
  have hl : (Rp.slice rInt).rd (fun _ => True) w _ ws := Rp.any hl
  have hl2 : (Rp.slice rPg).rd (fun _ => True) w _ l := Rp.any hl2
  refine gives_of [.val (.slice p ws.length c), .val (.int .i64 width), .val (.slice p2 l.length c2)] 31 [.tmp 6] Try.func16 rfl rfl rfl (by simp) rfl rfl ?_
  refine W.pure (ds := []) rfl fun K1 hK1 => ?_
  simp only [sx, ty, Bool.false_eq_true, Int.reduceEq, Int.reduceLT, Nat.reduceAdd, Nat.reduceSub, Nat.reduceMul, Nat.reduceLT, Nat.reduceLeDiff, Nat.reduceEqDiff, List.reduceReplicate, reduceIte, beq_self_eq_true, bne_self_eq_false, Int.reduceBEq, Int.reduceBNe, Bool.or_false, Bool.false_or, Bool.not_false, Bool.not_true]; with_reducible refine hK1 _ ?_; clear hK1
  refine W.seqK fun K2 hK2 => ?_
  refine W.join 25 (.val (.bool (!(widthsF ws && (pagedF l ws.length && within 1 100000 width))))) [2, 3, 4] (W.region ?_) ?_
  · skip
    refine WO.go 4 (ds := [some 8, some 9, some 10, some 11, some 12, some 13, some 14, some 15, some 16, some 17, some 18, some 19, some 20, some 21, some 22, some 23, some 24, some 25]) rfl ?_
    simp only [sx, ty, Bool.false_eq_true, Int.reduceEq, Int.reduceLT, Nat.reduceAdd, Nat.reduceSub, Nat.reduceMul, Nat.reduceLT, Nat.reduceLeDiff, Nat.reduceEqDiff, List.reduceReplicate, reduceIte, beq_self_eq_true, bne_self_eq_false, Int.reduceBEq, Int.reduceBNe, Bool.or_false, Bool.false_or, Bool.not_false, Bool.not_true]
    refine WO.cases 11 _ rfl (fun hg11 => ?_) (fun hg11 => ?_)
    · skip
      refine WO.go 14 (ds := [some 8, some 9, some 10, some 11, some 12, some 13, some 14, some 15, some 16, some 17, some 18, some 19, some 20, some 21, some 22, some 23, some 24, some 25]) rfl ?_
      simp only [sx, ty, Bool.false_eq_true, Int.reduceEq, Int.reduceLT, Nat.reduceAdd, Nat.reduceSub, Nat.reduceMul, Nat.reduceLT, Nat.reduceLeDiff, Nat.reduceEqDiff, List.reduceReplicate, reduceIte, beq_self_eq_true, bne_self_eq_false, Int.reduceBEq, Int.reduceBNe, Bool.or_false, Bool.false_or, Bool.not_false, Bool.not_true]
      with_reducible refine WO.nil ?_
      refine ⟨rfl, ?_, ⟨_, rfl⟩, by simp [Own.bnd, bndL, bnd, boxO], by simp⟩
      try rw [hg11]
      try rw [hg15]
      try rw [hg19]
      simp [getE, bnd, keepE]
      try simp only [any_wrong] at *
      try simp_all [widthsF]
      try (left; intro h9; obtain ⟨x9, hx9, h8⟩ := hg19; rw [h9 x9 hx9] at h8; cases h8)
      try (left; intro h9; omega)
      try (intro h9; omega)
    · skip
      refine WO.go 1 (ds := [some 8, some 9, some 10, some 11, some 12, some 13, some 14, some 15, some 16, some 17, some 18, some 19, some 20, some 21, some 22, some 23, some 24, some 25]) rfl ?_
      simp only [sx, ty, Bool.false_eq_true, Int.reduceEq, Int.reduceLT, Nat.reduceAdd, Nat.reduceSub, Nat.reduceMul, Nat.reduceLT, Nat.reduceLeDiff, Nat.reduceEqDiff, List.reduceReplicate, reduceIte, beq_self_eq_true, bne_self_eq_false, Int.reduceBEq, Int.reduceBNe, Bool.or_false, Bool.false_or, Bool.not_false, Bool.not_true]
      refine WO.call (.bool (!within 1 100000 width)) (ds := [some 8, some 9, some 10, some 11, some 12, some 13, some 14, some 15, some 16, some 17, some 18, some 19, some 20, some 21, some 22, some 23, some 24, some 25]) rfl rfl rfl rfl co19 (fun ρ w1 hb => wrong_spec w1 _) ?_
      refine WO.go 2 (ds := [some 8, some 9, some 10, some 11, some 12, some 13, some 14, some 15, some 16, some 17, some 18, some 19, some 20, some 21, some 22, some 23, some 24, some 25]) rfl ?_
      simp only [sx, ty, Bool.false_eq_true, Int.reduceEq, Int.reduceLT, Nat.reduceAdd, Nat.reduceSub, Nat.reduceMul, Nat.reduceLT, Nat.reduceLeDiff, Nat.reduceEqDiff, List.reduceReplicate, reduceIte, beq_self_eq_true, bne_self_eq_false, Int.reduceBEq, Int.reduceBNe, Bool.or_false, Bool.false_or, Bool.not_false, Bool.not_true]
      refine WO.cases 15 _ rfl (fun hg15 => ?_) (fun hg15 => ?_)
      · skip
        refine WO.go 10 (ds := [some 8, some 9, some 10, some 11, some 12, some 13, some 14, some 15, some 16, some 17, some 18, some 19, some 20, some 21, some 22, some 23, some 24, some 25]) rfl ?_
        simp only [sx, ty, Bool.false_eq_true, Int.reduceEq, Int.reduceLT, Nat.reduceAdd, Nat.reduceSub, Nat.reduceMul, Nat.reduceLT, Nat.reduceLeDiff, Nat.reduceEqDiff, List.reduceReplicate, reduceIte, beq_self_eq_true, bne_self_eq_false, Int.reduceBEq, Int.reduceBNe, Bool.or_false, Bool.false_or, Bool.not_false, Bool.not_true]
        with_reducible refine WO.nil ?_
        refine ⟨rfl, ?_, ⟨_, rfl⟩, by simp [Own.bnd, bndL, bnd, boxO], by simp⟩
        try rw [hg11]
        try rw [hg15]
        try rw [hg19]
        simp [getE, bnd, keepE]
        try simp only [any_wrong] at *
        try simp_all [widthsF]
        try (left; intro h9; obtain ⟨x9, hx9, h8⟩ := hg19; rw [h9 x9 hx9] at h8; cases h8)
        try (left; intro h9; omega)
        try (intro h9; omega)
      · skip
        refine WO.go 1 (ds := [some 8, some 9, some 10, some 11, some 12, some 13, some 14, some 15, some 16, some 17, some 18, some 19, some 20, some 21, some 22, some 23, some 24, some 25]) rfl ?_
        simp only [sx, ty, Bool.false_eq_true, Int.reduceEq, Int.reduceLT, Nat.reduceAdd, Nat.reduceSub, Nat.reduceMul, Nat.reduceLT, Nat.reduceLeDiff, Nat.reduceEqDiff, List.reduceReplicate, reduceIte, beq_self_eq_true, bne_self_eq_false, Int.reduceBEq, Int.reduceBNe, Bool.or_false, Bool.false_or, Bool.not_false, Bool.not_true]
        refine WO.call (.bool (ws.any fun n => !within 1 100000 n)) (ds := [some 8, some 9, some 10, some 11, some 12, some 13, some 14, some 15, some 16, some 17, some 18, some 19, some 20, some 21, some 22, some 23, some 24, some 25]) rfl rfl rfl rfl co20 (fun ρ w1 hb => containsInt_spec (Rp.now hl (hb.first (by simp))) (fun n => !within 1 100000 n) 19 #[] (by kernel_rfl) fun w2 hk x hx => wrong_spec w2 x) ?_
        refine WO.go 2 (ds := [some 8, some 9, some 10, some 11, some 12, some 13, some 14, some 15, some 16, some 17, some 18, some 19, some 20, some 21, some 22, some 23, some 24, some 25]) rfl ?_
        simp only [sx, ty, Bool.false_eq_true, Int.reduceEq, Int.reduceLT, Nat.reduceAdd, Nat.reduceSub, Nat.reduceMul, Nat.reduceLT, Nat.reduceLeDiff, Nat.reduceEqDiff, List.reduceReplicate, reduceIte, beq_self_eq_true, bne_self_eq_false, Int.reduceBEq, Int.reduceBNe, Bool.or_false, Bool.false_or, Bool.not_false, Bool.not_true]
        refine WO.cases 19 _ rfl (fun hg19 => ?_) (fun hg19 => ?_)
        · skip
          refine WO.go 6 (ds := [some 8, some 9, some 10, some 11, some 12, some 13, some 14, some 15, some 16, some 17, some 18, some 19, some 20, some 21, some 22, some 23, some 24, some 25]) rfl ?_
          simp only [sx, ty, Bool.false_eq_true, Int.reduceEq, Int.reduceLT, Nat.reduceAdd, Nat.reduceSub, Nat.reduceMul, Nat.reduceLT, Nat.reduceLeDiff, Nat.reduceEqDiff, List.reduceReplicate, reduceIte, beq_self_eq_true, bne_self_eq_false, Int.reduceBEq, Int.reduceBNe, Bool.or_false, Bool.false_or, Bool.not_false, Bool.not_true]
          with_reducible refine WO.nil ?_
          refine ⟨rfl, ?_, ⟨_, rfl⟩, by simp [Own.bnd, bndL, bnd, boxO], by simp⟩
          try rw [hg11]
          try rw [hg15]
          try rw [hg19]
          simp [getE, bnd, keepE]
          try simp only [any_wrong] at *
          try simp_all [widthsF]
          try (left; intro h9; obtain ⟨x9, hx9, h8⟩ := hg19; rw [h9 x9 hx9] at h8; cases h8)
          try (left; intro h9; omega)
          try (intro h9; omega)
        · skip
          refine WO.go 3 (ds := [some 8, some 9, some 10, some 11, some 12, some 13, some 14, some 15, some 16, some 17, some 18, some 19, some 20, some 21, some 22, some 23, some 24, some 25]) rfl ?_
          simp only [sx, ty, Bool.false_eq_true, Int.reduceEq, Int.reduceLT, Nat.reduceAdd, Nat.reduceSub, Nat.reduceMul, Nat.reduceLT, Nat.reduceLeDiff, Nat.reduceEqDiff, List.reduceReplicate, reduceIte, beq_self_eq_true, bne_self_eq_false, Int.reduceBEq, Int.reduceBNe, Bool.or_false, Bool.false_or, Bool.not_false, Bool.not_true]
          refine WO.call (.bool (pagedF l ws.length)) (ds := [some 8, some 9, some 10, some 11, some 12, some 13, some 14, some 15, some 16, some 17, some 18, some 19, some 20, some 21, some 22, some 23, some 24, some 25]) rfl rfl rfl rfl co27 (fun ρ w1 hb => paged_spec (Rp.now hl2 (hb.first (by simp))) _) ?_
          refine WO.go 2 (ds := [some 8, some 9, some 10, some 11, some 12, some 13, some 14, some 15, some 16, some 17, some 18, some 19, some 20, some 21, some 22, some 23, some 24, some 25]) rfl ?_
          simp only [sx, ty, Bool.false_eq_true, Int.reduceEq, Int.reduceLT, Nat.reduceAdd, Nat.reduceSub, Nat.reduceMul, Nat.reduceLT, Nat.reduceLeDiff, Nat.reduceEqDiff, List.reduceReplicate, reduceIte, beq_self_eq_true, bne_self_eq_false, Int.reduceBEq, Int.reduceBNe, Bool.or_false, Bool.false_or, Bool.not_false, Bool.not_true]
          with_reducible refine WO.nil ?_
          refine ⟨rfl, ?_, ⟨_, rfl⟩, by simp [Own.bnd, bndL, bnd, boxO], by simp⟩
          try rw [hg11]
          try rw [hg15]
          try rw [hg19]
          simp [getE, bnd, keepE]
          try simp only [any_wrong] at *
          try simp_all [widthsF]
          try (left; intro h9; obtain ⟨x9, hx9, h8⟩ := hg19; rw [h9 x9 hx9] at h8; cases h8)
          try (left; intro h9; omega)
          try (intro h9; omega)
  · simp only [sx, ty, Bool.false_eq_true, Int.reduceEq, Int.reduceLT, Nat.reduceAdd, Nat.reduceSub, Nat.reduceMul, Nat.reduceLT, Nat.reduceLeDiff, Nat.reduceEqDiff, List.reduceReplicate, reduceIte, sxk, beq_self_eq_true, bne_self_eq_false, Int.reduceBEq, Int.reduceBNe, Bool.or_false, Bool.false_or, Bool.not_false, Bool.not_true]
    refine W.cond rfl rfl (fun hc => ?_) (fun hc => ?_)
    · skip
      have hno : (widthsF ws && (pagedF l ws.length && within 1 100000 width)) = false := by simpa only [Bool.not_eq_true'] using hc
      refine W.pure (ds := []) rfl fun K4 hK4 => ?_
      simp only [sx, ty, Bool.false_eq_true, Int.reduceEq, Int.reduceLT, Nat.reduceAdd, Nat.reduceSub, Nat.reduceMul, Nat.reduceLT, Nat.reduceLeDiff, Nat.reduceEqDiff, List.reduceReplicate, reduceIte, beq_self_eq_true, bne_self_eq_false, Int.reduceBEq, Int.reduceBNe, Bool.or_false, Bool.false_or, Bool.not_false, Bool.not_true]; with_reducible refine hK4 _ ?_; clear hK4
      refine W.ret ⟨by simp, _, rfl, fun ρ w1 hb => ?_⟩
      simp only [den, validF, ← Bool.and_assoc] at hno ⊢
      rw [hno]; rfl
    · skip
      have hyes : (widthsF ws && (pagedF l ws.length && within 1 100000 width)) = true := by simpa only [Bool.not_eq_false'] using hc
      simp only [Bool.and_eq_true] at hyes
      have hww := hyes.1
      simp only [widthsF, Bool.and_eq_true, decide_eq_true_eq] at hww
      have hpg := (paged_iff.1 hyes.2.1).1
      refine W.skip (hK2 _ ?_)
      refine W.pure (ds := []) rfl fun K5 hK5 => ?_
      simp only [sx, ty, Bool.false_eq_true, Int.reduceEq, Int.reduceLT, Nat.reduceAdd, Nat.reduceSub, Nat.reduceMul, Nat.reduceLT, Nat.reduceLeDiff, Nat.reduceEqDiff, List.reduceReplicate, reduceIte, beq_self_eq_true, bne_self_eq_false, Int.reduceBEq, Int.reduceBNe, Bool.or_false, Bool.false_or, Bool.not_false, Bool.not_true]; with_reducible refine hK5 _ ?_; clear hK5
      refine W.seqK fun K6 hK6 => W.region ?_
      refine WO.go 2 (ds := []) rfl ?_
      simp only [sx, ty, Bool.false_eq_true, Int.reduceEq, Int.reduceLT, Nat.reduceAdd, Nat.reduceSub, Nat.reduceMul, Nat.reduceLT, Nat.reduceLeDiff, Nat.reduceEqDiff, List.reduceReplicate, reduceIte, beq_self_eq_true, bne_self_eq_false, Int.reduceBEq, Int.reduceBNe, Bool.or_false, Bool.false_or, Bool.not_false, Bool.not_true]
      refine WO.call (.bool (l.any fun x : Pg => !decide (segS ws x.1 x.2 ≤ width))) (ds := []) rfl rfl rfl rfl co31 (fun ρ w1 hb => by
    obtain ⟨h1, h1l⟩ := own_cells hb (k := 0) rfl 0
    obtain ⟨h2, h2l⟩ := own_cells hb (k := 1) rfl 0
    refine containsPg_spec (Rp.now hl2 (hb.first (by simp))) (fun x : Pg => !decide (segS ws x.1 x.2 ≤ width)) 30 #[.pointer (some ⟨ρ 0, 0, none⟩), .pointer (some ⟨ρ 1, 0, none⟩)] (by kernel_rfl) fun w2 hk x hx => ?_
    obtain ⟨i, hi, rfl⟩ := List.mem_iff_getElem.1 hx
    have hpa := paged_at hpg hi
    exact tooWide_spec (h1.frame (hk.block _ trivial h1l)) (Nat.lt_of_lt_of_le h1l hk.size) (h2.frame (hk.block _ trivial h2l)) (Nat.lt_of_lt_of_le h2l hk.size) (Rp.now hl ((hb.first (by simp)).trans hk)) hww.1 hww.2 l[i] ⟨hpa.1, hpa.2.1, hpa.2.2.1⟩) ?_
      refine WO.go 2 (ds := []) rfl ?_
      simp only [sx, ty, Bool.false_eq_true, Int.reduceEq, Int.reduceLT, Nat.reduceAdd, Nat.reduceSub, Nat.reduceMul, Nat.reduceLT, Nat.reduceLeDiff, Nat.reduceEqDiff, List.reduceReplicate, reduceIte, beq_self_eq_true, bne_self_eq_false, Int.reduceBEq, Int.reduceBNe, Bool.or_false, Bool.false_or, Bool.not_false, Bool.not_true]
      with_reducible refine WO.nil ?_
      refine hK6 _ ?_; clear hK6
      refine W.ret ⟨by simp, _, rfl, fun ρ w1 hb => ?_⟩
      simp only [den, any_not, validF, hyes.1, hyes.2.1, hyes.2.2, Bool.true_and]; rfl

theorem longer_skip : ∀ {a b : List Pg} {i : Nat}, (∀ j, j < i → ∀ q r, a[j]? = some q → b[j]? = some r → q.2 = r.2) → i ≤ a.length → i ≤ b.length → longerF a b = longerF (a.drop i) (b.drop i)
  | a, b, 0, _, _, _ => by simp
  | [], b, i + 1, _, h, _ => by simp at h
  | a, [], i + 1, _, _, h => by simp at h
  | p :: a, q :: b, i + 1, h, h1, h2 => by
    have h0 := h 0 (by omega) p q rfl rfl
    rw [longerF, if_neg (by simp [h0])]
    simp only [List.drop_succ_cons]
    exact longer_skip (fun j hj q r hq hr => h (j + 1) (by omega) q r (by simpa using hq) (by simpa using hr)) (by simpa using h1) (by simpa using h2)
/-- function 18 -/
theorem longer_spec {S S2 : Nat → Prop} {w : World} {v u : Value} {a b : List Pg} (hl : rPgs.rd S w [v] a) (hl2 : rPgs.rd S2 w [u] b) : Gives Try.prog 18 #[v, u] w fun r _ => r = .bool (longerF a b) := by
  obtain ⟨p, c, rfl, hc1, hc2⟩ := Rp.slice_val hl
  obtain ⟨p2, c2, rfl, hc3, hc4⟩ := Rp.slice_val hl2
  have hl : (Rp.slice rPg).rd (fun _ => True) w _ a := Rp.any hl
  have hl2 : (Rp.slice rPg).rd (fun _ => True) w _ b := Rp.any hl2
  refine gives_of [.val (.slice p a.length c), .val (.slice p2 b.length c2)] 40 [.tmp 4] Try.func18 rfl rfl rfl (by simp) rfl rfl ?_
  refine W.pure (ds := []) rfl fun K1 hK1 => ?_
  simp only [sx, ty, Bool.false_eq_true, Int.reduceEq, Int.reduceLT, Nat.reduceAdd, Nat.reduceSub, Nat.reduceMul, Nat.reduceLT, Nat.reduceLeDiff, Nat.reduceEqDiff, List.reduceReplicate, reduceIte, beq_self_eq_true, bne_self_eq_false, Int.reduceBEq, Int.reduceBNe, Bool.or_false, Bool.false_or, Bool.not_false, Bool.not_true]; with_reducible refine hK1 _ ?_; clear hK1
  refine W.seqK fun K2 hK2 => ?_
  refine W.pure (ds := []) rfl fun K3 hK3 => ?_
  simp only [sx, ty, Bool.false_eq_true, Int.reduceEq, Int.reduceLT, Nat.reduceAdd, Nat.reduceSub, Nat.reduceMul, Nat.reduceLT, Nat.reduceLeDiff, Nat.reduceEqDiff, List.reduceReplicate, reduceIte, beq_self_eq_true, bne_self_eq_false, Int.reduceBEq, Int.reduceBNe, Bool.or_false, Bool.false_or, Bool.not_false, Bool.not_true]; with_reducible refine hK3 _ ?_; clear hK3
  refine W.block ?_
  refine W.loopK (X := Nat) [0, 1] (fun x => [(5, .val (.int .i64 x))]) (fun x => x ≤ a.length ∧ x ≤ b.length ∧ ∀ j, j < x → ∀ q r, a[j]? = some q → b[j]? = some r → q.2 = r.2) (fun x => a.length - x) 0 ?_ ?_ ?_
  · exact ⟨rfl, by simp [getE, bnd, keepE], ⟨[], by simp⟩, by simp [Own.bnd, bndL, bnd, boxO], by simp⟩
  · skip
    exact ⟨Nat.zero_le _, Nat.zero_le _, fun j h => by omega⟩
  · rintro i ⟨hi, hi2, hno⟩
    simp only [sx, ty, Bool.false_eq_true, Int.reduceEq, Int.reduceLT, Nat.reduceAdd, Nat.reduceSub, Nat.reduceMul, Nat.reduceLT, Nat.reduceLeDiff, Nat.reduceEqDiff, List.reduceReplicate, reduceIte, sxk, beq_self_eq_true, bne_self_eq_false, Int.reduceBEq, Int.reduceBNe, Bool.or_false, Bool.false_or, Bool.not_false, Bool.not_true]
    refine W.seqK fun K4 hK4 => ?_
    refine W.join 15 (.val (.bool (decide (i < a.length) && decide (i < b.length)))) [0, 1, 5] (W.region ?_) ?_
    · skip
      refine WO.go 5 (ds := [some 6, some 7, some 8, some 9, some 10, some 11, some 12, some 13, some 14, some 15]) rfl ?_
      simp only [sx, ty, Bool.false_eq_true, Int.reduceEq, Int.reduceLT, Nat.reduceAdd, Nat.reduceSub, Nat.reduceMul, Nat.reduceLT, Nat.reduceLeDiff, Nat.reduceEqDiff, List.reduceReplicate, reduceIte, beq_self_eq_true, bne_self_eq_false, Int.reduceBEq, Int.reduceBNe, Bool.or_false, Bool.false_or, Bool.not_false, Bool.not_true]
      refine WO.cases 10 _ rfl (fun hg10 => ?_) (fun hg10 => ?_)
      · skip
        refine WO.go 5 (ds := [some 6, some 7, some 8, some 9, some 10, some 11, some 12, some 13, some 14, some 15]) rfl ?_
        simp only [sx, ty, Bool.false_eq_true, Int.reduceEq, Int.reduceLT, Nat.reduceAdd, Nat.reduceSub, Nat.reduceMul, Nat.reduceLT, Nat.reduceLeDiff, Nat.reduceEqDiff, List.reduceReplicate, reduceIte, beq_self_eq_true, bne_self_eq_false, Int.reduceBEq, Int.reduceBNe, Bool.or_false, Bool.false_or, Bool.not_false, Bool.not_true]
        with_reducible refine WO.nil ?_
        refine ⟨rfl, ?_, ⟨_, rfl⟩, by simp [Own.bnd, bndL, bnd, boxO], by simp⟩
        try rw [hg10]
        simp [getE, bnd, keepE]
        try simp at hg10
        try omega
      · skip
        refine WO.go 5 (ds := [some 6, some 7, some 8, some 9, some 10, some 11, some 12, some 13, some 14, some 15]) rfl ?_
        simp only [sx, ty, Bool.false_eq_true, Int.reduceEq, Int.reduceLT, Nat.reduceAdd, Nat.reduceSub, Nat.reduceMul, Nat.reduceLT, Nat.reduceLeDiff, Nat.reduceEqDiff, List.reduceReplicate, reduceIte, beq_self_eq_true, bne_self_eq_false, Int.reduceBEq, Int.reduceBNe, Bool.or_false, Bool.false_or, Bool.not_false, Bool.not_true]
        with_reducible refine WO.nil ?_
        refine ⟨rfl, ?_, ⟨_, rfl⟩, by simp [Own.bnd, bndL, bnd, boxO], by simp⟩
        try rw [hg10]
        simp [getE, bnd, keepE]
        try simp at hg10
        try omega
    · simp only [sx, ty, Bool.false_eq_true, Int.reduceEq, Int.reduceLT, Nat.reduceAdd, Nat.reduceSub, Nat.reduceMul, Nat.reduceLT, Nat.reduceLeDiff, Nat.reduceEqDiff, List.reduceReplicate, reduceIte, sxk, beq_self_eq_true, bne_self_eq_false, Int.reduceBEq, Int.reduceBNe, Bool.or_false, Bool.false_or, Bool.not_false, Bool.not_true]
      refine W.cond rfl rfl (fun hc => ?_) (fun hc => ?_)
      · skip
        simp only [Bool.and_eq_true, decide_eq_true_eq] at hc
        have hlt := hc.1
        have hlt2 := hc.2
        have hsk := longer_skip hno hi hi2
        rw [List.drop_eq_getElem_cons hlt, List.drop_eq_getElem_cons hlt2, longerF] at hsk
        refine W.skip (hK4 _ ?_)
        refine W.seqK fun K6 hK6 => ?_
        refine W.block ?_
        refine W.seqK fun K7 hK7 => ?_
        refine W.regionQ mixed (by kernel_rfl) ?_
        refine WQ.go 2 (ds := []) rfl ?_
        simp only [sx, ty, Bool.false_eq_true, Int.reduceEq, Int.reduceLT, Nat.reduceAdd, Nat.reduceSub, Nat.reduceMul, Nat.reduceLT, Nat.reduceLeDiff, Nat.reduceEqDiff, List.reduceReplicate, reduceIte, sxq, Bool.false_eq_true, beq_self_eq_true, bne_self_eq_false, Int.reduceBEq, Int.reduceBNe, Bool.or_false, Bool.false_or, Bool.not_false, Bool.not_true]
        refine WQ.elemF (y := a[i]) hl (by simp [St.put]) (ds := []) rfl rfl rfl (by simp [St.put]) (fun _ => rfl) rfl (by simp [St.put]) (fun _ _ => rfl) rfl rfl rfl rfl rfl rfl el24 fo36_1 agg3 sz3 (by decide) (.inr rfl) (by omega) (getIdx a hlt) fun p q ces hces => ?_
        obtain rfl := rPg_open hces
        clear hces
        refine WQ.go 2 (ds := []) rfl ?_
        simp only [sx, ty, Bool.false_eq_true, Int.reduceEq, Int.reduceLT, Nat.reduceAdd, Nat.reduceSub, Nat.reduceMul, Nat.reduceLT, Nat.reduceLeDiff, Nat.reduceEqDiff, List.reduceReplicate, reduceIte, sxq, Bool.false_eq_true, beq_self_eq_true, bne_self_eq_false, Int.reduceBEq, Int.reduceBNe, Bool.or_false, Bool.false_or, Bool.not_false, Bool.not_true]
        refine WQ.elemF (y := b[i]) hl2 (by simp [St.put]) (ds := []) rfl rfl rfl (by simp [St.put]) (fun _ => rfl) rfl (by simp [St.put]) (fun _ _ => rfl) rfl rfl rfl rfl rfl rfl el24 fo36_1 agg3 sz3 (by decide) (.inr rfl) (by omega) (getIdx b hlt2) fun p q ces hces => ?_
        obtain rfl := rPg_open hces
        clear hces
        refine WQ.go 1 (ds := []) rfl ?_
        simp only [sx, ty, Bool.false_eq_true, Int.reduceEq, Int.reduceLT, Nat.reduceAdd, Nat.reduceSub, Nat.reduceMul, Nat.reduceLT, Nat.reduceLeDiff, Nat.reduceEqDiff, List.reduceReplicate, reduceIte, sxq, Bool.false_eq_true, beq_self_eq_true, bne_self_eq_false, Int.reduceBEq, Int.reduceBNe, Bool.or_false, Bool.false_or, Bool.not_false, Bool.not_true]
        with_reducible refine WQ.nil ?_
        refine hK7 _ ?_; clear hK7
        refine W.cond rfl rfl (fun hc => ?_) (fun hc => ?_)
        · skip
          have hd : a[i].2 ≠ b[i].2 := by simpa using hc
          refine W.seqK fun K8 hK8 => ?_
          refine W.regionQ mixed (by kernel_rfl) ?_
          refine WQ.go 2 (ds := []) rfl ?_
          simp only [sx, ty, Bool.false_eq_true, Int.reduceEq, Int.reduceLT, Nat.reduceAdd, Nat.reduceSub, Nat.reduceMul, Nat.reduceLT, Nat.reduceLeDiff, Nat.reduceEqDiff, List.reduceReplicate, reduceIte, sxq, Bool.false_eq_true, beq_self_eq_true, bne_self_eq_false, Int.reduceBEq, Int.reduceBNe, Bool.or_false, Bool.false_or, Bool.not_false, Bool.not_true]
          refine WQ.elemF (y := a[i]) hl (by simp [St.put]) (ds := []) rfl rfl rfl (by simp [St.put]) (fun _ => rfl) rfl (by simp [St.put]) (fun _ _ => rfl) rfl rfl rfl rfl rfl rfl el24 fo36_1 agg3 sz3 (by decide) (.inr rfl) (by omega) (getIdx a hlt) fun p q ces hces => ?_
          obtain rfl := rPg_open hces
          clear hces
          refine WQ.go 2 (ds := []) rfl ?_
          simp only [sx, ty, Bool.false_eq_true, Int.reduceEq, Int.reduceLT, Nat.reduceAdd, Nat.reduceSub, Nat.reduceMul, Nat.reduceLT, Nat.reduceLeDiff, Nat.reduceEqDiff, List.reduceReplicate, reduceIte, sxq, Bool.false_eq_true, beq_self_eq_true, bne_self_eq_false, Int.reduceBEq, Int.reduceBNe, Bool.or_false, Bool.false_or, Bool.not_false, Bool.not_true]
          refine WQ.elemF (y := b[i]) hl2 (by simp [St.put]) (ds := []) rfl rfl rfl (by simp [St.put]) (fun _ => rfl) rfl (by simp [St.put]) (fun _ _ => rfl) rfl rfl rfl rfl rfl rfl el24 fo36_1 agg3 sz3 (by decide) (.inr rfl) (by omega) (getIdx b hlt2) fun p q ces hces => ?_
          obtain rfl := rPg_open hces
          clear hces
          refine WQ.go 2 (ds := []) rfl ?_
          simp only [sx, ty, Bool.false_eq_true, Int.reduceEq, Int.reduceLT, Nat.reduceAdd, Nat.reduceSub, Nat.reduceMul, Nat.reduceLT, Nat.reduceLeDiff, Nat.reduceEqDiff, List.reduceReplicate, reduceIte, sxq, Bool.false_eq_true, beq_self_eq_true, bne_self_eq_false, Int.reduceBEq, Int.reduceBNe, Bool.or_false, Bool.false_or, Bool.not_false, Bool.not_true]
          with_reducible refine WQ.nil ?_
          refine hK8 _ ?_; clear hK8
          refine W.ret ⟨by simp, _, rfl, fun ρ w1 hb => ?_⟩
          simp only [den, hsk, if_pos hd]
        · skip
          have hd : a[i].2 = b[i].2 := by simpa using hc
          refine W.skip (hK6 _ ?_)
          refine W.region ?_
          refine WO.go 3 (ds := []) rfl ?_
          simp only [sx, ty, Bool.false_eq_true, Int.reduceEq, Int.reduceLT, Nat.reduceAdd, Nat.reduceSub, Nat.reduceMul, Nat.reduceLT, Nat.reduceLeDiff, Nat.reduceEqDiff, List.reduceReplicate, reduceIte, beq_self_eq_true, bne_self_eq_false, Int.reduceBEq, Int.reduceBNe, Bool.or_false, Bool.false_or, Bool.not_false, Bool.not_true]
          with_reducible refine WO.nil ?_
          refine ⟨i + 1, ?_, by first | omega | (simp; omega), rfl, by simp [getE, bnd, keepE, wrap_succ (show i + 1 ≤ 9223372036854775807 by omega)], ⟨_, rfl⟩, by simp [Own.bnd, bndL, bnd, boxO], by simp⟩
          refine ⟨hlt, hlt2, fun j hj y z hy hz => ?_⟩
          rcases Nat.lt_succ_iff_lt_or_eq.1 hj with h | rfl
          · exact hno j h y z hy hz
          · rw [getIdx a hlt] at hy; obtain rfl := Option.some.inj hy; rw [getIdx b hlt2] at hz; obtain rfl := Option.some.inj hz; exact hd
      · skip
        have hend : i = a.length ∨ i = b.length := by
          simp only [Bool.and_eq_false_iff, decide_eq_false_iff_not] at hc; omega
        have hsk := longer_skip hno hi hi2
        refine W.exit (hK2 _ ?_)
        refine W.pure (ds := []) rfl fun K9 hK9 => ?_
        simp only [sx, ty, Bool.false_eq_true, Int.reduceEq, Int.reduceLT, Nat.reduceAdd, Nat.reduceSub, Nat.reduceMul, Nat.reduceLT, Nat.reduceLeDiff, Nat.reduceEqDiff, List.reduceReplicate, reduceIte, beq_self_eq_true, bne_self_eq_false, Int.reduceBEq, Int.reduceBNe, Bool.or_false, Bool.false_or, Bool.not_false, Bool.not_true]; with_reducible refine hK9 _ ?_; clear hK9
        refine W.ret ⟨by simp, _, rfl, fun ρ w1 hb => ?_⟩
        have : longerF a b = false := by
          rw [hsk]
          rcases hend with rfl | rfl
          · simp [longerF]
          · cases a.drop b.length <;> simp [longerF]
        simp only [den, this]
end Go.Proofs.Ytpggkomalbbofaa
