/-
  Codec: lists few and small; their frames, one behind the other: walks.
-/
import Derived.Test.YtnbfdncmlbegmaaPlainG
set_option linter.unusedVariables false
set_option linter.unusedSimpArgs false
set_option maxHeartbeats 1000000
namespace Go.Proofs.Ytnbfdncmlbegmaa
open Go Go.SX Go.RowKit

def smallF (l : List (List Int)) : Bool := (l.take 20).all (fun x => decide (x.length ≤ 30)) && decide (l.length ≤ 10)
theorem smallF_no {l : List (List Int)} {i : Nat} {x : List Int} (h : l[i]? = some x) (hi : i < 20) (hx : 30 < x.length) : smallF l = false := by
  unfold smallF
  rw [all_false (i := i) (x := x) (by rw [List.getElem?_take, if_pos hi]; exact h) (by simp; omega), Bool.false_and]
theorem smallF_all {l : List (List Int)} {i : Nat} (h : ∀ j, j < i → ∀ x, l[j]? = some x → x.length ≤ 30) (hi : ¬ (i < l.length ∧ i < 20)) : smallF l = decide (l.length ≤ 10) := by
  unfold smallF
  rw [show (l.take 20).all (fun x => decide (x.length ≤ 30)) = true from ?_, Bool.true_and]
  rw [List.all_eq_true]
  intro x hx
  obtain ⟨j, hj⟩ := List.getElem?_of_mem hx
  rw [List.getElem?_take] at hj
  split at hj
  · have := (List.getElem?_eq_some_iff.1 hj).1
    simpa using h j (by omega) x hj
  · cases hj
theorem smallF_ok {l : List (List Int)} (h : smallF l = true) (hI : ∀ x, x ∈ l → ∀ n, n ∈ x → isI n) : l.length ≤ 10 ∧ (∀ x, x ∈ l → x.length ≤ 30) ∧ ∀ x, x ∈ l → okL x := by
  unfold smallF at h
  simp only [Bool.and_eq_true, decide_eq_true_eq, List.all_eq_true] at h
  have h30 : ∀ x, x ∈ l → x.length ≤ 30 := fun x hx => h.1 x (by rw [List.take_of_length_le (by omega)]; exact hx)
  exact ⟨h.2, h30, fun x hx => ⟨by have := h30 x hx; omega, hI x hx⟩⟩
theorem allF_small : ∀ {ls : List (List Int)}, (∀ l, l ∈ ls → l.length ≤ 30) → (allF ls).length ≤ 321 * ls.length
  | [], _ => by simp [allF]
  | l :: ls, h => by
    have h1 := allF_small (ls := ls) fun x hx => h x (List.mem_cons_of_mem _ hx)
    have h2 := h l List.mem_cons_self
    have h3 := putF_len l
    rw [allF_cons, List.length_append, frameF_len, List.length_cons]; omega
/-- function 21 -/
theorem small_spec {S : Nat → Prop} {w : World} {v : Value} {l : List (List Int)} (hl : rLists.rd S w [v] l) : Gives Try.prog 21 #[v] w fun r _ => r = .bool (smallF l) := by
  obtain ⟨p, c, rfl, hc1, hc2⟩ := Rp.slice_val hl
  have hl : (Rp.slice rInts).rd (fun _ => True) w _ l := Rp.any hl
  refine gives_of [.val (.slice p l.length c)] 23 [.tmp 2] Try.func21 rfl rfl rfl (by simp) rfl rfl ?_
  refine W.pure (ds := []) rfl fun K1 hK1 => ?_
  simp only [sx, ty, Bool.false_eq_true, Int.reduceEq, Int.reduceLT, Nat.reduceAdd, Nat.reduceSub, Nat.reduceMul, Nat.reduceLT, Nat.reduceLeDiff, Nat.reduceEqDiff, List.reduceReplicate, reduceIte, beq_self_eq_true, bne_self_eq_false, Int.reduceBEq, Int.reduceBNe, Bool.or_false, Bool.false_or, Bool.not_false, Bool.not_true, mbits, Int.reduceToNat, Int.reducePow, Int.toNat_natCast]; with_reducible refine hK1 _ ?_; clear hK1
  refine W.seqK fun K2 hK2 => ?_
  refine W.pure (ds := []) rfl fun K3 hK3 => ?_
  simp only [sx, ty, Bool.false_eq_true, Int.reduceEq, Int.reduceLT, Nat.reduceAdd, Nat.reduceSub, Nat.reduceMul, Nat.reduceLT, Nat.reduceLeDiff, Nat.reduceEqDiff, List.reduceReplicate, reduceIte, beq_self_eq_true, bne_self_eq_false, Int.reduceBEq, Int.reduceBNe, Bool.or_false, Bool.false_or, Bool.not_false, Bool.not_true, mbits, Int.reduceToNat, Int.reducePow, Int.toNat_natCast]; with_reducible refine hK3 _ ?_; clear hK3
  refine W.block ?_
  refine W.loopK (X := Nat) [0] (fun x => [(3, .val (.int .i64 x))]) (fun x => x ≤ l.length ∧ ∀ j, j < x → ∀ y, l[j]? = some y → y.length ≤ 30) (fun x => l.length - x) 0 ?_ ?_ ?_
  · exact ⟨rfl, by simp [getE, bnd, keepE], ⟨[], by simp⟩, by simp [Own.bnd, bndL, bnd, boxO], by simp⟩
  · skip
    exact ⟨Nat.zero_le _, fun j h => by omega⟩
  · rintro i ⟨hi, hno⟩
    simp only [sx, ty, Bool.false_eq_true, Int.reduceEq, Int.reduceLT, Nat.reduceAdd, Nat.reduceSub, Nat.reduceMul, Nat.reduceLT, Nat.reduceLeDiff, Nat.reduceEqDiff, List.reduceReplicate, reduceIte, sxk, beq_self_eq_true, bne_self_eq_false, Int.reduceBEq, Int.reduceBNe, Bool.or_false, Bool.false_or, Bool.not_false, Bool.not_true, mbits, Int.reduceToNat, Int.reducePow, Int.toNat_natCast]
    refine W.seqK fun K4 hK4 => ?_
    refine W.join 11 (.val (.bool (decide (i < l.length ∧ i < 20)))) [0, 3] (W.region ?_) ?_
    · skip
      refine WO.go 5 (ds := [some 4, some 5, some 6, some 7, some 8, some 9, some 10, some 11]) rfl ?_
      simp only [sx, ty, Bool.false_eq_true, Int.reduceEq, Int.reduceLT, Nat.reduceAdd, Nat.reduceSub, Nat.reduceMul, Nat.reduceLT, Nat.reduceLeDiff, Nat.reduceEqDiff, List.reduceReplicate, reduceIte, beq_self_eq_true, bne_self_eq_false, Int.reduceBEq, Int.reduceBNe, Bool.or_false, Bool.false_or, Bool.not_false, Bool.not_true, mbits, Int.reduceToNat, Int.reducePow, Int.toNat_natCast]
      refine WO.cases 8 _ rfl (fun hg8 => ?_) (fun hg8 => ?_)
      · skip
        refine WO.go 3 (ds := [some 4, some 5, some 6, some 7, some 8, some 9, some 10, some 11]) rfl ?_
        simp only [sx, ty, Bool.false_eq_true, Int.reduceEq, Int.reduceLT, Nat.reduceAdd, Nat.reduceSub, Nat.reduceMul, Nat.reduceLT, Nat.reduceLeDiff, Nat.reduceEqDiff, List.reduceReplicate, reduceIte, beq_self_eq_true, bne_self_eq_false, Int.reduceBEq, Int.reduceBNe, Bool.or_false, Bool.false_or, Bool.not_false, Bool.not_true, mbits, Int.reduceToNat, Int.reducePow, Int.toNat_natCast]
        with_reducible refine WO.nil ?_
        refine ⟨rfl, ?_, ⟨_, rfl⟩, by simp [Own.bnd, bndL, bnd, boxO], by simp⟩
        try rw [hg8]
        simp [getE, bnd, keepE]
        try simp at hg8
        try (rw [Bool.eq_iff_iff]; simp; omega)
        try omega
        try simp
        try omega
      · skip
        refine WO.go 3 (ds := [some 4, some 5, some 6, some 7, some 8, some 9, some 10, some 11]) rfl ?_
        simp only [sx, ty, Bool.false_eq_true, Int.reduceEq, Int.reduceLT, Nat.reduceAdd, Nat.reduceSub, Nat.reduceMul, Nat.reduceLT, Nat.reduceLeDiff, Nat.reduceEqDiff, List.reduceReplicate, reduceIte, beq_self_eq_true, bne_self_eq_false, Int.reduceBEq, Int.reduceBNe, Bool.or_false, Bool.false_or, Bool.not_false, Bool.not_true, mbits, Int.reduceToNat, Int.reducePow, Int.toNat_natCast]
        with_reducible refine WO.nil ?_
        refine ⟨rfl, ?_, ⟨_, rfl⟩, by simp [Own.bnd, bndL, bnd, boxO], by simp⟩
        try rw [hg8]
        simp [getE, bnd, keepE]
        try simp at hg8
        try (rw [Bool.eq_iff_iff]; simp; omega)
        try omega
        try simp
        try omega
    · simp only [sx, ty, Bool.false_eq_true, Int.reduceEq, Int.reduceLT, Nat.reduceAdd, Nat.reduceSub, Nat.reduceMul, Nat.reduceLT, Nat.reduceLeDiff, Nat.reduceEqDiff, List.reduceReplicate, reduceIte, sxk, beq_self_eq_true, bne_self_eq_false, Int.reduceBEq, Int.reduceBNe, Bool.or_false, Bool.false_or, Bool.not_false, Bool.not_true, mbits, Int.reduceToNat, Int.reducePow, Int.toNat_natCast]
      refine W.cond rfl rfl (fun hc => ?_) (fun hc => ?_)
      · skip
        have hlt : i < l.length ∧ i < 20 := by simpa using hc
        obtain ⟨y, hy⟩ : ∃ y, l[i]? = some y := ⟨_, List.getElem?_eq_getElem hlt.1⟩
        refine W.skip (hK4 _ ?_)
        refine W.seqK fun K6 hK6 => ?_
        refine W.block ?_
        refine W.seqK fun K7 hK7 => W.region ?_
        refine WO.go 2 (ds := []) rfl ?_
        simp only [sx, ty, Bool.false_eq_true, Int.reduceEq, Int.reduceLT, Nat.reduceAdd, Nat.reduceSub, Nat.reduceMul, Nat.reduceLT, Nat.reduceLeDiff, Nat.reduceEqDiff, List.reduceReplicate, reduceIte, beq_self_eq_true, bne_self_eq_false, Int.reduceBEq, Int.reduceBNe, Bool.or_false, Bool.false_or, Bool.not_false, Bool.not_true, mbits, Int.reduceToNat, Int.reducePow, Int.toNat_natCast]
        refine WO.elem (y := y) hl (by simp [St.put]) (ds := []) rfl rfl rfl (by simp [St.put]) (fun _ => rfl) rfl rfl rfl rfl rfl el32 agg22 sz22 (.inr rfl) (by omega) (hy) fun p ces hces => ?_
        obtain ⟨p9, c9, rfl, hc5, hc6⟩ := rInts_open hces
        have hces1 := hces
        clear hces
        refine WO.go 2 (ds := []) rfl ?_
        simp only [sx, ty, Bool.false_eq_true, Int.reduceEq, Int.reduceLT, Nat.reduceAdd, Nat.reduceSub, Nat.reduceMul, Nat.reduceLT, Nat.reduceLeDiff, Nat.reduceEqDiff, List.reduceReplicate, reduceIte, beq_self_eq_true, bne_self_eq_false, Int.reduceBEq, Int.reduceBNe, Bool.or_false, Bool.false_or, Bool.not_false, Bool.not_true, mbits, Int.reduceToNat, Int.reducePow, Int.toNat_natCast]
        with_reducible refine WO.nil ?_
        refine hK7 _ ?_; clear hK7
        refine W.cond rfl rfl (fun hc => ?_) (fun hc => ?_)
        · skip
          have h30 : 30 < y.length := by simp at hc; omega
          refine W.pure (ds := []) rfl fun K8 hK8 => ?_
          simp only [sx, ty, Bool.false_eq_true, Int.reduceEq, Int.reduceLT, Nat.reduceAdd, Nat.reduceSub, Nat.reduceMul, Nat.reduceLT, Nat.reduceLeDiff, Nat.reduceEqDiff, List.reduceReplicate, reduceIte, beq_self_eq_true, bne_self_eq_false, Int.reduceBEq, Int.reduceBNe, Bool.or_false, Bool.false_or, Bool.not_false, Bool.not_true, mbits, Int.reduceToNat, Int.reducePow, Int.toNat_natCast]; with_reducible refine hK8 _ ?_; clear hK8
          refine W.ret ⟨by simp, _, rfl, fun ρ w1 hb => ?_⟩
          rw [smallF_no hy hlt.2 h30]; rfl
        · skip
          have h30 : y.length ≤ 30 := by simp at hc; omega
          refine W.skip (hK6 _ ?_)
          refine W.region ?_
          refine WO.go 3 (ds := []) rfl ?_
          simp only [sx, ty, Bool.false_eq_true, Int.reduceEq, Int.reduceLT, Nat.reduceAdd, Nat.reduceSub, Nat.reduceMul, Nat.reduceLT, Nat.reduceLeDiff, Nat.reduceEqDiff, List.reduceReplicate, reduceIte, beq_self_eq_true, bne_self_eq_false, Int.reduceBEq, Int.reduceBNe, Bool.or_false, Bool.false_or, Bool.not_false, Bool.not_true, mbits, Int.reduceToNat, Int.reducePow, Int.toNat_natCast]
          with_reducible refine WO.nil ?_
          refine ⟨i + 1, ?_, by first | omega | (simp; omega), rfl, by simp [getE, bnd, keepE, wrap_succ (show i + 1 ≤ 9223372036854775807 by omega)], ⟨_, rfl⟩, by simp [Own.bnd, bndL, bnd, boxO], by simp⟩
          refine ⟨hlt.1, fun j h z hz => ?_⟩
          rcases Nat.lt_succ_iff_lt_or_eq.1 h with h | rfl
          · exact hno j h z hz
          · rw [hy] at hz; cases hz; exact h30
      · skip
        have hlt : ¬ (i < l.length ∧ i < 20) := by simpa using hc
        refine W.exit (hK2 _ ?_)
        refine W.pure (ds := []) rfl fun K9 hK9 => ?_
        simp only [sx, ty, Bool.false_eq_true, Int.reduceEq, Int.reduceLT, Nat.reduceAdd, Nat.reduceSub, Nat.reduceMul, Nat.reduceLT, Nat.reduceLeDiff, Nat.reduceEqDiff, List.reduceReplicate, reduceIte, beq_self_eq_true, bne_self_eq_false, Int.reduceBEq, Int.reduceBNe, Bool.or_false, Bool.false_or, Bool.not_false, Bool.not_true, mbits, Int.reduceToNat, Int.reducePow, Int.toNat_natCast]; with_reducible refine hK9 _ ?_; clear hK9
        refine W.ret ⟨by simp, _, rfl, fun ρ w1 hb => ?_⟩
        rw [smallF_all hno hlt]
        simp only [den, Value.bool.injEq]
        rw [Bool.eq_iff_iff]; simp; omega

def endsF (ls : List (List Int)) (i : Nat) : List Int := (List.range i).map fun j => ((allF (ls.take (j + 1))).length : Int)
theorem endsF_len (ls : List (List Int)) (i : Nat) : (endsF ls i).length = i := by simp [endsF]
theorem endsF_succ (ls : List (List Int)) (i : Nat) : endsF ls (i + 1) = endsF ls i ++ [((allF (ls.take (i + 1))).length : Int)] := by simp [endsF, List.range_succ]
theorem endsF_get {ls : List (List Int)} {n i : Nat} (h : i < n) : (endsF ls n)[i]? = some ((allF (ls.take (i + 1))).length : Int) := by simp [endsF, h]
theorem allF_step {ls : List (List Int)} {i : Nat} {x : List Int} (h : ls[i]? = some x) : allF (ls.take (i + 1)) = allF (ls.take i) ++ frameF (putF x) := by
  rw [List.take_add_one, h, allF_app]; simp [allF]
theorem allF_len : ∀ {ls : List (List Int)}, (∀ l, l ∈ ls → okL l) → (allF ls).length ≤ 40021 * ls.length
  | [], _ => by simp [allF]
  | l :: ls, h => by
    have h1 := allF_len (ls := ls) fun x hx => h x (List.mem_cons_of_mem _ hx)
    have h2 := (h l List.mem_cons_self).1
    have h3 := putF_len l
    rw [allF_cons, List.length_append, frameF_len, List.length_cons]; omega
theorem allF_take_len {ls : List (List Int)} (h : ∀ l, l ∈ ls → okL l) (hn : ls.length ≤ 10) (i : Nat) : (allF (ls.take i)).length ≤ 400210 := by
  have h1 := allF_len (ls := ls.take i) fun x hx => h x (List.mem_of_mem_take hx)
  rw [List.length_take] at h1; omega
/-- function 22 -/
theorem frames_spec {S : Nat → Prop} {w : World} {v : Value} {l : List (List Int)} (hl : rLists.rd S w [v] l) (hn : l.length ≤ 10) (hok : ∀ x, x ∈ l → okL x) : Gives Try.prog 22 #[v] w fun r w' =>
    ∃ x : (Option Addr × Nat) × (Option Addr × Nat), r = .tuple #[.slice x.1.1 (allF l).length x.1.2, .slice x.2.1 l.length x.2.2, .bool true] ∧ rBytes.rd (fun b => w.heap.size ≤ b) w' [.slice x.1.1 (allF l).length x.1.2] (allF l) ∧ rInts.rd (fun b => w.heap.size ≤ b) w' [.slice x.2.1 l.length x.2.2] (endsF l l.length) := by
  obtain ⟨p, c, rfl, hc1, hc2⟩ := Rp.slice_val hl
  have hl : (Rp.slice rInts).rd (fun _ => True) w _ l := Rp.any hl
  refine gives_of [.val (.slice p l.length c)] 41 [.tmp 2, .tmp 3, .tmp 4] Try.func22 rfl rfl rfl (by simp) rfl rfl ?_
  refine W.pure (ds := []) rfl fun K1 hK1 => ?_
  simp only [sx, ty, Bool.false_eq_true, Int.reduceEq, Int.reduceLT, Nat.reduceAdd, Nat.reduceSub, Nat.reduceMul, Nat.reduceLT, Nat.reduceLeDiff, Nat.reduceEqDiff, List.reduceReplicate, reduceIte, beq_self_eq_true, bne_self_eq_false, Int.reduceBEq, Int.reduceBNe, Bool.or_false, Bool.false_or, Bool.not_false, Bool.not_true, mbits, Int.reduceToNat, Int.reducePow, Int.toNat_natCast]; with_reducible refine hK1 _ ?_; clear hK1
  refine W.pure (ds := []) rfl fun K2 hK2 => ?_
  simp only [sx, ty, Bool.false_eq_true, Int.reduceEq, Int.reduceLT, Nat.reduceAdd, Nat.reduceSub, Nat.reduceMul, Nat.reduceLT, Nat.reduceLeDiff, Nat.reduceEqDiff, List.reduceReplicate, reduceIte, beq_self_eq_true, bne_self_eq_false, Int.reduceBEq, Int.reduceBNe, Bool.or_false, Bool.false_or, Bool.not_false, Bool.not_true, mbits, Int.reduceToNat, Int.reducePow, Int.toNat_natCast]; with_reducible refine hK2 _ ?_; clear hK2
  refine W.pure (ds := []) rfl fun K3 hK3 => ?_
  simp only [sx, ty, Bool.false_eq_true, Int.reduceEq, Int.reduceLT, Nat.reduceAdd, Nat.reduceSub, Nat.reduceMul, Nat.reduceLT, Nat.reduceLeDiff, Nat.reduceEqDiff, List.reduceReplicate, reduceIte, beq_self_eq_true, bne_self_eq_false, Int.reduceBEq, Int.reduceBNe, Bool.or_false, Bool.false_or, Bool.not_false, Bool.not_true, mbits, Int.reduceToNat, Int.reducePow, Int.toNat_natCast]; with_reducible refine hK3 _ ?_; clear hK3
  refine W.seqK fun K4 hK4 => ?_
  refine W.pure (ds := []) rfl fun K5 hK5 => ?_
  simp only [sx, ty, Bool.false_eq_true, Int.reduceEq, Int.reduceLT, Nat.reduceAdd, Nat.reduceSub, Nat.reduceMul, Nat.reduceLT, Nat.reduceLeDiff, Nat.reduceEqDiff, List.reduceReplicate, reduceIte, beq_self_eq_true, bne_self_eq_false, Int.reduceBEq, Int.reduceBNe, Bool.or_false, Bool.false_or, Bool.not_false, Bool.not_true, mbits, Int.reduceToNat, Int.reducePow, Int.toNat_natCast]; with_reducible refine hK5 _ ?_; clear hK5
  refine W.block ?_
  refine W.ownNil 5 1 ?_
  refine W.ownNil 3 1 ?_
  simp only [sx, ty, Bool.false_eq_true, Int.reduceEq, Int.reduceLT, Nat.reduceAdd, Nat.reduceSub, Nat.reduceMul, Nat.reduceLT, Nat.reduceLeDiff, Nat.reduceEqDiff, List.reduceReplicate, reduceIte, St.pushO, List.nil_append, List.cons_append]
  refine W.loopO (X := Nat × (Option Addr × Nat) × (Option Addr × Nat)) [0] (fun x => [(5, .val (.slice x.2.1.1 (allF (l.take x.1)).length x.2.1.2)), (6, .val (.slice x.2.2.1 x.1 x.2.2.2)), (7, .val (.int .i64 x.1))]) (fun x => [OB (allF (l.take x.1)) x.2.1, .slice 3 1 (.slice x.2.2.1 x.1 x.2.2.2) x.1 ((endsF l x.1).map (.int .i64))]) (fun x => [((fun _ => True), w)]) (fun x => x.1 ≤ l.length) (fun x => l.length - x.1) (0, (none, 0), (none, 0)) ?_ ?_ ?_
  · exact ⟨rfl, by simp [getE, bnd, keepE, allF], ⟨[], by simp [OB, allF, endsF]⟩, by simp [Own.bnd, bndL, bnd, boxO, OB], by simp⟩
  · skip
    exact Nat.zero_le _
  · rintro ⟨i, ⟨p3, c3⟩, ⟨p4, c4⟩⟩ hi
    simp only at hi
    simp only [sx, ty, Bool.false_eq_true, Int.reduceEq, Int.reduceLT, Nat.reduceAdd, Nat.reduceSub, Nat.reduceMul, Nat.reduceLT, Nat.reduceLeDiff, Nat.reduceEqDiff, List.reduceReplicate, reduceIte, sxk, beq_self_eq_true, bne_self_eq_false, Int.reduceBEq, Int.reduceBNe, Bool.or_false, Bool.false_or, Bool.not_false, Bool.not_true, mbits, Int.reduceToNat, Int.reducePow, Int.toNat_natCast]
    refine W.seqK fun K6 hK6 => ?_
    refine W.pure (ds := []) rfl fun K7 hK7 => ?_
    simp only [sx, ty, Bool.false_eq_true, Int.reduceEq, Int.reduceLT, Nat.reduceAdd, Nat.reduceSub, Nat.reduceMul, Nat.reduceLT, Nat.reduceLeDiff, Nat.reduceEqDiff, List.reduceReplicate, reduceIte, beq_self_eq_true, bne_self_eq_false, Int.reduceBEq, Int.reduceBNe, Bool.or_false, Bool.false_or, Bool.not_false, Bool.not_true, mbits, Int.reduceToNat, Int.reducePow, Int.toNat_natCast]; with_reducible refine hK7 _ ?_; clear hK7
    refine W.cond rfl rfl (fun hc => ?_) (fun hc => ?_)
    · skip
      have hlt : i < l.length := by simpa using hc
      obtain ⟨y, hy⟩ : ∃ y, l[i]? = some y := ⟨_, List.getElem?_eq_getElem hlt⟩
      have hy1 := hok y (List.mem_of_getElem? hy)
      have hst : (allF (l.take (i + 1))).length = (allF (l.take i)).length + (frameF (putF y)).length := by rw [allF_step hy, List.length_append]
      have hal := allF_take_len hok hn (i + 1)
      have hfl := frameF_len (putF y)
      have hpl := putF_len y
      have hel := endsF_len l i
      refine W.skip (hK6 _ ?_)
      refine W.seqK fun K8 hK8 => ?_
      refine W.block ?_
      refine W.seqK fun K9 hK9 => W.region ?_
      refine WO.go 2 (ds := []) rfl ?_
      simp only [sx, ty, Bool.false_eq_true, Int.reduceEq, Int.reduceLT, Nat.reduceAdd, Nat.reduceSub, Nat.reduceMul, Nat.reduceLT, Nat.reduceLeDiff, Nat.reduceEqDiff, List.reduceReplicate, reduceIte, beq_self_eq_true, bne_self_eq_false, Int.reduceBEq, Int.reduceBNe, Bool.or_false, Bool.false_or, Bool.not_false, Bool.not_true, mbits, Int.reduceToNat, Int.reducePow, Int.toNat_natCast]
      refine WO.elem (y := y) hl (by simp [St.put]) (ds := []) rfl rfl rfl (by simp [St.put]) (fun _ => rfl) rfl rfl rfl rfl rfl el32 agg22 sz22 (.inr rfl) (by omega) (hy) fun p ces hces => ?_
      obtain ⟨p9, c9, rfl, hc5, hc6⟩ := rInts_open hces
      have hces1 := hces
      clear hces
      simp only [sx, ty, Bool.false_eq_true, Int.reduceEq, Int.reduceLT, Nat.reduceAdd, Nat.reduceSub, Nat.reduceMul, Nat.reduceLT, Nat.reduceLeDiff, Nat.reduceEqDiff, List.reduceReplicate, reduceIte, beq_self_eq_true, bne_self_eq_false, Int.reduceBEq, Int.reduceBNe, Bool.or_false, Bool.false_or, Bool.not_false, Bool.not_true, mbits, Int.reduceToNat, Int.reducePow, Int.toNat_natCast]
      refine WO.callM (fun x : Option Addr × Nat => .tuple #[.slice x.1 (frameF (putF y)).length x.2, .int .i64 0]) (fun lo x s9 => rBytes.rd (fun b => lo ≤ b) s9 [.slice x.1 (frameF (putF y)).length x.2] (frameF (putF y))) (ds := []) rfl rfl rfl rfl co13 (fun ρ w1 hb => by have h9 := Frame_spec (Rp.keep hces1 (hb.at (by simp))) hy1.2; rw [FrameF_ok (by have := hy1.1; omega)] at h9; exact h9) fun x lo hr1s hr1 => ?_
      obtain ⟨hr1p, hr1c⟩ := x
      simp only at hr1
      obtain h9 | ⟨a1, olds, ha1, hnl, hSD, hzD, holD, hatD, hrdD⟩ := Rp.slice_cells hr1
      · rw [h9] at hfl; simp at hfl
      subst ha1
      have hE := bytes_cells (by rw [holD]; exact Nat.mul_one _) hrdD
      have hatE : At hr1s a1 ((frameF (putF y)).map (Value.int .u8)) := by rw [← hE]; exact hatD
      clear hE
      refine WO.go 5 (ds := []) rfl ?_
      simp only [sx, ty, Bool.false_eq_true, Int.reduceEq, Int.reduceLT, Nat.reduceAdd, Nat.reduceSub, Nat.reduceMul, Nat.reduceLT, Nat.reduceLeDiff, Nat.reduceEqDiff, List.reduceReplicate, reduceIte, beq_self_eq_true, bne_self_eq_false, Int.reduceBEq, Int.reduceBNe, Bool.or_false, Bool.false_or, Bool.not_false, Bool.not_true, mbits, Int.reduceToNat, Int.reducePow, Int.toNat_natCast]
      with_reducible refine WO.nil ?_
      refine hK9 _ ?_; clear hK9
      refine W.seqK fun K10 hK10 => ?_
      refine W.join 30 (.val (.bool false)) [0, 5, 6, 7, 8] (W.region ?_) ?_
      · skip
        refine WO.go 7 (ds := [some 24, some 25, some 26, some 27, some 28, some 29, some 30]) rfl ?_
        simp only [sx, ty, Bool.false_eq_true, Int.reduceEq, Int.reduceLT, Nat.reduceAdd, Nat.reduceSub, Nat.reduceMul, Nat.reduceLT, Nat.reduceLeDiff, Nat.reduceEqDiff, List.reduceReplicate, reduceIte, beq_self_eq_true, bne_self_eq_false, Int.reduceBEq, Int.reduceBNe, Bool.or_false, Bool.false_or, Bool.not_false, Bool.not_true, mbits, Int.reduceToNat, Int.reducePow, Int.toNat_natCast]
        with_reducible refine WO.nil ?_
        refine ⟨rfl, ?_, ⟨_, rfl⟩, by simp [Own.bnd, bndL, bnd, boxO, OB], by simp⟩
        try simp [getE, bnd, keepE]
        try omega
      · simp only [sx, ty, Bool.false_eq_true, Int.reduceEq, Int.reduceLT, Nat.reduceAdd, Nat.reduceSub, Nat.reduceMul, Nat.reduceLT, Nat.reduceLeDiff, Nat.reduceEqDiff, List.reduceReplicate, reduceIte, sxk, beq_self_eq_true, bne_self_eq_false, Int.reduceBEq, Int.reduceBNe, Bool.or_false, Bool.false_or, Bool.not_false, Bool.not_true, mbits, Int.reduceToNat, Int.reducePow, Int.toNat_natCast]
        refine W.cond rfl rfl (fun hc => ?_) (fun hc => ?_)
        · skip
          simp at hc
        · skip
          refine W.skip (hK10 _ ?_)
          refine W.seqK fun K12 hK12 => W.region ?_
          refine WO.go 2 (ds := []) rfl ?_
          simp only [sx, ty, Bool.false_eq_true, Int.reduceEq, Int.reduceLT, Nat.reduceAdd, Nat.reduceSub, Nat.reduceMul, Nat.reduceLT, Nat.reduceLeDiff, Nat.reduceEqDiff, List.reduceReplicate, reduceIte, beq_self_eq_true, bne_self_eq_false, Int.reduceBEq, Int.reduceBNe, Bool.or_false, Bool.false_or, Bool.not_false, Bool.not_true, mbits, Int.reduceToNat, Int.reducePow, Int.toNat_natCast]
          refine WO.append (k := 0) (m := (frameF (putF y)).length) ((frameF (putF y)).map (.int .u8)) (ds := []) rfl rfl rfl rfl rfl rfl rfl ek23 (fun ρ w1 hb => ⟨a1, hr1c, rfl, hatE.now hb (by simp) hSD hzD⟩) (by simp) (by simp [Value.oneCell']) (by rw [maxLen_eq]; omega) (by omega) fun p6 c6 => ?_
          refine WO.go 1 (ds := []) rfl ?_
          simp only [sx, ty, Bool.false_eq_true, Int.reduceEq, Int.reduceLT, Nat.reduceAdd, Nat.reduceSub, Nat.reduceMul, Nat.reduceLT, Nat.reduceLeDiff, Nat.reduceEqDiff, List.reduceReplicate, reduceIte, beq_self_eq_true, bne_self_eq_false, Int.reduceBEq, Int.reduceBNe, Bool.or_false, Bool.false_or, Bool.not_false, Bool.not_true, mbits, Int.reduceToNat, Int.reducePow, Int.toNat_natCast]
          with_reducible refine WO.nil ?_
          refine hK12 _ ?_; clear hK12
          refine W.region ?_
          refine WO.go 4 (ds := []) rfl ?_
          simp only [sx, ty, Bool.false_eq_true, Int.reduceEq, Int.reduceLT, Nat.reduceAdd, Nat.reduceSub, Nat.reduceMul, Nat.reduceLT, Nat.reduceLeDiff, Nat.reduceEqDiff, List.reduceReplicate, reduceIte, beq_self_eq_true, bne_self_eq_false, Int.reduceBEq, Int.reduceBNe, Bool.or_false, Bool.false_or, Bool.not_false, Bool.not_true, mbits, Int.reduceToNat, Int.reducePow, Int.toNat_natCast]
          refine WO.append (k := 1) (m := 1) [.int .i64 ((allF (l.take (i + 1))).length : Int)] (ds := []) rfl rfl rfl rfl rfl rfl rfl ek22 (news_own (k2 := 2) rfl fun _ => by simp [den, denL, hst]) rfl (by simp [Value.oneCell']) (by rw [maxLen_eq]; omega) (by omega) fun p7 c7 => ?_
          refine WO.go 1 (ds := []) rfl ?_
          simp only [sx, ty, Bool.false_eq_true, Int.reduceEq, Int.reduceLT, Nat.reduceAdd, Nat.reduceSub, Nat.reduceMul, Nat.reduceLT, Nat.reduceLeDiff, Nat.reduceEqDiff, List.reduceReplicate, reduceIte, beq_self_eq_true, bne_self_eq_false, Int.reduceBEq, Int.reduceBNe, Bool.or_false, Bool.false_or, Bool.not_false, Bool.not_true, mbits, Int.reduceToNat, Int.reducePow, Int.toNat_natCast]
          with_reducible refine WO.nil ?_
          refine hK8 _ ?_
          refine W.region ?_
          refine WO.go 3 (ds := []) rfl ?_
          simp only [sx, ty, Bool.false_eq_true, Int.reduceEq, Int.reduceLT, Nat.reduceAdd, Nat.reduceSub, Nat.reduceMul, Nat.reduceLT, Nat.reduceLeDiff, Nat.reduceEqDiff, List.reduceReplicate, reduceIte, beq_self_eq_true, bne_self_eq_false, Int.reduceBEq, Int.reduceBNe, Bool.or_false, Bool.false_or, Bool.not_false, Bool.not_true, mbits, Int.reduceToNat, Int.reducePow, Int.toNat_natCast]
          with_reducible refine WO.nil ?_
          refine ⟨(i + 1, (p6, c6), (p7, c7)), hlt, by simp only; omega, rfl, by simp [getE, bnd, keepE, hst, wrap_succ (show i + 1 ≤ 9223372036854775807 by omega)], ⟨[.cells 3 [.val (.int .i64 ((allF (l.take (i + 1))).length : Int))]], by simp [hst, OB, allF_step hy, endsF_succ]⟩, by simp [Own.bnd, bndL, bnd, OB], by simp⟩
    · skip
      obtain rfl : i = l.length := Nat.le_antisymm hi (by simpa using hc)
      refine W.exit (hK4 _ ?_)
      refine W.pure (ds := []) rfl fun K13 hK13 => ?_
      simp only [sx, ty, Bool.false_eq_true, Int.reduceEq, Int.reduceLT, Nat.reduceAdd, Nat.reduceSub, Nat.reduceMul, Nat.reduceLT, Nat.reduceLeDiff, Nat.reduceEqDiff, List.reduceReplicate, reduceIte, beq_self_eq_true, bne_self_eq_false, Int.reduceBEq, Int.reduceBNe, Bool.or_false, Bool.false_or, Bool.not_false, Bool.not_true, mbits, Int.reduceToNat, Int.reducePow, Int.toNat_natCast]; with_reducible refine hK13 _ ?_; clear hK13
      refine W.ret ⟨by simp, _, rfl, fun ρ w1 hb => ?_⟩
      refine ⟨((p3, c3), (p4, c4)), by simp only [den, denL, List.take_length], ?_, ?_⟩
      · have h9 := OB_rd (new_own (w0 := w) (o := OB (allF (l.take l.length)) (p3, c3)) hb (by simp) (k := 0) rfl rfl)
        rwa [List.take_length] at h9
      · exact own_slice (A := rInt) (k := 1) (xs := (endsF l l.length).map (.int .i64)) hb rfl (endsF_len _ _).symm (fun b hb' => own_new hb (by simp) (k := 1) rfl hb') (ints_read (endsF l l.length))
end Go.Proofs.Ytnbfdncmlbegmaa
