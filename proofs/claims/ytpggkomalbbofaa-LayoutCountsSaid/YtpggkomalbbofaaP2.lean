/-
  Layout: lists that are searched by functions: walks.
-/
import Derived.Test.YtpggkomalbbofaaP1
set_option linter.unusedVariables false
set_option linter.unusedSimpArgs false
set_option maxHeartbeats 1000000
namespace Go.Proofs.Ytpggkomalbbofaa
open Go Go.SX Go.RowKit

def findP {α : Type} (q : α → Bool) (l : List α) : Int :=
  match l.findIdx? q with
  | some i => i
  | none => -1
theorem findP_none {α : Type} {p : α → Bool} {l : List α} (h : ∀ (j : Nat) y, l[j]? = some y → p y = false) : findP p l = -1 := by
  unfold findP
  have : l.findIdx? p = none := by
    rw [List.findIdx?_eq_none_iff]
    intro y hy
    obtain ⟨j, hj, hjy⟩ := List.getElem_of_mem hy
    exact h j y (by rw [List.getElem?_eq_getElem hj, hjy])
  rw [this]
theorem findP_some {α : Type} {p : α → Bool} {l : List α} {i : Nat} {x : α} (h : ∀ (j : Nat), j < i → ∀ y, l[j]? = some y → p y = false) (hi : l[i]? = some x) (hx : p x = true) : findP p l = i := by
  unfold findP
  obtain ⟨hlt, he⟩ := List.getElem?_eq_some_iff.1 hi
  have : l.findIdx? p = some i := by
    rw [List.findIdx?_eq_some_iff_getElem]
    refine ⟨hlt, by rw [he]; exact hx, fun j hj => ?_⟩
    have := h j hj l[j] (List.getElem?_eq_getElem (by omega))
    simp [this]
  rw [this]
theorem findP_any {α : Type} (p : α → Bool) (l : List α) : decide (0 ≤ findP p l) = l.any p := by
  unfold findP
  cases h : l.findIdx? p with
  | none => rw [List.findIdx?_eq_none_iff] at h; simp only; rw [show l.any p = false by rw [List.any_eq_false]; intro x hx; simp [h x hx]]; rfl
  | some i =>
    rw [List.findIdx?_eq_some_iff_getElem] at h
    obtain ⟨hi, h1, _⟩ := h
    simp only
    rw [show l.any p = true by rw [List.any_eq_true]; exact ⟨l[i], List.getElem_mem hi, h1⟩]
    exact decide_eq_true (by omega)
theorem any_wrong (l : List Int) : (l.any fun n => !within 1 100000 n) = !l.all (within 1 100000) := by simp [List.not_all_eq_any_not]
/-- function 33 -/
theorem indexInt_spec {S : Nat → Prop} {w : World} {v : Value} {l : List Int} (hl : rInts.rd S w [v] l) (q : Int → Bool) (K : FuncId) (ca : Array Value) (hK : callOk Try.prog K = true)
    (hq : ∀ w1, Keep (fun _ => True) w w1 → ∀ (x : Int), x ∈ l → Gives Try.prog K ([Value.int .i64 x] ++ ca.toList).toArray w1 fun r _ => r = .bool (q x)) : Gives Try.prog 33 #[v, .func (.func K) #[] ca] w fun r _ => r = .int .i64 (findP q l) := by
  obtain ⟨p, c, rfl, hc1, hc2⟩ := Rp.slice_val hl
  have hl : (Rp.slice rInt).rd (fun _ => True) w _ l := Rp.any hl
  refine gives_of [.val (.slice p l.length c), .val (.func (.func K) #[] ca)] 19 [.tmp 4] Try.func33 rfl rfl rfl (by simp) rfl rfl ?_
  refine W.pure (ds := []) rfl fun K1 hK1 => ?_
  simp only [sx, ty, Bool.false_eq_true, Int.reduceEq, Int.reduceLT, Nat.reduceAdd, Nat.reduceSub, Nat.reduceMul, Nat.reduceLT, Nat.reduceLeDiff, Nat.reduceEqDiff, List.reduceReplicate, reduceIte, beq_self_eq_true, bne_self_eq_false, Int.reduceBEq, Int.reduceBNe, Bool.or_false, Bool.false_or, Bool.not_false, Bool.not_true]; with_reducible refine hK1 _ ?_; clear hK1
  refine W.seqK fun K2 hK2 => ?_
  refine W.pure (ds := []) rfl fun K3 hK3 => ?_
  simp only [sx, ty, Bool.false_eq_true, Int.reduceEq, Int.reduceLT, Nat.reduceAdd, Nat.reduceSub, Nat.reduceMul, Nat.reduceLT, Nat.reduceLeDiff, Nat.reduceEqDiff, List.reduceReplicate, reduceIte, beq_self_eq_true, bne_self_eq_false, Int.reduceBEq, Int.reduceBNe, Bool.or_false, Bool.false_or, Bool.not_false, Bool.not_true]; with_reducible refine hK3 _ ?_; clear hK3
  refine W.block ?_
  refine W.loopK (X := Nat) [0, 1, 7] (fun x => [(8, .val (.int .i64 x))]) (fun x => x ≤ l.length ∧ ∀ j, j < x → ∀ y, l[j]? = some y → q y = false) (fun x => l.length - x) 0 ?_ ?_ ?_
  · exact ⟨rfl, by simp [getE, bnd, keepE], ⟨[], by simp⟩, by simp [Own.bnd, bndL, bnd, boxO], by simp⟩
  · skip
    exact ⟨Nat.zero_le _, fun j hj => by omega⟩
  · rintro i ⟨hi, hno⟩
    simp only [sx, ty, Bool.false_eq_true, Int.reduceEq, Int.reduceLT, Nat.reduceAdd, Nat.reduceSub, Nat.reduceMul, Nat.reduceLT, Nat.reduceLeDiff, Nat.reduceEqDiff, List.reduceReplicate, reduceIte, sxk, beq_self_eq_true, bne_self_eq_false, Int.reduceBEq, Int.reduceBNe, Bool.or_false, Bool.false_or, Bool.not_false, Bool.not_true]
    refine W.pure (ds := []) rfl fun K4 hK4 => ?_
    simp only [sx, ty, Bool.false_eq_true, Int.reduceEq, Int.reduceLT, Nat.reduceAdd, Nat.reduceSub, Nat.reduceMul, Nat.reduceLT, Nat.reduceLeDiff, Nat.reduceEqDiff, List.reduceReplicate, reduceIte, beq_self_eq_true, bne_self_eq_false, Int.reduceBEq, Int.reduceBNe, Bool.or_false, Bool.false_or, Bool.not_false, Bool.not_true]; with_reducible refine hK4 _ ?_; clear hK4
    refine W.seqK fun K5 hK5 => ?_
    refine W.cond rfl rfl (fun hc => ?_) (fun hc => ?_)
    · skip
      have hlt : i < l.length := by simpa using hc
      refine W.skip (hK5 _ ?_)
      refine W.seqK fun K6 hK6 => ?_
      refine W.block ?_
      refine W.pure (ds := []) rfl fun K7 hK7 => ?_
      simp only [sx, ty, Bool.false_eq_true, Int.reduceEq, Int.reduceLT, Nat.reduceAdd, Nat.reduceSub, Nat.reduceMul, Nat.reduceLT, Nat.reduceLeDiff, Nat.reduceEqDiff, List.reduceReplicate, reduceIte, beq_self_eq_true, bne_self_eq_false, Int.reduceBEq, Int.reduceBNe, Bool.or_false, Bool.false_or, Bool.not_false, Bool.not_true]; with_reducible refine hK7 _ ?_; clear hK7
      refine W.seqK fun K8 hK8 => W.region ?_
      refine WO.go 3 (ds := []) rfl ?_
      simp only [sx, ty, Bool.false_eq_true, Int.reduceEq, Int.reduceLT, Nat.reduceAdd, Nat.reduceSub, Nat.reduceMul, Nat.reduceLT, Nat.reduceLeDiff, Nat.reduceEqDiff, List.reduceReplicate, reduceIte, beq_self_eq_true, bne_self_eq_false, Int.reduceBEq, Int.reduceBNe, Bool.or_false, Bool.false_or, Bool.not_false, Bool.not_true]
      refine WO.elem (y := l[i]) hl (by simp [St.put]) (ds := []) rfl rfl rfl (by simp [St.put]) (fun _ => rfl) rfl rfl rfl rfl rfl el22 agg3 sz3 (.inr rfl) (by omega) (getIdx l hlt) fun p ces hces => ?_
      obtain rfl := rInt_open hces
      clear hces
      simp only [sx, ty, Bool.false_eq_true, Int.reduceEq, Int.reduceLT, Nat.reduceAdd, Nat.reduceSub, Nat.reduceMul, Nat.reduceLT, Nat.reduceLeDiff, Nat.reduceEqDiff, List.reduceReplicate, reduceIte, beq_self_eq_true, bne_self_eq_false, Int.reduceBEq, Int.reduceBNe, Bool.or_false, Bool.false_or, Bool.not_false, Bool.not_true]
      refine WO.call (.bool (q l[i])) (ds := []) rfl rfl rfl rfl hK (fun ρ w1 hb => by have := hq w1 (hb.first (by simp)) l[i] (List.getElem_mem hlt); simpa [denL_eq, den, Function.comp_def] using this) ?_
      simp only [sx, ty, Bool.false_eq_true, Int.reduceEq, Int.reduceLT, Nat.reduceAdd, Nat.reduceSub, Nat.reduceMul, Nat.reduceLT, Nat.reduceLeDiff, Nat.reduceEqDiff, List.reduceReplicate, reduceIte, beq_self_eq_true, bne_self_eq_false, Int.reduceBEq, Int.reduceBNe, Bool.or_false, Bool.false_or, Bool.not_false, Bool.not_true]
      with_reducible refine WO.nil ?_
      refine hK8 _ ?_; clear hK8
      refine W.cond rfl rfl (fun hc => ?_) (fun hc => ?_)
      · skip
        refine W.pure (ds := []) rfl fun K9 hK9 => ?_
        simp only [sx, ty, Bool.false_eq_true, Int.reduceEq, Int.reduceLT, Nat.reduceAdd, Nat.reduceSub, Nat.reduceMul, Nat.reduceLT, Nat.reduceLeDiff, Nat.reduceEqDiff, List.reduceReplicate, reduceIte, beq_self_eq_true, bne_self_eq_false, Int.reduceBEq, Int.reduceBNe, Bool.or_false, Bool.false_or, Bool.not_false, Bool.not_true]; with_reducible refine hK9 _ ?_; clear hK9
        refine W.ret ⟨by simp, _, rfl, fun ρ w1 hb => ?_⟩
        simp only [den]
        rw [show findP q l = i from findP_some hno (getIdx l hlt) hc]
      · skip
        refine W.skip (hK6 _ ?_)
        refine W.region ?_
        refine WO.go 2 (ds := []) rfl ?_
        simp only [sx, ty, Bool.false_eq_true, Int.reduceEq, Int.reduceLT, Nat.reduceAdd, Nat.reduceSub, Nat.reduceMul, Nat.reduceLT, Nat.reduceLeDiff, Nat.reduceEqDiff, List.reduceReplicate, reduceIte, beq_self_eq_true, bne_self_eq_false, Int.reduceBEq, Int.reduceBNe, Bool.or_false, Bool.false_or, Bool.not_false, Bool.not_true]
        with_reducible refine WO.nil ?_
        refine ⟨i + 1, ?_, by first | omega | (simp; omega), rfl, by simp [getE, bnd, keepE, wrap_succ (show i + 1 ≤ 9223372036854775807 by omega)], ⟨_, rfl⟩, by simp [Own.bnd, bndL, bnd, boxO], by simp⟩
        refine ⟨hlt, fun j hj y hy => ?_⟩
        rcases Nat.lt_succ_iff_lt_or_eq.1 hj with h | rfl
        · exact hno j h y hy
        · rw [getIdx l hlt] at hy; obtain rfl := Option.some.inj hy; exact hc
    · skip
      refine W.exit (hK2 _ ?_)
      refine W.pure (ds := []) rfl fun K10 hK10 => ?_
      simp only [sx, ty, Bool.false_eq_true, Int.reduceEq, Int.reduceLT, Nat.reduceAdd, Nat.reduceSub, Nat.reduceMul, Nat.reduceLT, Nat.reduceLeDiff, Nat.reduceEqDiff, List.reduceReplicate, reduceIte, beq_self_eq_true, bne_self_eq_false, Int.reduceBEq, Int.reduceBNe, Bool.or_false, Bool.false_or, Bool.not_false, Bool.not_true]; with_reducible refine hK10 _ ?_; clear hK10
      refine W.ret ⟨by simp, _, rfl, fun ρ w1 hb => ?_⟩
      have hge : l.length ≤ i := by simpa using hc
      simp only [den]
      rw [show findP q l = -1 from findP_none fun j y hy => hno j (by have := (List.getElem?_eq_some_iff.1 hy).1; omega) y hy]
/-- function 20 -/
theorem containsInt_spec {S : Nat → Prop} {w : World} {v : Value} {l : List Int} (hl : rInts.rd S w [v] l) (q : Int → Bool) (K : FuncId) (ca : Array Value) (hK : callOk Try.prog K = true)
    (hq : ∀ w1, Keep (fun _ => True) w w1 → ∀ (x : Int), x ∈ l → Gives Try.prog K ([Value.int .i64 x] ++ ca.toList).toArray w1 fun r _ => r = .bool (q x)) : Gives Try.prog 20 #[v, .func (.func K) #[] ca] w fun r _ => r = .bool (l.any q) := by
  obtain ⟨p, c, rfl, hc1, hc2⟩ := Rp.slice_val hl
  have hl : (Rp.slice rInt).rd (fun _ => True) w _ l := Rp.any hl
  refine gives_of [.val (.slice p l.length c), .val (.func (.func K) #[] ca)] 9 [.tmp 4] Try.func20 rfl rfl rfl (by simp) rfl rfl ?_
  refine W.pure (ds := []) rfl fun K1 hK1 => ?_
  simp only [sx, ty, Bool.false_eq_true, Int.reduceEq, Int.reduceLT, Nat.reduceAdd, Nat.reduceSub, Nat.reduceMul, Nat.reduceLT, Nat.reduceLeDiff, Nat.reduceEqDiff, List.reduceReplicate, reduceIte, beq_self_eq_true, bne_self_eq_false, Int.reduceBEq, Int.reduceBNe, Bool.or_false, Bool.false_or, Bool.not_false, Bool.not_true]; with_reducible refine hK1 _ ?_; clear hK1
  refine W.seqK fun K2 hK2 => W.region ?_
  refine WO.go 2 (ds := []) rfl ?_
  simp only [sx, ty, Bool.false_eq_true, Int.reduceEq, Int.reduceLT, Nat.reduceAdd, Nat.reduceSub, Nat.reduceMul, Nat.reduceLT, Nat.reduceLeDiff, Nat.reduceEqDiff, List.reduceReplicate, reduceIte, beq_self_eq_true, bne_self_eq_false, Int.reduceBEq, Int.reduceBNe, Bool.or_false, Bool.false_or, Bool.not_false, Bool.not_true]
  refine WO.call (.int .i64 (findP q l)) (ds := []) rfl rfl rfl rfl co33 (fun ρ w1 hb => indexInt_spec (Rp.now hl (hb.first (by simp))) q K ca hK fun w2 hk x hx => hq w2 ((hb.first (by simp)).trans hk) x hx) ?_
  refine WO.go 2 (ds := []) rfl ?_
  simp only [sx, ty, Bool.false_eq_true, Int.reduceEq, Int.reduceLT, Nat.reduceAdd, Nat.reduceSub, Nat.reduceMul, Nat.reduceLT, Nat.reduceLeDiff, Nat.reduceEqDiff, List.reduceReplicate, reduceIte, beq_self_eq_true, bne_self_eq_false, Int.reduceBEq, Int.reduceBNe, Bool.or_false, Bool.false_or, Bool.not_false, Bool.not_true]
  with_reducible refine WO.nil ?_
  refine hK2 _ ?_; clear hK2
  refine W.ret ⟨by simp, _, rfl, fun ρ w1 hb => ?_⟩
  simp only [den]
  rw [← findP_any]
/-- function 37 -/
theorem indexPg_spec {S : Nat → Prop} {w : World} {v : Value} {l : List Pg} (hl : rPgs.rd S w [v] l) (q : Pg → Bool) (K : FuncId) (ca : Array Value) (hK : callOk Try.prog K = true)
    (hq : ∀ w1, Keep (fun _ => True) w w1 → ∀ (x : Pg), x ∈ l → Gives Try.prog K ([Value.agg #[.int .i64 x.1, .int .i64 x.2]] ++ ca.toList).toArray w1 fun r _ => r = .bool (q x)) : Gives Try.prog 37 #[v, .func (.func K) #[] ca] w fun r _ => r = .int .i64 (findP q l) := by
  obtain ⟨p, c, rfl, hc1, hc2⟩ := Rp.slice_val hl
  have hl : (Rp.slice rPg).rd (fun _ => True) w _ l := Rp.any hl
  refine gives_of [.val (.slice p l.length c), .val (.func (.func K) #[] ca)] 19 [.tmp 4] Try.func37 rfl rfl rfl (by simp) rfl rfl ?_
  refine W.pure (ds := []) rfl fun K1 hK1 => ?_
  simp only [sx, ty, Bool.false_eq_true, Int.reduceEq, Int.reduceLT, Nat.reduceAdd, Nat.reduceSub, Nat.reduceMul, Nat.reduceLT, Nat.reduceLeDiff, Nat.reduceEqDiff, List.reduceReplicate, reduceIte, beq_self_eq_true, bne_self_eq_false, Int.reduceBEq, Int.reduceBNe, Bool.or_false, Bool.false_or, Bool.not_false, Bool.not_true]; with_reducible refine hK1 _ ?_; clear hK1
  refine W.seqK fun K2 hK2 => ?_
  refine W.pure (ds := []) rfl fun K3 hK3 => ?_
  simp only [sx, ty, Bool.false_eq_true, Int.reduceEq, Int.reduceLT, Nat.reduceAdd, Nat.reduceSub, Nat.reduceMul, Nat.reduceLT, Nat.reduceLeDiff, Nat.reduceEqDiff, List.reduceReplicate, reduceIte, beq_self_eq_true, bne_self_eq_false, Int.reduceBEq, Int.reduceBNe, Bool.or_false, Bool.false_or, Bool.not_false, Bool.not_true]; with_reducible refine hK3 _ ?_; clear hK3
  refine W.block ?_
  refine W.loopK (X := Nat) [0, 1, 7] (fun x => [(8, .val (.int .i64 x))]) (fun x => x ≤ l.length ∧ ∀ j, j < x → ∀ y, l[j]? = some y → q y = false) (fun x => l.length - x) 0 ?_ ?_ ?_
  · exact ⟨rfl, by simp [getE, bnd, keepE], ⟨[], by simp⟩, by simp [Own.bnd, bndL, bnd, boxO], by simp⟩
  · skip
    exact ⟨Nat.zero_le _, fun j hj => by omega⟩
  · rintro i ⟨hi, hno⟩
    simp only [sx, ty, Bool.false_eq_true, Int.reduceEq, Int.reduceLT, Nat.reduceAdd, Nat.reduceSub, Nat.reduceMul, Nat.reduceLT, Nat.reduceLeDiff, Nat.reduceEqDiff, List.reduceReplicate, reduceIte, sxk, beq_self_eq_true, bne_self_eq_false, Int.reduceBEq, Int.reduceBNe, Bool.or_false, Bool.false_or, Bool.not_false, Bool.not_true]
    refine W.pure (ds := []) rfl fun K4 hK4 => ?_
    simp only [sx, ty, Bool.false_eq_true, Int.reduceEq, Int.reduceLT, Nat.reduceAdd, Nat.reduceSub, Nat.reduceMul, Nat.reduceLT, Nat.reduceLeDiff, Nat.reduceEqDiff, List.reduceReplicate, reduceIte, beq_self_eq_true, bne_self_eq_false, Int.reduceBEq, Int.reduceBNe, Bool.or_false, Bool.false_or, Bool.not_false, Bool.not_true]; with_reducible refine hK4 _ ?_; clear hK4
    refine W.seqK fun K5 hK5 => ?_
    refine W.cond rfl rfl (fun hc => ?_) (fun hc => ?_)
    · skip
      have hlt : i < l.length := by simpa using hc
      refine W.skip (hK5 _ ?_)
      refine W.seqK fun K6 hK6 => ?_
      refine W.block ?_
      refine W.pure (ds := []) rfl fun K7 hK7 => ?_
      simp only [sx, ty, Bool.false_eq_true, Int.reduceEq, Int.reduceLT, Nat.reduceAdd, Nat.reduceSub, Nat.reduceMul, Nat.reduceLT, Nat.reduceLeDiff, Nat.reduceEqDiff, List.reduceReplicate, reduceIte, beq_self_eq_true, bne_self_eq_false, Int.reduceBEq, Int.reduceBNe, Bool.or_false, Bool.false_or, Bool.not_false, Bool.not_true]; with_reducible refine hK7 _ ?_; clear hK7
      refine W.seqK fun K8 hK8 => W.region ?_
      refine WO.go 3 (ds := []) rfl ?_
      simp only [sx, ty, Bool.false_eq_true, Int.reduceEq, Int.reduceLT, Nat.reduceAdd, Nat.reduceSub, Nat.reduceMul, Nat.reduceLT, Nat.reduceLeDiff, Nat.reduceEqDiff, List.reduceReplicate, reduceIte, beq_self_eq_true, bne_self_eq_false, Int.reduceBEq, Int.reduceBNe, Bool.or_false, Bool.false_or, Bool.not_false, Bool.not_true]
      refine WO.elem (y := l[i]) hl (by simp [St.put]) (ds := []) rfl rfl rfl (by simp [St.put]) (fun _ => rfl) rfl rfl rfl rfl rfl el24 agg36 sz36 (.inl rfl) (by omega) (getIdx l hlt) fun p ces hces => ?_
      obtain rfl := rPg_open hces
      clear hces
      simp only [sx, ty, Bool.false_eq_true, Int.reduceEq, Int.reduceLT, Nat.reduceAdd, Nat.reduceSub, Nat.reduceMul, Nat.reduceLT, Nat.reduceLeDiff, Nat.reduceEqDiff, List.reduceReplicate, reduceIte, beq_self_eq_true, bne_self_eq_false, Int.reduceBEq, Int.reduceBNe, Bool.or_false, Bool.false_or, Bool.not_false, Bool.not_true]
      refine WO.call (.bool (q l[i])) (ds := []) rfl rfl rfl rfl hK (fun ρ w1 hb => by have := hq w1 (hb.first (by simp)) l[i] (List.getElem_mem hlt); simpa [denL_eq, den, Function.comp_def] using this) ?_
      simp only [sx, ty, Bool.false_eq_true, Int.reduceEq, Int.reduceLT, Nat.reduceAdd, Nat.reduceSub, Nat.reduceMul, Nat.reduceLT, Nat.reduceLeDiff, Nat.reduceEqDiff, List.reduceReplicate, reduceIte, beq_self_eq_true, bne_self_eq_false, Int.reduceBEq, Int.reduceBNe, Bool.or_false, Bool.false_or, Bool.not_false, Bool.not_true]
      with_reducible refine WO.nil ?_
      refine hK8 _ ?_; clear hK8
      refine W.cond rfl rfl (fun hc => ?_) (fun hc => ?_)
      · skip
        refine W.pure (ds := []) rfl fun K9 hK9 => ?_
        simp only [sx, ty, Bool.false_eq_true, Int.reduceEq, Int.reduceLT, Nat.reduceAdd, Nat.reduceSub, Nat.reduceMul, Nat.reduceLT, Nat.reduceLeDiff, Nat.reduceEqDiff, List.reduceReplicate, reduceIte, beq_self_eq_true, bne_self_eq_false, Int.reduceBEq, Int.reduceBNe, Bool.or_false, Bool.false_or, Bool.not_false, Bool.not_true]; with_reducible refine hK9 _ ?_; clear hK9
        refine W.ret ⟨by simp, _, rfl, fun ρ w1 hb => ?_⟩
        simp only [den]
        rw [show findP q l = i from findP_some hno (getIdx l hlt) hc]
      · skip
        refine W.skip (hK6 _ ?_)
        refine W.region ?_
        refine WO.go 2 (ds := []) rfl ?_
        simp only [sx, ty, Bool.false_eq_true, Int.reduceEq, Int.reduceLT, Nat.reduceAdd, Nat.reduceSub, Nat.reduceMul, Nat.reduceLT, Nat.reduceLeDiff, Nat.reduceEqDiff, List.reduceReplicate, reduceIte, beq_self_eq_true, bne_self_eq_false, Int.reduceBEq, Int.reduceBNe, Bool.or_false, Bool.false_or, Bool.not_false, Bool.not_true]
        with_reducible refine WO.nil ?_
        refine ⟨i + 1, ?_, by first | omega | (simp; omega), rfl, by simp [getE, bnd, keepE, wrap_succ (show i + 1 ≤ 9223372036854775807 by omega)], ⟨_, rfl⟩, by simp [Own.bnd, bndL, bnd, boxO], by simp⟩
        refine ⟨hlt, fun j hj y hy => ?_⟩
        rcases Nat.lt_succ_iff_lt_or_eq.1 hj with h | rfl
        · exact hno j h y hy
        · rw [getIdx l hlt] at hy; obtain rfl := Option.some.inj hy; exact hc
    · skip
      refine W.exit (hK2 _ ?_)
      refine W.pure (ds := []) rfl fun K10 hK10 => ?_
      simp only [sx, ty, Bool.false_eq_true, Int.reduceEq, Int.reduceLT, Nat.reduceAdd, Nat.reduceSub, Nat.reduceMul, Nat.reduceLT, Nat.reduceLeDiff, Nat.reduceEqDiff, List.reduceReplicate, reduceIte, beq_self_eq_true, bne_self_eq_false, Int.reduceBEq, Int.reduceBNe, Bool.or_false, Bool.false_or, Bool.not_false, Bool.not_true]; with_reducible refine hK10 _ ?_; clear hK10
      refine W.ret ⟨by simp, _, rfl, fun ρ w1 hb => ?_⟩
      have hge : l.length ≤ i := by simpa using hc
      simp only [den]
      rw [show findP q l = -1 from findP_none fun j y hy => hno j (by have := (List.getElem?_eq_some_iff.1 hy).1; omega) y hy]
/-- function 31 -/
theorem containsPg_spec {S : Nat → Prop} {w : World} {v : Value} {l : List Pg} (hl : rPgs.rd S w [v] l) (q : Pg → Bool) (K : FuncId) (ca : Array Value) (hK : callOk Try.prog K = true)
    (hq : ∀ w1, Keep (fun _ => True) w w1 → ∀ (x : Pg), x ∈ l → Gives Try.prog K ([Value.agg #[.int .i64 x.1, .int .i64 x.2]] ++ ca.toList).toArray w1 fun r _ => r = .bool (q x)) : Gives Try.prog 31 #[v, .func (.func K) #[] ca] w fun r _ => r = .bool (l.any q) := by
  obtain ⟨p, c, rfl, hc1, hc2⟩ := Rp.slice_val hl
  have hl : (Rp.slice rPg).rd (fun _ => True) w _ l := Rp.any hl
  refine gives_of [.val (.slice p l.length c), .val (.func (.func K) #[] ca)] 9 [.tmp 4] Try.func31 rfl rfl rfl (by simp) rfl rfl ?_
  refine W.pure (ds := []) rfl fun K1 hK1 => ?_
  simp only [sx, ty, Bool.false_eq_true, Int.reduceEq, Int.reduceLT, Nat.reduceAdd, Nat.reduceSub, Nat.reduceMul, Nat.reduceLT, Nat.reduceLeDiff, Nat.reduceEqDiff, List.reduceReplicate, reduceIte, beq_self_eq_true, bne_self_eq_false, Int.reduceBEq, Int.reduceBNe, Bool.or_false, Bool.false_or, Bool.not_false, Bool.not_true]; with_reducible refine hK1 _ ?_; clear hK1
  refine W.seqK fun K2 hK2 => W.region ?_
  refine WO.go 2 (ds := []) rfl ?_
  simp only [sx, ty, Bool.false_eq_true, Int.reduceEq, Int.reduceLT, Nat.reduceAdd, Nat.reduceSub, Nat.reduceMul, Nat.reduceLT, Nat.reduceLeDiff, Nat.reduceEqDiff, List.reduceReplicate, reduceIte, beq_self_eq_true, bne_self_eq_false, Int.reduceBEq, Int.reduceBNe, Bool.or_false, Bool.false_or, Bool.not_false, Bool.not_true]
  refine WO.call (.int .i64 (findP q l)) (ds := []) rfl rfl rfl rfl co37 (fun ρ w1 hb => indexPg_spec (Rp.now hl (hb.first (by simp))) q K ca hK fun w2 hk x hx => hq w2 ((hb.first (by simp)).trans hk) x hx) ?_
  refine WO.go 2 (ds := []) rfl ?_
  simp only [sx, ty, Bool.false_eq_true, Int.reduceEq, Int.reduceLT, Nat.reduceAdd, Nat.reduceSub, Nat.reduceMul, Nat.reduceLT, Nat.reduceLeDiff, Nat.reduceEqDiff, List.reduceReplicate, reduceIte, beq_self_eq_true, bne_self_eq_false, Int.reduceBEq, Int.reduceBNe, Bool.or_false, Bool.false_or, Bool.not_false, Bool.not_true]
  with_reducible refine WO.nil ?_
  refine hK2 _ ?_; clear hK2
  refine W.ret ⟨by simp, _, rfl, fun ρ w1 hb => ?_⟩
  simp only [den]
  rw [← findP_any]
end Go.Proofs.Ytpggkomalbbofaa
