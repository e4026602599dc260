/-
  Codec: Put of both, lists compared: walks.
-/
import Derived.Test.YtnbfdncmlbegmaaC2
set_option linter.unusedVariables false
set_option linter.unusedSimpArgs false
set_option maxHeartbeats 1000000
namespace Go.Proofs.Ytnbfdncmlbegmaa
open Go Go.SX Go.RowKit

theorem put_call {w : World} {p : Option Addr} {c : Nat} {xs : List Int} {n : Int} (hown : (OB xs (p, c)).holds (fun _ => 0) 0 w) (hn : isI n) (hlen : xs.length ≤ 1000000) : GivesB Try.prog 23 #[.slice p xs.length c, .int .i64 n] w (fun b => (OB xs (p, c)).num (fun _ => 0) 0 = some b) fun r w' =>
    ∃ x : Option Addr × Nat, r = .slice x.1 (xs ++ oneF n).length x.2 ∧ True ∧ (OB (xs ++ oneF n) x).holds (fun _ => 0) 0 w' ∧ ∀ b, (OB (xs ++ oneF n) x).num (fun _ => 0) 0 = some b → (OB xs (p, c)).num (fun _ => 0) 0 = some b ∨ w.heap.size ≤ b :=
  Calls.mono (put_spec hown hn hlen) fun e w' ⟨v, he, hk, x, h1, h2⟩ => ⟨v, he, hk, x, h1, trivial, h2.1, h2.2⟩
theorem one_call {w : World} {n : Int} (hn : isI n) : Gives Try.prog 24 #[.int .i64 n] w fun r w' => ∃ x : Option Addr × Nat, r = .slice x.1 (oneF n).length x.2 ∧ (∀ ρ' k, (OB (oneF n) x).holds ρ' k w') ∧ ∀ ρ' k b, (OB (oneF n) x).num ρ' k = some b → w.heap.size ≤ b :=
  (one_spec w hn).mono fun v w' _ ⟨x, h1, h2⟩ => ⟨x, h1, fun ρ' k => freeO_holds rfl h2.1, fun ρ' k b hb => h2.2 b (by rw [← freeO_num (o := OB (oneF n) x) rfl ρ' (fun _ => 0) k 0]; exact hb)⟩
theorem one_rd {w : World} {n : Int} (hn : isI n) : Gives Try.prog 24 #[.int .i64 n] w fun r w' => ∃ x : Option Addr × Nat, r = .slice x.1 (oneF n).length x.2 ∧ rBytes.rd (fun b => w.heap.size ≤ b) w' [.slice x.1 (oneF n).length x.2] (oneF n) :=
  (one_spec w hn).mono fun v w' _ ⟨x, h1, h2⟩ => ⟨x, h1, OB_rd h2⟩
theorem bytes_cells {S : Nat → Prop} {w : World} : ∀ {olds : List Value} {xs : List Int}, olds.length = xs.length → (∀ i y, xs[i]? = some y → rByte.rd S w ((olds.drop (i * rByte.sz)).take rByte.sz) y) → olds = xs.map (Value.int .u8)
  | [], [], _, _ => rfl
  | o :: olds, x :: xs, h, hr => by
    have h0 : (List.take 1 (List.drop (0 * 1) (o :: olds))) = [.int .u8 x] := hr 0 x rfl
    have h0' : [o] = [Value.int .u8 x] := h0
    simp only [List.cons.injEq, and_true] at h0'
    rw [List.map_cons, h0', bytes_cells (xs := xs) (olds := olds) (w := w) (S := S) (by simpa using h) fun i y hy => by
      have := hr (i + 1) y (by simpa using hy)
      rwa [show (i + 1) * rByte.sz = i * rByte.sz + 1 from by show (i + 1) * 1 = i * 1 + 1; omega, List.drop_succ_cons] at this]
/-- the bytes of the first integers of a list -/
def LL (l : List Int) (i : Nat) : List Int := oneF l.length ++ putsF (l.take i)
theorem LL_step {l : List Int} {i : Nat} (h : i < l.length) : LL l (i + 1) = LL l i ++ oneF l[i] := by
  simp only [LL, List.take_add_one, List.getElem?_eq_getElem h, Option.toList_some, putsF_app, List.append_assoc]
  simp [putsF]
theorem LL_len (l : List Int) (i : Nat) (h : i ≤ l.length) : (LL l i).length ≤ 10 * i + 10 := by
  have h1 := putsF_len (l.take i)
  have h2 := oneF_len l.length
  simp only [LL, List.length_append]
  rw [List.length_take] at h1; omega
theorem LL_zero (l : List Int) : LL l 0 = oneF l.length := by simp [LL, putsF]
theorem LL_all (l : List Int) : LL l l.length = putF l := by simp [LL, putF]
theorem PutF_long {l : List Int} (h : 4000 < l.length) : PutF l = ([], 2) := if_pos h
theorem PutF_ok {l : List Int} (h : ¬ 4000 < l.length) : PutF l = (putF l, 0) := if_neg h
/-- function 10 -/
theorem Put_spec {S : Nat → Prop} {w : World} {v : Value} {l : List Int} (hl : rInts.rd S w [v] l) (hI : ∀ x, x ∈ l → isI x) : Gives Try.prog 10 #[v] w fun r w' =>
    ∃ x : Option Addr × Nat, r = .tuple #[.slice x.1 (PutF l).1.length x.2, .int .i64 (PutF l).2] ∧ rBytes.rd (fun b => w.heap.size ≤ b) w' [.slice x.1 (PutF l).1.length x.2] (PutF l).1 := by
  obtain ⟨p, c, rfl, hc1, hc2⟩ := Rp.slice_val hl
  have hl : (Rp.slice rInt).rd (fun _ => True) w _ l := Rp.any hl
  have hlI : l.length ≤ 4000 → isI (l.length : Int) := fun h => by unfold isI; omega
  refine gives_of [.val (.slice p l.length c)] 24 [.tmp 2, .tmp 3] Try.func10 rfl rfl rfl (by simp) rfl rfl ?_
  refine W.pure (ds := []) rfl fun K1 hK1 => ?_
  simp only [sx, ty, Bool.false_eq_true, Int.reduceEq, Int.reduceLT, Nat.reduceAdd, Nat.reduceSub, Nat.reduceMul, Nat.reduceLT, Nat.reduceLeDiff, Nat.reduceEqDiff, List.reduceReplicate, reduceIte, beq_self_eq_true, bne_self_eq_false, Int.reduceBEq, Int.reduceBNe, Bool.or_false, Bool.false_or, Bool.not_false, Bool.not_true, mbits, Int.reduceToNat, Int.reducePow, Int.toNat_natCast]; with_reducible refine hK1 _ ?_; clear hK1
  refine W.seqK fun K2 hK2 => ?_
  refine W.pure (ds := []) rfl fun K3 hK3 => ?_
  simp only [sx, ty, Bool.false_eq_true, Int.reduceEq, Int.reduceLT, Nat.reduceAdd, Nat.reduceSub, Nat.reduceMul, Nat.reduceLT, Nat.reduceLeDiff, Nat.reduceEqDiff, List.reduceReplicate, reduceIte, beq_self_eq_true, bne_self_eq_false, Int.reduceBEq, Int.reduceBNe, Bool.or_false, Bool.false_or, Bool.not_false, Bool.not_true, mbits, Int.reduceToNat, Int.reducePow, Int.toNat_natCast]; with_reducible refine hK3 _ ?_; clear hK3
  refine W.cond rfl rfl (fun hc => ?_) (fun hc => ?_)
  · skip
    have h0 : 4000 < l.length := by simp at hc; omega
    refine W.pure (ds := []) rfl fun K4 hK4 => ?_
    simp only [sx, ty, Bool.false_eq_true, Int.reduceEq, Int.reduceLT, Nat.reduceAdd, Nat.reduceSub, Nat.reduceMul, Nat.reduceLT, Nat.reduceLeDiff, Nat.reduceEqDiff, List.reduceReplicate, reduceIte, beq_self_eq_true, bne_self_eq_false, Int.reduceBEq, Int.reduceBNe, Bool.or_false, Bool.false_or, Bool.not_false, Bool.not_true, mbits, Int.reduceToNat, Int.reducePow, Int.toNat_natCast]; with_reducible refine hK4 _ ?_; clear hK4
    refine W.ret ⟨by simp, _, rfl, fun ρ w1 hb => ?_⟩
    rw [PutF_long h0]
    exact ⟨(none, 0), rfl, Rp.slice_nil (by omega)⟩
  · skip
    have h0 : ¬ 4000 < l.length := by simp at hc; omega
    have h1 := hlI (by omega)
    refine W.skip (hK2 _ ?_)
    refine W.ownNil 5 1 ?_
    simp only [sx, ty, Bool.false_eq_true, Int.reduceEq, Int.reduceLT, Nat.reduceAdd, Nat.reduceSub, Nat.reduceMul, Nat.reduceLT, Nat.reduceLeDiff, Nat.reduceEqDiff, List.reduceReplicate, reduceIte]
    refine W.seqK fun K5 hK5 => W.region ?_
    refine WO.go 2 (ds := []) rfl ?_
    simp only [sx, ty, Bool.false_eq_true, Int.reduceEq, Int.reduceLT, Nat.reduceAdd, Nat.reduceSub, Nat.reduceMul, Nat.reduceLT, Nat.reduceLeDiff, Nat.reduceEqDiff, List.reduceReplicate, reduceIte, beq_self_eq_true, bne_self_eq_false, Int.reduceBEq, Int.reduceBNe, Bool.or_false, Bool.false_or, Bool.not_false, Bool.not_true, mbits, Int.reduceToNat, Int.reducePow, Int.toNat_natCast]
    refine WO.callT (k := 0) (fun x : Option Addr × Nat => .slice x.1 (([] : List Int) ++ oneF l.length).length x.2) (fun x => OB (([] : List Int) ++ oneF l.length) x) (fun _ => True) rfl (ds := []) rfl rfl rfl rfl co23 rfl (fun _ => rfl) (fun ρ w1 hb => put_call (xs := ([] : List Int)) (freeO_holds rfl (hb.own 0 _ rfl ρ (Agree.refl _ _))) h1 (by simp)) fun x _ => ?_
    obtain ⟨p6, c6⟩ := x
    refine WO.go 1 (ds := []) rfl ?_
    simp only [sx, ty, Bool.false_eq_true, Int.reduceEq, Int.reduceLT, Nat.reduceAdd, Nat.reduceSub, Nat.reduceMul, Nat.reduceLT, Nat.reduceLeDiff, Nat.reduceEqDiff, List.reduceReplicate, reduceIte, beq_self_eq_true, bne_self_eq_false, Int.reduceBEq, Int.reduceBNe, Bool.or_false, Bool.false_or, Bool.not_false, Bool.not_true, mbits, Int.reduceToNat, Int.reducePow, Int.toNat_natCast]
    with_reducible refine WO.nil ?_
    refine hK5 _ ?_; clear hK5
    refine W.seqK fun K6 hK6 => ?_
    refine W.pure (ds := []) rfl fun K7 hK7 => ?_
    simp only [sx, ty, Bool.false_eq_true, Int.reduceEq, Int.reduceLT, Nat.reduceAdd, Nat.reduceSub, Nat.reduceMul, Nat.reduceLT, Nat.reduceLeDiff, Nat.reduceEqDiff, List.reduceReplicate, reduceIte, beq_self_eq_true, bne_self_eq_false, Int.reduceBEq, Int.reduceBNe, Bool.or_false, Bool.false_or, Bool.not_false, Bool.not_true, mbits, Int.reduceToNat, Int.reducePow, Int.toNat_natCast]; with_reducible refine hK7 _ ?_; clear hK7
    refine W.block ?_
    refine W.loopO (X := Nat × Option Addr × Nat) [13, 14] (fun x => [(4, .val (.slice x.2.1 (LL l x.1).length x.2.2)), (15, .val (.int .i64 x.1))]) (fun x => [OB (LL l x.1) (x.2.1, x.2.2)]) (fun x => [((fun _ => True), w)]) (fun x => x.1 ≤ l.length) (fun x => l.length - x.1) (0, p6, c6) ?_ ?_ ?_
    · exact ⟨rfl, by simp [getE, bnd, keepE, LL_zero], ⟨[], by simp [LL_zero]⟩, by simp [Own.bnd, bndL, bnd, boxO,  OB], by simp⟩
    · skip
      exact Nat.zero_le _
    · rintro ⟨i, p3, c3⟩ hi
      simp only at hi
      simp only [sx, ty, Bool.false_eq_true, Int.reduceEq, Int.reduceLT, Nat.reduceAdd, Nat.reduceSub, Nat.reduceMul, Nat.reduceLT, Nat.reduceLeDiff, Nat.reduceEqDiff, List.reduceReplicate, reduceIte, sxk, beq_self_eq_true, bne_self_eq_false, Int.reduceBEq, Int.reduceBNe, Bool.or_false, Bool.false_or, Bool.not_false, Bool.not_true, mbits, Int.reduceToNat, Int.reducePow, Int.toNat_natCast]
      refine W.pure (ds := []) rfl fun K8 hK8 => ?_
      simp only [sx, ty, Bool.false_eq_true, Int.reduceEq, Int.reduceLT, Nat.reduceAdd, Nat.reduceSub, Nat.reduceMul, Nat.reduceLT, Nat.reduceLeDiff, Nat.reduceEqDiff, List.reduceReplicate, reduceIte, beq_self_eq_true, bne_self_eq_false, Int.reduceBEq, Int.reduceBNe, Bool.or_false, Bool.false_or, Bool.not_false, Bool.not_true, mbits, Int.reduceToNat, Int.reducePow, Int.toNat_natCast]; with_reducible refine hK8 _ ?_; clear hK8
      refine W.seqK fun K9 hK9 => ?_
      refine W.cond rfl rfl (fun hc => ?_) (fun hc => ?_)
      · skip
        clear hlI h1
        have hlt : i < l.length := by simpa using hc
        have hll := LL_len l i (Nat.le_of_lt hlt)
        have hon := oneF_len (l[i]'hlt)
        refine W.skip (hK9 _ ?_)
        refine W.seqK fun K10 hK10 => ?_
        refine W.block ?_
        refine W.seqK fun K11 hK11 => W.region ?_
        refine WO.elem (y := (l[i]'hlt)) hl (by simp [St.put]) (ds := []) rfl rfl rfl (by simp [St.put]) (fun _ => rfl) rfl rfl rfl rfl rfl el22 agg3 sz3 (.inr rfl) (by omega) (getIdx l hlt) fun p ces hces => ?_
        obtain rfl := rInt_open hces
        clear hces
        refine WO.go 1 (ds := []) rfl ?_
        simp only [sx, ty, Bool.false_eq_true, Int.reduceEq, Int.reduceLT, Nat.reduceAdd, Nat.reduceSub, Nat.reduceMul, Nat.reduceLT, Nat.reduceLeDiff, Nat.reduceEqDiff, List.reduceReplicate, reduceIte, beq_self_eq_true, bne_self_eq_false, Int.reduceBEq, Int.reduceBNe, Bool.or_false, Bool.false_or, Bool.not_false, Bool.not_true, mbits, Int.reduceToNat, Int.reducePow, Int.toNat_natCast]
        with_reducible refine WO.nil ?_
        refine hK11 _ ?_; clear hK11
        refine W.region ?_
        refine WO.go 2 (ds := []) rfl ?_
        simp only [sx, ty, Bool.false_eq_true, Int.reduceEq, Int.reduceLT, Nat.reduceAdd, Nat.reduceSub, Nat.reduceMul, Nat.reduceLT, Nat.reduceLeDiff, Nat.reduceEqDiff, List.reduceReplicate, reduceIte, beq_self_eq_true, bne_self_eq_false, Int.reduceBEq, Int.reduceBNe, Bool.or_false, Bool.false_or, Bool.not_false, Bool.not_true, mbits, Int.reduceToNat, Int.reducePow, Int.toNat_natCast]
        refine WO.callT (k := 0) (fun x : Option Addr × Nat => .slice x.1 ((LL l i) ++ oneF (l[i]'hlt)).length x.2) (fun x => OB ((LL l i) ++ oneF (l[i]'hlt)) x) (fun _ => True) rfl (ds := []) rfl rfl rfl rfl co23 rfl (fun _ => rfl) (fun ρ w1 hb => put_call (xs := (LL l i)) (freeO_holds rfl (hb.own 0 _ rfl ρ (Agree.refl _ _))) (hI (l[i]'hlt) (List.getElem_mem hlt)) (by omega)) fun x _ => ?_
        obtain ⟨p6, c6⟩ := x
        refine WO.go 1 (ds := []) rfl ?_
        simp only [sx, ty, Bool.false_eq_true, Int.reduceEq, Int.reduceLT, Nat.reduceAdd, Nat.reduceSub, Nat.reduceMul, Nat.reduceLT, Nat.reduceLeDiff, Nat.reduceEqDiff, List.reduceReplicate, reduceIte, beq_self_eq_true, bne_self_eq_false, Int.reduceBEq, Int.reduceBNe, Bool.or_false, Bool.false_or, Bool.not_false, Bool.not_true, mbits, Int.reduceToNat, Int.reducePow, Int.toNat_natCast]
        with_reducible refine WO.nil ?_
        refine hK10 _ ?_
        refine W.region ?_
        refine WO.go 2 (ds := []) rfl ?_
        simp only [sx, ty, Bool.false_eq_true, Int.reduceEq, Int.reduceLT, Nat.reduceAdd, Nat.reduceSub, Nat.reduceMul, Nat.reduceLT, Nat.reduceLeDiff, Nat.reduceEqDiff, List.reduceReplicate, reduceIte, beq_self_eq_true, bne_self_eq_false, Int.reduceBEq, Int.reduceBNe, Bool.or_false, Bool.false_or, Bool.not_false, Bool.not_true, mbits, Int.reduceToNat, Int.reducePow, Int.toNat_natCast]
        with_reducible refine WO.nil ?_
        refine ⟨(i + 1, p6, c6), hlt, by simp only; omega, rfl, by simp [getE, bnd, keepE, LL_step hlt, wrap_succ (show i + 1 ≤ 9223372036854775807 by omega)], ⟨[], by simp [LL_step hlt, OB]⟩, by simp [Own.bnd, bndL, bnd, OB], by simp⟩
      · skip
        obtain rfl : i = l.length := Nat.le_antisymm hi (by simpa using hc)
        refine W.exit (hK6 _ ?_)
        refine W.pure (ds := []) rfl fun K12 hK12 => ?_
        simp only [sx, ty, Bool.false_eq_true, Int.reduceEq, Int.reduceLT, Nat.reduceAdd, Nat.reduceSub, Nat.reduceMul, Nat.reduceLT, Nat.reduceLeDiff, Nat.reduceEqDiff, List.reduceReplicate, reduceIte, beq_self_eq_true, bne_self_eq_false, Int.reduceBEq, Int.reduceBNe, Bool.or_false, Bool.false_or, Bool.not_false, Bool.not_true, mbits, Int.reduceToNat, Int.reducePow, Int.toNat_natCast]; with_reducible refine hK12 _ ?_; clear hK12
        refine W.ret ⟨by simp, _, rfl, fun ρ w1 hb => ?_⟩
        rw [PutF_ok h0]
        exact ⟨(p3, c3), by simp only [den, denL, LL_all], by rw [← LL_all]; exact OB_rd (new_own (w0 := w) (o := OB (LL l l.length) (p3, c3)) hb (by simp) (k := 0) rfl rfl)⟩
/-- function 11 -/
theorem rPut_spec {S : Nat → Prop} {w : World} {v : Value} {l : List Int} (hl : rInts.rd S w [v] l) (hI : ∀ x, x ∈ l → isI x) : Gives Try.prog 11 #[v] w fun r w' =>
    ∃ x : Option Addr × Nat, r = .tuple #[.slice x.1 (PutF l).1.length x.2, .int .i64 (PutF l).2] ∧ rBytes.rd (fun b => w.heap.size ≤ b) w' [.slice x.1 (PutF l).1.length x.2] (PutF l).1 := by
  obtain ⟨p, c, rfl, hc1, hc2⟩ := Rp.slice_val hl
  have hl : (Rp.slice rInt).rd (fun _ => True) w _ l := Rp.any hl
  have hlI : l.length ≤ 4000 → isI (l.length : Int) := fun h => by unfold isI; omega
  refine gives_of [.val (.slice p l.length c)] 26 [.tmp 2, .tmp 3] Try.func11 rfl rfl rfl (by simp) rfl rfl ?_
  refine W.pure (ds := []) rfl fun K1 hK1 => ?_
  simp only [sx, ty, Bool.false_eq_true, Int.reduceEq, Int.reduceLT, Nat.reduceAdd, Nat.reduceSub, Nat.reduceMul, Nat.reduceLT, Nat.reduceLeDiff, Nat.reduceEqDiff, List.reduceReplicate, reduceIte, beq_self_eq_true, bne_self_eq_false, Int.reduceBEq, Int.reduceBNe, Bool.or_false, Bool.false_or, Bool.not_false, Bool.not_true, mbits, Int.reduceToNat, Int.reducePow, Int.toNat_natCast]; with_reducible refine hK1 _ ?_; clear hK1
  refine W.seqK fun K2 hK2 => ?_
  refine W.pure (ds := []) rfl fun K3 hK3 => ?_
  simp only [sx, ty, Bool.false_eq_true, Int.reduceEq, Int.reduceLT, Nat.reduceAdd, Nat.reduceSub, Nat.reduceMul, Nat.reduceLT, Nat.reduceLeDiff, Nat.reduceEqDiff, List.reduceReplicate, reduceIte, beq_self_eq_true, bne_self_eq_false, Int.reduceBEq, Int.reduceBNe, Bool.or_false, Bool.false_or, Bool.not_false, Bool.not_true, mbits, Int.reduceToNat, Int.reducePow, Int.toNat_natCast]; with_reducible refine hK3 _ ?_; clear hK3
  refine W.cond rfl rfl (fun hc => ?_) (fun hc => ?_)
  · skip
    have h0 : 4000 < l.length := by simp at hc; omega
    refine W.pure (ds := []) rfl fun K4 hK4 => ?_
    simp only [sx, ty, Bool.false_eq_true, Int.reduceEq, Int.reduceLT, Nat.reduceAdd, Nat.reduceSub, Nat.reduceMul, Nat.reduceLT, Nat.reduceLeDiff, Nat.reduceEqDiff, List.reduceReplicate, reduceIte, beq_self_eq_true, bne_self_eq_false, Int.reduceBEq, Int.reduceBNe, Bool.or_false, Bool.false_or, Bool.not_false, Bool.not_true, mbits, Int.reduceToNat, Int.reducePow, Int.toNat_natCast]; with_reducible refine hK4 _ ?_; clear hK4
    refine W.ret ⟨by simp, _, rfl, fun ρ w1 hb => ?_⟩
    rw [PutF_long h0]
    exact ⟨(none, 0), rfl, Rp.slice_nil (by omega)⟩
  · skip
    have h0 : ¬ 4000 < l.length := by simp at hc; omega
    have h1 := hlI (by omega)
    refine W.skip (hK2 _ ?_)
    refine W.seqK fun K5 hK5 => W.region ?_
    refine WO.go 2 (ds := []) rfl ?_
    simp only [sx, ty, Bool.false_eq_true, Int.reduceEq, Int.reduceLT, Nat.reduceAdd, Nat.reduceSub, Nat.reduceMul, Nat.reduceLT, Nat.reduceLeDiff, Nat.reduceEqDiff, List.reduceReplicate, reduceIte, beq_self_eq_true, bne_self_eq_false, Int.reduceBEq, Int.reduceBNe, Bool.or_false, Bool.false_or, Bool.not_false, Bool.not_true, mbits, Int.reduceToNat, Int.reducePow, Int.toNat_natCast]
    refine WO.callO (fun x : Option Addr × Nat => .slice x.1 (oneF l.length).length x.2) (fun x => OB (oneF l.length) x) (ds := []) rfl rfl rfl rfl co24 (fun x T cs h => by cases h) (fun ρ w1 hb => one_call h1) fun x => ?_
    obtain ⟨p6, c6⟩ := x
    refine WO.go 1 (ds := []) rfl ?_
    simp only [sx, ty, Bool.false_eq_true, Int.reduceEq, Int.reduceLT, Nat.reduceAdd, Nat.reduceSub, Nat.reduceMul, Nat.reduceLT, Nat.reduceLeDiff, Nat.reduceEqDiff, List.reduceReplicate, reduceIte, beq_self_eq_true, bne_self_eq_false, Int.reduceBEq, Int.reduceBNe, Bool.or_false, Bool.false_or, Bool.not_false, Bool.not_true, mbits, Int.reduceToNat, Int.reducePow, Int.toNat_natCast]
    with_reducible refine WO.nil ?_
    refine hK5 _ ?_; clear hK5
    refine W.seqK fun K6 hK6 => ?_
    refine W.pure (ds := []) rfl fun K7 hK7 => ?_
    simp only [sx, ty, Bool.false_eq_true, Int.reduceEq, Int.reduceLT, Nat.reduceAdd, Nat.reduceSub, Nat.reduceMul, Nat.reduceLT, Nat.reduceLeDiff, Nat.reduceEqDiff, List.reduceReplicate, reduceIte, beq_self_eq_true, bne_self_eq_false, Int.reduceBEq, Int.reduceBNe, Bool.or_false, Bool.false_or, Bool.not_false, Bool.not_true, mbits, Int.reduceToNat, Int.reducePow, Int.toNat_natCast]; with_reducible refine hK7 _ ?_; clear hK7
    refine W.block ?_
    refine W.loopO (X := Nat × Option Addr × Nat) [0] (fun x => [(4, .val (.slice x.2.1 (LL l x.1).length x.2.2)), (5, .val (.int .i64 x.1))]) (fun x => [OB (LL l x.1) (x.2.1, x.2.2)]) (fun x => [((fun _ => True), w)]) (fun x => x.1 ≤ l.length) (fun x => l.length - x.1) (0, p6, c6) ?_ ?_ ?_
    · exact ⟨rfl, by simp [getE, bnd, keepE, LL_zero], ⟨[], by simp [LL_zero]⟩, by simp [Own.bnd, bndL, bnd, boxO,  OB], by simp⟩
    · skip
      exact Nat.zero_le _
    · rintro ⟨i, p3, c3⟩ hi
      simp only at hi
      simp only [sx, ty, Bool.false_eq_true, Int.reduceEq, Int.reduceLT, Nat.reduceAdd, Nat.reduceSub, Nat.reduceMul, Nat.reduceLT, Nat.reduceLeDiff, Nat.reduceEqDiff, List.reduceReplicate, reduceIte, sxk, beq_self_eq_true, bne_self_eq_false, Int.reduceBEq, Int.reduceBNe, Bool.or_false, Bool.false_or, Bool.not_false, Bool.not_true, mbits, Int.reduceToNat, Int.reducePow, Int.toNat_natCast]
      refine W.seqK fun K8 hK8 => ?_
      refine W.pure (ds := []) rfl fun K9 hK9 => ?_
      simp only [sx, ty, Bool.false_eq_true, Int.reduceEq, Int.reduceLT, Nat.reduceAdd, Nat.reduceSub, Nat.reduceMul, Nat.reduceLT, Nat.reduceLeDiff, Nat.reduceEqDiff, List.reduceReplicate, reduceIte, beq_self_eq_true, bne_self_eq_false, Int.reduceBEq, Int.reduceBNe, Bool.or_false, Bool.false_or, Bool.not_false, Bool.not_true, mbits, Int.reduceToNat, Int.reducePow, Int.toNat_natCast]; with_reducible refine hK9 _ ?_; clear hK9
      refine W.cond rfl rfl (fun hc => ?_) (fun hc => ?_)
      · skip
        clear hlI h1
        have hlt : i < l.length := by simpa using hc
        have hll := LL_len l i (Nat.le_of_lt hlt)
        have hon := oneF_len (l[i]'hlt)
        refine W.skip (hK8 _ ?_)
        refine W.seqK fun K10 hK10 => ?_
        refine W.block ?_
        refine W.region ?_
        refine WO.go 3 (ds := []) rfl ?_
        simp only [sx, ty, Bool.false_eq_true, Int.reduceEq, Int.reduceLT, Nat.reduceAdd, Nat.reduceSub, Nat.reduceMul, Nat.reduceLT, Nat.reduceLeDiff, Nat.reduceEqDiff, List.reduceReplicate, reduceIte, beq_self_eq_true, bne_self_eq_false, Int.reduceBEq, Int.reduceBNe, Bool.or_false, Bool.false_or, Bool.not_false, Bool.not_true, mbits, Int.reduceToNat, Int.reducePow, Int.toNat_natCast]
        refine WO.elem (y := (l[i]'hlt)) hl (by simp [St.put]) (ds := []) rfl rfl rfl (by simp [St.put]) (fun _ => rfl) rfl rfl rfl rfl rfl el22 agg3 sz3 (.inr rfl) (by omega) (getIdx l hlt) fun p ces hces => ?_
        obtain rfl := rInt_open hces
        clear hces
        simp only [sx, ty, Bool.false_eq_true, Int.reduceEq, Int.reduceLT, Nat.reduceAdd, Nat.reduceSub, Nat.reduceMul, Nat.reduceLT, Nat.reduceLeDiff, Nat.reduceEqDiff, List.reduceReplicate, reduceIte, beq_self_eq_true, bne_self_eq_false, Int.reduceBEq, Int.reduceBNe, Bool.or_false, Bool.false_or, Bool.not_false, Bool.not_true, mbits, Int.reduceToNat, Int.reducePow, Int.toNat_natCast]
        refine WO.callM (fun x : Option Addr × Nat => .slice x.1 (oneF (l[i]'hlt)).length x.2) (fun lo x s9 => rBytes.rd (fun b => lo ≤ b) s9 [.slice x.1 (oneF (l[i]'hlt)).length x.2] (oneF (l[i]'hlt))) (ds := []) rfl rfl rfl rfl co24 (fun ρ w1 hb => one_rd (hI (l[i]'hlt) (List.getElem_mem hlt))) fun x lo hr1s hr1 => ?_
        obtain ⟨hr1p, hr1c⟩ := x
        simp only at hr1
        obtain h9 | ⟨a1, olds, ha1, hnl, hSD, hzD, holD, hatD, hrdD⟩ := Rp.slice_cells hr1
        · rw [h9] at hon; simp at hon
        subst ha1
        obtain rfl := bytes_cells (by rw [holD]; exact Nat.mul_one _) hrdD
        simp only [sx, ty, Bool.false_eq_true, Int.reduceEq, Int.reduceLT, Nat.reduceAdd, Nat.reduceSub, Nat.reduceMul, Nat.reduceLT, Nat.reduceLeDiff, Nat.reduceEqDiff, List.reduceReplicate, reduceIte, beq_self_eq_true, bne_self_eq_false, Int.reduceBEq, Int.reduceBNe, Bool.or_false, Bool.false_or, Bool.not_false, Bool.not_true, mbits, Int.reduceToNat, Int.reducePow, Int.toNat_natCast]
        refine WO.append (k := 0) (m := (oneF (l[i]'hlt)).length) ((oneF (l[i]'hlt)).map (.int .u8)) (ds := []) rfl rfl rfl rfl rfl rfl rfl ek23 (fun ρ w1 hb => ⟨a1, hr1c, rfl, hatD.now hb (by simp) hSD hzD⟩) (by simp) (by simp [Value.oneCell']) (by rw [maxLen_eq]; omega) (by omega) fun p6 c6 => ?_
        refine WO.go 1 (ds := []) rfl ?_
        simp only [sx, ty, Bool.false_eq_true, Int.reduceEq, Int.reduceLT, Nat.reduceAdd, Nat.reduceSub, Nat.reduceMul, Nat.reduceLT, Nat.reduceLeDiff, Nat.reduceEqDiff, List.reduceReplicate, reduceIte, beq_self_eq_true, bne_self_eq_false, Int.reduceBEq, Int.reduceBNe, Bool.or_false, Bool.false_or, Bool.not_false, Bool.not_true, mbits, Int.reduceToNat, Int.reducePow, Int.toNat_natCast]
        with_reducible refine WO.nil ?_
        refine hK10 _ ?_
        refine W.region ?_
        refine WO.go 3 (ds := []) rfl ?_
        simp only [sx, ty, Bool.false_eq_true, Int.reduceEq, Int.reduceLT, Nat.reduceAdd, Nat.reduceSub, Nat.reduceMul, Nat.reduceLT, Nat.reduceLeDiff, Nat.reduceEqDiff, List.reduceReplicate, reduceIte, beq_self_eq_true, bne_self_eq_false, Int.reduceBEq, Int.reduceBNe, Bool.or_false, Bool.false_or, Bool.not_false, Bool.not_true, mbits, Int.reduceToNat, Int.reducePow, Int.toNat_natCast]
        with_reducible refine WO.nil ?_
        refine ⟨(i + 1, p6, c6), hlt, by simp only; omega, rfl, by simp [getE, bnd, keepE, LL_step hlt, wrap_succ (show i + 1 ≤ 9223372036854775807 by omega)], ⟨[], by simp [LL_step hlt, OB]⟩, by simp [Own.bnd, bndL, bnd, OB], by simp⟩
      · skip
        obtain rfl : i = l.length := Nat.le_antisymm hi (by simpa using hc)
        refine W.exit (hK6 _ ?_)
        refine W.pure (ds := []) rfl fun K11 hK11 => ?_
        simp only [sx, ty, Bool.false_eq_true, Int.reduceEq, Int.reduceLT, Nat.reduceAdd, Nat.reduceSub, Nat.reduceMul, Nat.reduceLT, Nat.reduceLeDiff, Nat.reduceEqDiff, List.reduceReplicate, reduceIte, beq_self_eq_true, bne_self_eq_false, Int.reduceBEq, Int.reduceBNe, Bool.or_false, Bool.false_or, Bool.not_false, Bool.not_true, mbits, Int.reduceToNat, Int.reducePow, Int.toNat_natCast]; with_reducible refine hK11 _ ?_; clear hK11
        refine W.ret ⟨by simp, _, rfl, fun ρ w1 hb => ?_⟩
        rw [PutF_ok h0]
        exact ⟨(p3, c3), by simp only [den, denL, LL_all], by rw [← LL_all]; exact OB_rd (new_own (w0 := w) (o := OB (LL l l.length) (p3, c3)) hb (by simp) (k := 0) rfl rfl)⟩
end Go.Proofs.Ytnbfdncmlbegmaa
