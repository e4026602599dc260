/-
  Codec: frames read (reference): walks.
-/
import Derived.Test.YtnbfdncmlbegmaaC7
set_option linter.unusedVariables false
set_option linter.unusedSimpArgs false
set_option maxHeartbeats 1000000
namespace Go.Proofs.Ytnbfdncmlbegmaa
open Go Go.SX Go.RowKit

/-- the length that a frame's first bytes tell -/
def lenN (b : List Int) : Nat := (b.getD 0 0 * 65536 + b.getD 1 0 * 256 + b.getD 2 0).toNat
def wholeF (b : List Int) : Option (List Int × Nat) :=
  if b.length < 11 then none
  else if b.length < lenN b + 11 then none
  else if (b.drop (3 + lenN b)).take 8 = bigE (digF beginD (b.take (3 + lenN b))) then (getF ((b.drop 3).take (lenN b))).map fun l => (l, lenN b + 11)
  else none
def WholeF (b : List Int) : List Int × Nat := (wholeF b).getD ([], 0)
theorem WholeF_short {b : List Int} (h : b.length < 11) : WholeF b = ([], 0) := by unfold WholeF wholeF; rw [if_pos h]; rfl
theorem WholeF_cut {b : List Int} (h : ¬ b.length < 11) (h1 : b.length < lenN b + 11) : WholeF b = ([], 0) := by unfold WholeF wholeF; rw [if_neg h, if_pos h1]; rfl
theorem WholeF_sum {b : List Int} (h : ¬ b.length < 11) (h1 : ¬ b.length < lenN b + 11) (h2 : ¬ (b.drop (3 + lenN b)).take 8 = bigE (digF beginD (b.take (3 + lenN b)))) : WholeF b = ([], 0) := by unfold WholeF wholeF; rw [if_neg h, if_neg h1, if_neg h2]; rfl
theorem WholeF_bad {b : List Int} (h : ¬ b.length < 11) (h1 : ¬ b.length < lenN b + 11) (h2 : (b.drop (3 + lenN b)).take 8 = bigE (digF beginD (b.take (3 + lenN b)))) (h3 : getF ((b.drop 3).take (lenN b)) = none) : WholeF b = ([], 0) := by unfold WholeF wholeF; rw [if_neg h, if_neg h1, if_pos h2, h3]; rfl
theorem WholeF_ok {b l : List Int} (h : ¬ b.length < 11) (h1 : ¬ b.length < lenN b + 11) (h2 : (b.drop (3 + lenN b)).take 8 = bigE (digF beginD (b.take (3 + lenN b)))) (h3 : getF ((b.drop 3).take (lenN b)) = some l) : WholeF b = (l, lenN b + 11) := by unfold WholeF wholeF; rw [if_neg h, if_neg h1, if_pos h2, h3]; rfl
theorem GetF_none {b : List Int} (h : getF b = none) : GetF b = ([], 7) := by unfold GetF; rw [h]
theorem GetF_some {b l : List Int} (h : getF b = some l) : GetF b = (l, 0) := by unfold GetF; rw [h]
theorem lenN_eq {b : List Int} {x0 x1 x2 : Int} (h0 : b[0]? = some x0) (h1 : b[1]? = some x1) (h2 : b[2]? = some x2) (g0 : isB x0) (g1 : isB x1) (g2 : isB x2) : ((lenN b : Nat) : Int) = x0 * 65536 + x1 * 256 + x2 := by
  unfold lenN
  simp only [List.getD_eq_getElem?_getD, h0, h1, h2, Option.getD_some]
  unfold isB at *; omega
theorem lenN_code {b : List Int} {x0 x1 x2 : Int} (h0 : b[0]? = some x0) (h1 : b[1]? = some x1) (h2 : b[2]? = some x2) (g0 : isB x0) (g1 : isB x1) (g2 : isB x2) :
    IntKind.i64.wrap (IntKind.i64.wrap (IntKind.i64.wrap (IntKind.i64.wrap x0 * 65536) + IntKind.i64.wrap (IntKind.i64.wrap x1 * 256)) + IntKind.i64.wrap x2) = ((lenN b : Nat) : Int) := by
  rw [lenN_eq h0 h1 h2 g0 g1 g2]
  unfold isB at *
  rw [wrap_id (x := x0) (by omega) (by omega), wrap_id (x := x1) (by omega) (by omega), wrap_id (x := x2) (by omega) (by omega), wrap_id (x := x0 * 65536) (by omega) (by omega), wrap_id (x := x1 * 256) (by omega) (by omega), wrap_id (x := x0 * 65536 + x1 * 256) (by omega) (by omega), wrap_id (by omega) (by omega)]
theorem lenN_small {b : List Int} (hb : ∀ x, x ∈ b → isB x) (h : 11 ≤ b.length) : lenN b ≤ 16777215 := by
  have g0 : b[0]? = some b[0] := List.getElem?_eq_getElem (by omega)
  have g1 : b[1]? = some b[1] := List.getElem?_eq_getElem (by omega)
  have g2 : b[2]? = some b[2] := List.getElem?_eq_getElem (by omega)
  have e0 := hb _ (List.mem_of_getElem? g0)
  have e1 := hb _ (List.mem_of_getElem? g1)
  have e2 := hb _ (List.mem_of_getElem? g2)
  have := lenN_eq g0 g1 g2 e0 e1 e2
  unfold isB at *; omega
theorem wadd3 {n : Nat} (h : n ≤ 16777215) : IntKind.i64.wrap (3 + (n : Int)) = ((3 + n : Nat) : Int) := by rw [wrap_id (by omega) (by omega)]; omega
theorem wadd11 {n : Nat} (h : n ≤ 16777215) : IntKind.i64.wrap (11 + (n : Int)) = ((11 + n : Nat) : Int) := by rw [wrap_id (by omega) (by omega)]; omega
theorem wadd11' {n : Nat} (h : n ≤ 16777215) : IntKind.i64.wrap ((n : Int) + 11) = ((n + 11 : Nat) : Int) := by rw [wrap_id (by omega) (by omega)]; omega
theorem sub_eq {b : List Int} {l h m : Nat} (hm : h - l = m) : (b.drop l).take (h - l) = (b.drop l).take m := by rw [hm]
/-- function 32 -/
theorem rwhole_spec {S : Nat → Prop} {w : World} {v : Value} {b : List Int} (hl : rBytes.rd S w [v] b) (hb8 : ∀ x, x ∈ b → isB x) : Gives Try.prog 32 #[v] w fun r w' =>
    ∃ x : Option Addr × Nat, r = .tuple #[.slice x.1 (WholeF b).1.length x.2, .int .i64 ((WholeF b).2 : Nat)] ∧ rInts.rd (fun b => w.heap.size ≤ b) w' [.slice x.1 (WholeF b).1.length x.2] (WholeF b).1 := by
  obtain ⟨p0, c0, rfl, hc1, hc2⟩ := Rp.slice_val hl
  have hl : (Rp.slice rByte).rd (fun _ => True) w _ b := Rp.any hl
  refine gives_of [.val (.slice p0 b.length c0)] 58 [.tmp 2, .tmp 3] Try.func32 rfl rfl rfl (by simp) rfl rfl ?_
  refine W.pure (ds := []) rfl fun K1 hK1 => ?_
  simp only [sx, ty, Bool.false_eq_true, Int.reduceEq, Int.reduceLT, Nat.reduceAdd, Nat.reduceSub, Nat.reduceMul, Nat.reduceLT, Nat.reduceLeDiff, Nat.reduceEqDiff, List.reduceReplicate, reduceIte, beq_self_eq_true, bne_self_eq_false, Int.reduceBEq, Int.reduceBNe, Bool.or_false, Bool.false_or, Bool.not_false, Bool.not_true, mbits, Int.reduceToNat, Int.reducePow, Int.toNat_natCast]; with_reducible refine hK1 _ ?_; clear hK1
  refine W.seqK fun K2 hK2 => ?_
  refine W.pure (ds := []) rfl fun K3 hK3 => ?_
  simp only [sx, ty, Bool.false_eq_true, Int.reduceEq, Int.reduceLT, Nat.reduceAdd, Nat.reduceSub, Nat.reduceMul, Nat.reduceLT, Nat.reduceLeDiff, Nat.reduceEqDiff, List.reduceReplicate, reduceIte, beq_self_eq_true, bne_self_eq_false, Int.reduceBEq, Int.reduceBNe, Bool.or_false, Bool.false_or, Bool.not_false, Bool.not_true, mbits, Int.reduceToNat, Int.reducePow, Int.toNat_natCast]; with_reducible refine hK3 _ ?_; clear hK3
  refine W.cond rfl rfl (fun hc => ?_) (fun hc => ?_)
  · skip
    have h11 : b.length < 11 := by simp at hc; omega
    refine W.pure (ds := []) rfl fun K4 hK4 => ?_
    simp only [sx, ty, Bool.false_eq_true, Int.reduceEq, Int.reduceLT, Nat.reduceAdd, Nat.reduceSub, Nat.reduceMul, Nat.reduceLT, Nat.reduceLeDiff, Nat.reduceEqDiff, List.reduceReplicate, reduceIte, beq_self_eq_true, bne_self_eq_false, Int.reduceBEq, Int.reduceBNe, Bool.or_false, Bool.false_or, Bool.not_false, Bool.not_true, mbits, Int.reduceToNat, Int.reducePow, Int.toNat_natCast]; with_reducible refine hK4 _ ?_; clear hK4
    refine W.ret ⟨by simp, _, rfl, fun ρ w1 hb => ?_⟩
    rw [WholeF_short h11]
    exact ⟨(none, 0), rfl, Rp.slice_nil (by omega)⟩
  · skip
    have h11 : ¬ b.length < 11 := by simp at hc; omega
    obtain ⟨x0, hg0⟩ : ∃ x, b[0]? = some x := ⟨_, List.getElem?_eq_getElem (by omega)⟩
    have hx0 := hb8 x0 (List.mem_of_getElem? hg0)
    obtain ⟨x1, hg1⟩ : ∃ x, b[1]? = some x := ⟨_, List.getElem?_eq_getElem (by omega)⟩
    have hx1 := hb8 x1 (List.mem_of_getElem? hg1)
    obtain ⟨x2, hg2⟩ : ∃ x, b[2]? = some x := ⟨_, List.getElem?_eq_getElem (by omega)⟩
    have hx2 := hb8 x2 (List.mem_of_getElem? hg2)
    have hn := lenN_code hg0 hg1 hg2 hx0 hx1 hx2
    have hns := lenN_small hb8 (by omega)
    obtain ⟨n, hnn⟩ : ∃ n, lenN b = n := ⟨_, rfl⟩
    rw [hnn] at hn hns
    have hw3 := wadd3 hns
    have hw11 := wadd11 hns
    have hw11b := wadd11' hns
    refine W.skip (hK2 _ ?_)
    refine W.seqK fun K5 hK5 => ?_
    refine W.regionQ mixed (by kernel_rfl) ?_
    refine WQ.go 1 (ds := []) rfl ?_
    simp only [sx, ty, Bool.false_eq_true, Int.reduceEq, Int.reduceLT, Nat.reduceAdd, Nat.reduceSub, Nat.reduceMul, Nat.reduceLT, Nat.reduceLeDiff, Nat.reduceEqDiff, List.reduceReplicate, reduceIte, sxq, Bool.false_eq_true, beq_self_eq_true, bne_self_eq_false, Int.reduceBEq, Int.reduceBNe, Bool.or_false, Bool.false_or, Bool.not_false, Bool.not_true, mbits, Int.reduceToNat, Int.reducePow, Int.toNat_natCast, hn]
    refine WQ.elem (y := x0) hl (by simp [St.put]) (ds := []) rfl rfl rfl (by simp [St.put]) (fun _ => rfl) rfl rfl rfl rfl rfl el23 agg5 sz5 (.inr rfl) (by omega) (hg0) fun p ces hces => ?_
    obtain rfl := rByte_open hces
    clear hces
    refine WQ.go 3 (ds := []) rfl ?_
    simp only [sx, ty, Bool.false_eq_true, Int.reduceEq, Int.reduceLT, Nat.reduceAdd, Nat.reduceSub, Nat.reduceMul, Nat.reduceLT, Nat.reduceLeDiff, Nat.reduceEqDiff, List.reduceReplicate, reduceIte, sxq, Bool.false_eq_true, beq_self_eq_true, bne_self_eq_false, Int.reduceBEq, Int.reduceBNe, Bool.or_false, Bool.false_or, Bool.not_false, Bool.not_true, mbits, Int.reduceToNat, Int.reducePow, Int.toNat_natCast, hn]
    refine WQ.elem (y := x1) hl (by simp [St.put]) (ds := []) rfl rfl rfl (by simp [St.put]) (fun _ => rfl) rfl rfl rfl rfl rfl el23 agg5 sz5 (.inr rfl) (by omega) (hg1) fun p ces hces => ?_
    obtain rfl := rByte_open hces
    clear hces
    refine WQ.go 4 (ds := []) rfl ?_
    simp only [sx, ty, Bool.false_eq_true, Int.reduceEq, Int.reduceLT, Nat.reduceAdd, Nat.reduceSub, Nat.reduceMul, Nat.reduceLT, Nat.reduceLeDiff, Nat.reduceEqDiff, List.reduceReplicate, reduceIte, sxq, Bool.false_eq_true, beq_self_eq_true, bne_self_eq_false, Int.reduceBEq, Int.reduceBNe, Bool.or_false, Bool.false_or, Bool.not_false, Bool.not_true, mbits, Int.reduceToNat, Int.reducePow, Int.toNat_natCast, hn]
    refine WQ.elem (y := x2) hl (by simp [St.put]) (ds := []) rfl rfl rfl (by simp [St.put]) (fun _ => rfl) rfl rfl rfl rfl rfl el23 agg5 sz5 (.inr rfl) (by omega) (hg2) fun p ces hces => ?_
    obtain rfl := rByte_open hces
    clear hces
    refine WQ.go 3 (ds := []) rfl ?_
    simp only [sx, ty, Bool.false_eq_true, Int.reduceEq, Int.reduceLT, Nat.reduceAdd, Nat.reduceSub, Nat.reduceMul, Nat.reduceLT, Nat.reduceLeDiff, Nat.reduceEqDiff, List.reduceReplicate, reduceIte, sxq, Bool.false_eq_true, beq_self_eq_true, bne_self_eq_false, Int.reduceBEq, Int.reduceBNe, Bool.or_false, Bool.false_or, Bool.not_false, Bool.not_true, mbits, Int.reduceToNat, Int.reducePow, Int.toNat_natCast, hn]
    with_reducible refine WQ.nil ?_
    refine hK5 _ ?_; clear hK5
    refine W.seqK fun K6 hK6 => ?_
    refine W.pure (ds := []) rfl fun K7 hK7 => ?_
    simp only [sx, ty, Bool.false_eq_true, Int.reduceEq, Int.reduceLT, Nat.reduceAdd, Nat.reduceSub, Nat.reduceMul, Nat.reduceLT, Nat.reduceLeDiff, Nat.reduceEqDiff, List.reduceReplicate, reduceIte, beq_self_eq_true, bne_self_eq_false, Int.reduceBEq, Int.reduceBNe, Bool.or_false, Bool.false_or, Bool.not_false, Bool.not_true, mbits, Int.reduceToNat, Int.reducePow, Int.toNat_natCast, hn, hw11b]; with_reducible refine hK7 _ ?_; clear hK7
    refine W.cond rfl rfl (fun hc => ?_) (fun hc => ?_)
    · skip
      have hcut : b.length < lenN b + 11 := by rw [hnn]; simp at hc; omega
      refine W.pure (ds := []) rfl fun K8 hK8 => ?_
      simp only [sx, ty, Bool.false_eq_true, Int.reduceEq, Int.reduceLT, Nat.reduceAdd, Nat.reduceSub, Nat.reduceMul, Nat.reduceLT, Nat.reduceLeDiff, Nat.reduceEqDiff, List.reduceReplicate, reduceIte, beq_self_eq_true, bne_self_eq_false, Int.reduceBEq, Int.reduceBNe, Bool.or_false, Bool.false_or, Bool.not_false, Bool.not_true, mbits, Int.reduceToNat, Int.reducePow, Int.toNat_natCast, hn, hw11b]; with_reducible refine hK8 _ ?_; clear hK8
      refine W.ret ⟨by simp, _, rfl, fun ρ w1 hb => ?_⟩
      rw [WholeF_cut h11 hcut]
      exact ⟨(none, 0), rfl, Rp.slice_nil (by omega)⟩
    · skip
      have hcut : ¬ b.length < lenN b + 11 := by rw [hnn]; simp at hc; omega
      have hcn : n + 11 ≤ b.length := by omega
      obtain ⟨p3, c3, he3, hl3⟩ := Rp.sub (l := 3 + n) (h := 11 + n) hl (by omega) (by omega)
      rw [sub_eq (m := 8) (by omega)] at he3 hl3
      obtain ⟨p4, c4, he4, hl4⟩ := Rp.sub (l := 0) (h := 3 + n) hl (by omega) (by omega)
      rw [sub_eq (m := 3 + n) (by omega), List.drop_zero] at he4 hl4
      obtain ⟨p5, c5, he5, hl5⟩ := Rp.sub (l := 3) (h := 3 + n) hl (by omega) (by omega)
      rw [sub_eq (m := n) (by omega)] at he5 hl5
      refine W.skip (hK6 _ ?_)
      refine W.seqK fun K9 hK9 => ?_
      refine W.seqK fun K10 hK10 => ?_
      refine W.regionW 11 [0, 1, 2, 3, 4, 5] [6, 7, 8, 9, 10] mixed (by kernel_rfl) ?_
      refine WT.move rfl rfl rfl rfl rfl ?_
      simp only [sx, ty, Bool.false_eq_true, Int.reduceEq, Int.reduceLT, Nat.reduceAdd, Nat.reduceSub, Nat.reduceMul, Nat.reduceLT, Nat.reduceLeDiff, Nat.reduceEqDiff, List.reduceReplicate, reduceIte, beq_self_eq_true, bne_self_eq_false, Int.reduceBEq, Int.reduceBNe, Bool.or_false, Bool.false_or, Bool.not_false, Bool.not_true, mbits, Int.reduceToNat, Int.reducePow, Int.toNat_natCast, hn, hw11b, hw3, hw11]
      refine WT.move rfl rfl rfl rfl rfl ?_
      simp only [sx, ty, Bool.false_eq_true, Int.reduceEq, Int.reduceLT, Nat.reduceAdd, Nat.reduceSub, Nat.reduceMul, Nat.reduceLT, Nat.reduceLeDiff, Nat.reduceEqDiff, List.reduceReplicate, reduceIte, beq_self_eq_true, bne_self_eq_false, Int.reduceBEq, Int.reduceBNe, Bool.or_false, Bool.false_or, Bool.not_false, Bool.not_true, mbits, Int.reduceToNat, Int.reducePow, Int.toNat_natCast, hn, hw11b, hw3, hw11]
      refine WT.bin rfl rfl rfl rfl rfl rfl (r_add _ _ _ _) ?_
      simp only [sx, ty, Bool.false_eq_true, Int.reduceEq, Int.reduceLT, Nat.reduceAdd, Nat.reduceSub, Nat.reduceMul, Nat.reduceLT, Nat.reduceLeDiff, Nat.reduceEqDiff, List.reduceReplicate, reduceIte, beq_self_eq_true, bne_self_eq_false, Int.reduceBEq, Int.reduceBNe, Bool.or_false, Bool.false_or, Bool.not_false, Bool.not_true, mbits, Int.reduceToNat, Int.reducePow, Int.toNat_natCast, hn, hw11b, hw3, hw11]
      refine WT.move rfl rfl rfl rfl rfl ?_
      simp only [sx, ty, Bool.false_eq_true, Int.reduceEq, Int.reduceLT, Nat.reduceAdd, Nat.reduceSub, Nat.reduceMul, Nat.reduceLT, Nat.reduceLeDiff, Nat.reduceEqDiff, List.reduceReplicate, reduceIte, beq_self_eq_true, bne_self_eq_false, Int.reduceBEq, Int.reduceBNe, Bool.or_false, Bool.false_or, Bool.not_false, Bool.not_true, mbits, Int.reduceToNat, Int.reducePow, Int.toNat_natCast, hn, hw11b, hw3, hw11]
      refine WT.bin rfl rfl rfl rfl rfl rfl (r_add _ _ _ _) ?_
      simp only [sx, ty, Bool.false_eq_true, Int.reduceEq, Int.reduceLT, Nat.reduceAdd, Nat.reduceSub, Nat.reduceMul, Nat.reduceLT, Nat.reduceLeDiff, Nat.reduceEqDiff, List.reduceReplicate, reduceIte, beq_self_eq_true, bne_self_eq_false, Int.reduceBEq, Int.reduceBNe, Bool.or_false, Bool.false_or, Bool.not_false, Bool.not_true, mbits, Int.reduceToNat, Int.reducePow, Int.toNat_natCast, hn, hw11b, hw3, hw11]
      refine WT.slc rfl rfl rfl rfl rfl el23 rfl rfl (by simp [loS] <;> omega) (by simp [loS, hiS] <;> omega) (by simp [hiS] <;> omega) ?_
      rw [show slcV 1 p0 c0 (loS (some (IntKind.i64, ((3 + n : Nat) : Int)))).toNat (hiS b.length (some (IntKind.i64, ((11 + n : Nat) : Int)))).toNat = .slice p3 ((b.drop (3 + n)).take 8).length c3 from he3]
      simp only [sx, ty, Bool.false_eq_true, Int.reduceEq, Int.reduceLT, Nat.reduceAdd, Nat.reduceSub, Nat.reduceMul, Nat.reduceLT, Nat.reduceLeDiff, Nat.reduceEqDiff, List.reduceReplicate, reduceIte, beq_self_eq_true, bne_self_eq_false, Int.reduceBEq, Int.reduceBNe, Bool.or_false, Bool.false_or, Bool.not_false, Bool.not_true, mbits, Int.reduceToNat, Int.reducePow, Int.toNat_natCast, hn, hw11b, hw3, hw11]
      refine WT.nil ?_
      simp only [sx, ty, Bool.false_eq_true, Int.reduceEq, Int.reduceLT, Nat.reduceAdd, Nat.reduceSub, Nat.reduceMul, Nat.reduceLT, Nat.reduceLeDiff, Nat.reduceEqDiff, List.reduceReplicate, reduceIte, sxt, List.toList_toArray, beq_self_eq_true, bne_self_eq_false, Int.reduceBEq, Int.reduceBNe, Bool.or_false, Bool.false_or, Bool.not_false, Bool.not_true, mbits, Int.reduceToNat, Int.reducePow, Int.toNat_natCast, hn, hw11b, hw3, hw11]
      refine WQ.go 3 (ds := []) rfl ?_
      simp only [sx, ty, Bool.false_eq_true, Int.reduceEq, Int.reduceLT, Nat.reduceAdd, Nat.reduceSub, Nat.reduceMul, Nat.reduceLT, Nat.reduceLeDiff, Nat.reduceEqDiff, List.reduceReplicate, reduceIte, sxq, Bool.false_eq_true, beq_self_eq_true, bne_self_eq_false, Int.reduceBEq, Int.reduceBNe, Bool.or_false, Bool.false_or, Bool.not_false, Bool.not_true, mbits, Int.reduceToNat, Int.reducePow, Int.toNat_natCast, hn, hw11b, hw3, hw11]
      refine WQ.slc (ds := []) rfl rfl rfl rfl rfl el23 rfl rfl (by simp [loS] <;> omega) (by simp [loS, hiS] <;> omega) (by simp [hiS] <;> omega) ?_
      rw [show slcV 1 p0 c0 (loS none).toNat (hiS b.length (some (IntKind.i64, ((3 + n : Nat) : Int)))).toNat = .slice p4 (b.take (3 + n)).length c4 from he4]
      simp only [sx, ty, Bool.false_eq_true, Int.reduceEq, Int.reduceLT, Nat.reduceAdd, Nat.reduceSub, Nat.reduceMul, Nat.reduceLT, Nat.reduceLeDiff, Nat.reduceEqDiff, List.reduceReplicate, reduceIte, beq_self_eq_true, bne_self_eq_false, Int.reduceBEq, Int.reduceBNe, Bool.or_false, Bool.false_or, Bool.not_false, Bool.not_true, mbits, Int.reduceToNat, Int.reducePow, Int.toNat_natCast, hn, hw11b, hw3, hw11]
      refine WQ.call (.int .u64 (digF beginD (b.take (3 + n)))) (ds := []) rfl rfl rfl rfl co27 (fun ρ w1 hb => rsum_spec (Rp.now hl4 (hb.first (by simp)))) ?_
      simp only [sx, ty, Bool.false_eq_true, Int.reduceEq, Int.reduceLT, Nat.reduceAdd, Nat.reduceSub, Nat.reduceMul, Nat.reduceLT, Nat.reduceLeDiff, Nat.reduceEqDiff, List.reduceReplicate, reduceIte, beq_self_eq_true, bne_self_eq_false, Int.reduceBEq, Int.reduceBNe, Bool.or_false, Bool.false_or, Bool.not_false, Bool.not_true, mbits, Int.reduceToNat, Int.reducePow, Int.toNat_natCast, hn, hw11b, hw3, hw11]
      with_reducible refine WQ.nil ?_
      try simp only [sx, ty, Bool.false_eq_true, Int.reduceEq, Int.reduceLT, Nat.reduceAdd, Nat.reduceSub, Nat.reduceMul, Nat.reduceLT, Nat.reduceLeDiff, Nat.reduceEqDiff, List.reduceReplicate, reduceIte, sxt, List.toList_toArray, List.drop_succ_cons, List.drop_zero, beq_self_eq_true, bne_self_eq_false, Int.reduceBEq, Int.reduceBNe, Bool.or_false, Bool.false_or, Bool.not_false, Bool.not_true, mbits, Int.reduceToNat, Int.reducePow, Int.toNat_natCast, hn, hw11b, hw3, hw11]
      refine WO.callM (fun x : Option Addr × Nat => .slice x.1 (bigE (digF beginD (b.take (3 + n)))).length x.2) (fun lo x s9 => rBytes.rd (fun b => lo ≤ b) s9 [.slice x.1 (bigE (digF beginD (b.take (3 + n)))).length x.2] (bigE (digF beginD (b.take (3 + n))))) (ds := []) rfl rfl rfl rfl co26 (fun ρ w1 hb => bytes_spec w1 (digF beginD (b.take (3 + n)))) fun x lo hr1s hr1 => ?_
      obtain ⟨hr1p, hr1c⟩ := x
      simp only at hr1
      simp only [sx, ty, Bool.false_eq_true, Int.reduceEq, Int.reduceLT, Nat.reduceAdd, Nat.reduceSub, Nat.reduceMul, Nat.reduceLT, Nat.reduceLeDiff, Nat.reduceEqDiff, List.reduceReplicate, reduceIte, beq_self_eq_true, bne_self_eq_false, Int.reduceBEq, Int.reduceBNe, Bool.or_false, Bool.false_or, Bool.not_false, Bool.not_true, mbits, Int.reduceToNat, Int.reducePow, Int.toNat_natCast, hn, hw11b, hw3, hw11]
      refine WO.call (.bool (decide (((b.drop (3 + n)).take 8) = bigE (digF beginD (b.take (3 + n)))))) (ds := []) rfl rfl rfl rfl co12 (fun ρ w1 hb => sameB_spec (Rp.keep hl3 (hb.at (by simp))) (Rp.keep hr1 (hb.at (by simp))) (fun x hx => hb8 x (List.mem_of_mem_drop (List.mem_of_mem_take hx))) (bigE_isB _)) ?_
      refine WO.go 1 (ds := []) rfl ?_
      simp only [sx, ty, Bool.false_eq_true, Int.reduceEq, Int.reduceLT, Nat.reduceAdd, Nat.reduceSub, Nat.reduceMul, Nat.reduceLT, Nat.reduceLeDiff, Nat.reduceEqDiff, List.reduceReplicate, reduceIte, beq_self_eq_true, bne_self_eq_false, Int.reduceBEq, Int.reduceBNe, Bool.or_false, Bool.false_or, Bool.not_false, Bool.not_true, mbits, Int.reduceToNat, Int.reducePow, Int.toNat_natCast, hn, hw11b, hw3, hw11]
      with_reducible refine WO.nil ?_
      refine hK10 _ ?_; clear hK10
      refine W.cond rfl rfl (fun hc => ?_) (fun hc => ?_)
      · skip
        have hs : ¬ ((b.drop (3 + n)).take 8) = bigE (digF beginD (b.take (3 + n))) := by simpa using hc
        rw [← hnn] at hs
        refine W.pure (ds := []) rfl fun K11 hK11 => ?_
        simp only [sx, ty, Bool.false_eq_true, Int.reduceEq, Int.reduceLT, Nat.reduceAdd, Nat.reduceSub, Nat.reduceMul, Nat.reduceLT, Nat.reduceLeDiff, Nat.reduceEqDiff, List.reduceReplicate, reduceIte, beq_self_eq_true, bne_self_eq_false, Int.reduceBEq, Int.reduceBNe, Bool.or_false, Bool.false_or, Bool.not_false, Bool.not_true, mbits, Int.reduceToNat, Int.reducePow, Int.toNat_natCast, hn, hw11b, hw3, hw11]; with_reducible refine hK11 _ ?_; clear hK11
        refine W.ret ⟨by simp, _, rfl, fun ρ w1 hb => ?_⟩
        rw [WholeF_sum h11 hcut hs]
        exact ⟨(none, 0), rfl, Rp.slice_nil (by omega)⟩
      · skip
        have hs : ((b.drop (3 + n)).take 8) = bigE (digF beginD (b.take (3 + n))) := by simpa using hc
        rw [← hnn] at hs
        refine W.skip (hK9 _ ?_)
        refine W.seqK fun K12 hK12 => W.region ?_
        refine WO.go 3 (ds := []) rfl ?_
        simp only [sx, ty, Bool.false_eq_true, Int.reduceEq, Int.reduceLT, Nat.reduceAdd, Nat.reduceSub, Nat.reduceMul, Nat.reduceLT, Nat.reduceLeDiff, Nat.reduceEqDiff, List.reduceReplicate, reduceIte, beq_self_eq_true, bne_self_eq_false, Int.reduceBEq, Int.reduceBNe, Bool.or_false, Bool.false_or, Bool.not_false, Bool.not_true, mbits, Int.reduceToNat, Int.reducePow, Int.toNat_natCast, hn, hw11b, hw3, hw11, hw3]
        refine WO.slc (ds := []) rfl rfl rfl rfl rfl el23 rfl rfl (by simp [loS] <;> omega) (by simp [loS, hiS] <;> omega) (by simp [hiS] <;> omega) ?_
        rw [show slcV 1 p0 c0 (loS (some (IntKind.i64, 3))).toNat (hiS b.length (some (IntKind.i64, ((3 + n : Nat) : Int)))).toNat = .slice p5 ((b.drop 3).take n).length c5 from he5]
        simp only [sx, ty, Bool.false_eq_true, Int.reduceEq, Int.reduceLT, Nat.reduceAdd, Nat.reduceSub, Nat.reduceMul, Nat.reduceLT, Nat.reduceLeDiff, Nat.reduceEqDiff, List.reduceReplicate, reduceIte, beq_self_eq_true, bne_self_eq_false, Int.reduceBEq, Int.reduceBNe, Bool.or_false, Bool.false_or, Bool.not_false, Bool.not_true, mbits, Int.reduceToNat, Int.reducePow, Int.toNat_natCast, hn, hw11b, hw3, hw11, hw3]
        refine WO.callM (fun x : Option Addr × Nat => .tuple #[.slice x.1 (GetF ((b.drop 3).take n)).1.length x.2, .int .i64 (GetF ((b.drop 3).take n)).2]) (fun lo x s9 => w.heap.size ≤ lo ∧ rInts.rd (fun b => lo ≤ b) s9 [.slice x.1 (GetF ((b.drop 3).take n)).1.length x.2] (GetF ((b.drop 3).take n)).1) (ds := []) rfl rfl rfl rfl co16 (fun ρ w1 hb => Gives.mono (rGet_spec (Rp.keep hl5 (hb.at (by simp))) (fun x hx => hb8 x (List.mem_of_mem_drop (List.mem_of_mem_take hx)))) fun _ _ _ ⟨x, h1, h2⟩ => ⟨x, h1, (hb.at (S := fun _ => True) (s := w) (by simp)).size, h2⟩) fun x lo hr2s ⟨hr2lo, hr2⟩ => ?_
        obtain ⟨hr2p, hr2c⟩ := x
        simp only at hr2
        refine WO.go 5 (ds := []) rfl ?_
        simp only [sx, ty, Bool.false_eq_true, Int.reduceEq, Int.reduceLT, Nat.reduceAdd, Nat.reduceSub, Nat.reduceMul, Nat.reduceLT, Nat.reduceLeDiff, Nat.reduceEqDiff, List.reduceReplicate, reduceIte, beq_self_eq_true, bne_self_eq_false, Int.reduceBEq, Int.reduceBNe, Bool.or_false, Bool.false_or, Bool.not_false, Bool.not_true, mbits, Int.reduceToNat, Int.reducePow, Int.toNat_natCast, hn, hw11b, hw3, hw11, hw3]
        with_reducible refine WO.nil ?_
        refine hK12 _ ?_; clear hK12
        refine W.seqK fun K13 hK13 => ?_
        refine W.pure (ds := []) rfl fun K14 hK14 => ?_
        simp only [sx, ty, Bool.false_eq_true, Int.reduceEq, Int.reduceLT, Nat.reduceAdd, Nat.reduceSub, Nat.reduceMul, Nat.reduceLT, Nat.reduceLeDiff, Nat.reduceEqDiff, List.reduceReplicate, reduceIte, beq_self_eq_true, bne_self_eq_false, Int.reduceBEq, Int.reduceBNe, Bool.or_false, Bool.false_or, Bool.not_false, Bool.not_true, mbits, Int.reduceToNat, Int.reducePow, Int.toNat_natCast, hn, hw11b, hw3, hw11, hw3]; with_reducible refine hK14 _ ?_; clear hK14
        refine W.cond rfl rfl (fun hc => ?_) (fun hc => ?_)
        · skip
          have hge : getF ((b.drop 3).take n) = none := by
            cases h9 : getF ((b.drop 3).take n) with
            | none => rfl
            | some l => rw [GetF_some h9] at hc; simp at hc
          rw [← hnn] at hge
          refine W.pure (ds := []) rfl fun K15 hK15 => ?_
          simp only [sx, ty, Bool.false_eq_true, Int.reduceEq, Int.reduceLT, Nat.reduceAdd, Nat.reduceSub, Nat.reduceMul, Nat.reduceLT, Nat.reduceLeDiff, Nat.reduceEqDiff, List.reduceReplicate, reduceIte, beq_self_eq_true, bne_self_eq_false, Int.reduceBEq, Int.reduceBNe, Bool.or_false, Bool.false_or, Bool.not_false, Bool.not_true, mbits, Int.reduceToNat, Int.reducePow, Int.toNat_natCast, hn, hw11b, hw3, hw11, hw3]; with_reducible refine hK15 _ ?_; clear hK15
          refine W.ret ⟨by simp, _, rfl, fun ρ w1 hb => ?_⟩
          rw [WholeF_bad h11 hcut hs hge]
          exact ⟨(none, 0), rfl, Rp.slice_nil (by omega)⟩
        · skip
          obtain ⟨l, hge⟩ : ∃ l, getF ((b.drop 3).take n) = some l := by
            cases h9 : getF ((b.drop 3).take n) with
            | none => rw [GetF_none h9] at hc; simp at hc
            | some l => exact ⟨l, rfl⟩
          rw [GetF_some hge] at hr2
          refine W.skip (hK13 _ ?_)
          refine W.pure (ds := []) rfl fun K16 hK16 => ?_
          simp only [sx, ty, Bool.false_eq_true, Int.reduceEq, Int.reduceLT, Nat.reduceAdd, Nat.reduceSub, Nat.reduceMul, Nat.reduceLT, Nat.reduceLeDiff, Nat.reduceEqDiff, List.reduceReplicate, reduceIte, beq_self_eq_true, bne_self_eq_false, Int.reduceBEq, Int.reduceBNe, Bool.or_false, Bool.false_or, Bool.not_false, Bool.not_true, mbits, Int.reduceToNat, Int.reducePow, Int.toNat_natCast, hn, hw11b, hw3, hw11, hw3, hw11b]; with_reducible refine hK16 _ ?_; clear hK16
          refine W.ret ⟨by simp, _, rfl, fun ρ w1 hb => ?_⟩
          rw [← hnn] at hge
          rw [WholeF_ok h11 hcut hs hge, hnn]
          rw [hnn] at hge
          exact ⟨(hr2p, hr2c), by simp only [den, denL, GetF_some hge], Rp.mono _ (Rp.keep hr2 (hb.at (by simp))) (fun b h _ => Nat.le_trans hr2lo h)⟩
end Go.Proofs.Ytnbfdncmlbegmaa
