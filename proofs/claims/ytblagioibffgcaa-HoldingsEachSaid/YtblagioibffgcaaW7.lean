/-
  Holdings: the head of the laws, and the first law: walks.
-/
import Derived.Test.YtblagioibffgcaaW6
import Derived.Test.YtblagioibffgcaaSxMore
set_option linter.unusedVariables false
set_option linter.unusedSimpArgs false
set_option maxHeartbeats 1000000
namespace Go.Proofs.Ytblagioibffgcaa
open Go Go.SX Go.RowKit

theorem rDem_mk {S : Nat → Prop} {w : World} {v : Value} {a b c : Int} {l : List Int} (h : rInts.rd S w [v] l) : rDem.rd S w [.int .i64 a, .int .i64 b, .int .i64 c, v] (a, b, c, l) :=
  ⟨[.int .i64 a], _, rfl, rfl, [.int .i64 b], _, rfl, rfl, [.int .i64 c], _, rfl, rfl, h⟩
theorem rCop_mk {S : Nat → Prop} {w : World} (a b c d : Int) : rCop.rd S w [.int .i64 a, .int .i64 b, .int .i64 c, .int .i64 d] (a, b, c, d) :=
  ⟨[.int .i64 a], _, rfl, rfl, [.int .i64 b], _, rfl, rfl, [.int .i64 c], _, rfl, rfl, rfl⟩
theorem costs_call {S S2 : Nat → Prop} {w : World} {v u : Value} {ds : List Dem} {cs : List Cop} {hall : Int} {rows : List (List Int)} {n : Int} (e : costsR ds cs hall = (rows, n)) (hl : rDems.rd S w [v] ds) (hl2 : rCops.rd S2 w [u] cs) : Gives Try.prog 10 #[v, u, .int .i64 hall] w fun r w' =>
    ∃ x : Option Addr × Nat, r = .tuple #[.slice x.1 rows.length x.2, .int .i64 n] ∧ rRows.rd (fun b => w.heap.size ≤ b) w' [.slice x.1 rows.length x.2] rows :=
  (costs_spec hl hl2 hall).mono fun r w' _ ⟨p, c, h1, h2⟩ => by rw [e] at h1 h2; exact ⟨(p, c), h1, h2⟩
theorem rcosts_call {S S2 : Nat → Prop} {w : World} {v u : Value} {ds : List Dem} {cs : List Cop} {hall : Int} {rows : List (List Int)} {n : Int} (e : costsR ds cs hall = (rows, n)) (hl : rDems.rd S w [v] ds) (hl2 : rCops.rd S2 w [u] cs) : Gives Try.prog 11 #[v, u, .int .i64 hall] w fun r w' =>
    ∃ x : Option Addr × Nat, r = .tuple #[.slice x.1 rows.length x.2, .int .i64 n] ∧ rRows.rd (fun b => w.heap.size ≤ b) w' [.slice x.1 rows.length x.2] rows :=
  (rcosts_spec hl hl2 hall).mono fun r w' _ ⟨p, c, h1, h2⟩ => by rw [e] at h1 h2; exact ⟨(p, c), h1, h2⟩
theorem same_call {S S2 : Nat → Prop} {w : World} {v u : Value} {a : List (List Int)} (hl : rRows.rd S w [v] a) (hl2 : rRows.rd S2 w [u] a) : Gives Try.prog 14 #[v, u] w fun r _ => r = .bool true :=
  (same_spec hl hl2).mono fun r w' _ h => by rw [h]; simp
theorem valid_call {S S2 : Nat → Prop} {w : World} {v u : Value} {ds : List Dem} {cs : List Cop} {b : Bool} (e : valid ds cs = b) (hl : rDems.rd S w [v] ds) (hl2 : rCops.rd S2 w [u] cs) : Gives Try.prog 12 #[v, u] w fun r _ => r = .bool b :=
  (valid_spec hl hl2).mono fun r w' _ h => by rw [h, e]



def headD : List Dem := [(1, 3, 2, [8, 5])]
def headC : List Cop := [(1, 3, 5, 1), (2, 3, 8, 0), (3, 3, 9, 1), (4, 4, 8, 0)]
theorem head1 : costsR headD headC 1 = ([[10, 5, -1, -1]], 0) := by decide
theorem head2 : costsR headD headC 0 = ([[15, 0, -1, -1]], 0) := by decide
theorem head3 : costsR headD headC 100 = ([], 1) := by decide
theorem head4 : valid headD headC = true := by decide
theorem head5 : valid (headD ++ [(1, 3, 2, [8, 5])]) headC = false := by decide
theorem head6 : valid headD (headC ++ [(1, 3, 5, 1)]) = false := by decide
/-- function 8 -/
theorem head_spec (w : World) : Gives Try.prog 8 #[] w fun r _ => r = .bool true := by
  refine gives_of [] 86 [.tmp 0] Try.func8 rfl rfl rfl (by simp) rfl rfl ?_
  refine W.pure (ds := []) rfl fun K1 hK1 => ?_
  simp only [sx, ty, Bool.false_eq_true, Int.reduceEq, Int.reduceLT, Nat.reduceAdd, Nat.reduceSub, Nat.reduceMul, Nat.reduceLT, Nat.reduceLeDiff, Nat.reduceEqDiff, List.reduceReplicate, reduceIte, beq_self_eq_true, bne_self_eq_false, Int.reduceBEq, Int.reduceBNe]; with_reducible refine hK1 _ ?_; clear hK1
  refine W.pure (ds := []) rfl fun K2 hK2 => ?_
  simp only [sx, ty, Bool.false_eq_true, Int.reduceEq, Int.reduceLT, Nat.reduceAdd, Nat.reduceSub, Nat.reduceMul, Nat.reduceLT, Nat.reduceLeDiff, Nat.reduceEqDiff, List.reduceReplicate, reduceIte, beq_self_eq_true, bne_self_eq_false, Int.reduceBEq, Int.reduceBNe]; with_reducible refine hK2 _ ?_; clear hK2
  refine W.pure (ds := []) rfl fun K3 hK3 => ?_
  simp only [sx, ty, Bool.false_eq_true, Int.reduceEq, Int.reduceLT, Nat.reduceAdd, Nat.reduceSub, Nat.reduceMul, Nat.reduceLT, Nat.reduceLeDiff, Nat.reduceEqDiff, List.reduceReplicate, reduceIte, beq_self_eq_true, bne_self_eq_false, Int.reduceBEq, Int.reduceBNe]; with_reducible refine hK3 _ ?_; clear hK3
  refine W.freeze [0, 1] 1 (.lsl 1 0 1 1) rfl rfl (fun S s v => ∃ a, v = .slice (some a) 1 1 ∧ rDems.rd S s [v] headD) (fun ρ w1 hb => ?_) (fun S1 s1 v1 h1 => ?_)
  · refine ⟨joinS (fun _ => True) w ρ _ [0, 1], ⟨_, rfl, own_listS (A := rDem) (k := 1) hb rfl rfl (by omega) (by omega) (.inr ⟨1, _, by simp, rfl, rfl⟩) ?_⟩, joinS_apart hb (by simp) [0, 1]⟩
    refine Rp.one (rDem_mk (own_listS (A := rInt) (k := 0) hb rfl rfl (by omega) (by omega) (.inr ⟨0, _, by simp, rfl, rfl⟩) ?_))
    rintro (_ | _ | i) y hy
    · cases hy; rfl
    · cases hy; rfl
    · simp at hy
  obtain ⟨a1, rfl, hd1⟩ := h1
  simp only [sx, ty, Bool.false_eq_true, Int.reduceEq, Int.reduceLT, Nat.reduceAdd, Nat.reduceSub, Nat.reduceMul, Nat.reduceLT, Nat.reduceLeDiff, Nat.reduceEqDiff, List.reduceReplicate, reduceIte, sxd]
  refine W.freeze [2] 2 (.lsl 2 0 4 4) rfl rfl (fun S s v => ∃ a, v = .slice (some a) 4 4 ∧ rCops.rd S s [v] headC) (fun ρ w1 hb => ?_) (fun S2 s2 v2 h2 => ?_)
  · refine ⟨joinS (fun _ => True) w ρ _ [2], ⟨_, rfl, own_listS (A := rCop) (k := 2) hb rfl rfl (by omega) (by omega) (.inr ⟨2, _, by simp, rfl, rfl⟩) ?_⟩, joinS_apart hb (by simp) [2]⟩
    rintro (_ | _ | _ | _ | i) y hy
    · cases hy; exact rCop_mk _ _ _ _
    · cases hy; exact rCop_mk _ _ _ _
    · cases hy; exact rCop_mk _ _ _ _
    · cases hy; exact rCop_mk _ _ _ _
    · simp [headC] at hy
  obtain ⟨a2, rfl, hc1⟩ := h2
  simp only [sx, ty, Bool.false_eq_true, Int.reduceEq, Int.reduceLT, Nat.reduceAdd, Nat.reduceSub, Nat.reduceMul, Nat.reduceLT, Nat.reduceLeDiff, Nat.reduceEqDiff, List.reduceReplicate, reduceIte, sxd]
  obtain h | ⟨a1', oldD, ha1, _, hSD, hzD, holD, hatD, hrdD⟩ := Rp.slice_cells hd1
  · cases h
  obtain rfl := Option.some.inj ha1
  obtain h | ⟨a2', oldC, ha2, _, hSC, hzC, holC, hatC, hrdC⟩ := Rp.slice_cells hc1
  · cases h
  obtain rfl := Option.some.inj ha2
  refine W.seqK fun K4 hK4 => W.region ?_
  refine WO.go 2 (ds := []) rfl ?_
  simp only [sx, ty, Bool.false_eq_true, Int.reduceEq, Int.reduceLT, Nat.reduceAdd, Nat.reduceSub, Nat.reduceMul, Nat.reduceLT, Nat.reduceLeDiff, Nat.reduceEqDiff, List.reduceReplicate, reduceIte, beq_self_eq_true, bne_self_eq_false, Int.reduceBEq, Int.reduceBNe]
  refine WO.callM (fun x : Option Addr × Nat => .tuple #[.slice x.1 [[10, 5, -1, -1]].length x.2, .int .i64 0]) (fun lo x s => rRows.rd (fun b => lo ≤ b) s [.slice x.1 [[10, 5, -1, -1]].length x.2] [[10, 5, -1, -1]]) (ds := []) rfl rfl rfl rfl co10 (fun ρ w1 hb => costs_call head1 (Rp.keep hd1 (hb.at (by simp))) (Rp.keep hc1 (hb.at (by simp)))) fun x lo hr1s hr1 => ?_
  obtain ⟨hr1p, hr1c⟩ := x
  simp only at hr1
  refine WO.go 5 (ds := []) rfl ?_
  simp only [sx, ty, Bool.false_eq_true, Int.reduceEq, Int.reduceLT, Nat.reduceAdd, Nat.reduceSub, Nat.reduceMul, Nat.reduceLT, Nat.reduceLeDiff, Nat.reduceEqDiff, List.reduceReplicate, reduceIte, beq_self_eq_true, bne_self_eq_false, Int.reduceBEq, Int.reduceBNe]
  with_reducible refine WO.nil ?_
  refine hK4 _ ?_; clear hK4
  refine W.seqK fun K5 hK5 => W.region ?_
  refine WO.go 2 (ds := []) rfl ?_
  simp only [sx, ty, Bool.false_eq_true, Int.reduceEq, Int.reduceLT, Nat.reduceAdd, Nat.reduceSub, Nat.reduceMul, Nat.reduceLT, Nat.reduceLeDiff, Nat.reduceEqDiff, List.reduceReplicate, reduceIte, beq_self_eq_true, bne_self_eq_false, Int.reduceBEq, Int.reduceBNe]
  refine WO.callM (fun x : Option Addr × Nat => .tuple #[.slice x.1 [[15, 0, -1, -1]].length x.2, .int .i64 0]) (fun lo x s => rRows.rd (fun b => lo ≤ b) s [.slice x.1 [[15, 0, -1, -1]].length x.2] [[15, 0, -1, -1]]) (ds := []) rfl rfl rfl rfl co10 (fun ρ w1 hb => costs_call head2 (Rp.keep hd1 (hb.at (by simp))) (Rp.keep hc1 (hb.at (by simp)))) fun x lo hr2s hr2 => ?_
  obtain ⟨hr2p, hr2c⟩ := x
  simp only at hr2
  refine WO.go 5 (ds := []) rfl ?_
  simp only [sx, ty, Bool.false_eq_true, Int.reduceEq, Int.reduceLT, Nat.reduceAdd, Nat.reduceSub, Nat.reduceMul, Nat.reduceLT, Nat.reduceLeDiff, Nat.reduceEqDiff, List.reduceReplicate, reduceIte, beq_self_eq_true, bne_self_eq_false, Int.reduceBEq, Int.reduceBNe]
  with_reducible refine WO.nil ?_
  refine hK5 _ ?_; clear hK5
  refine W.seqK fun K6 hK6 => W.region ?_
  refine WO.go 2 (ds := []) rfl ?_
  simp only [sx, ty, Bool.false_eq_true, Int.reduceEq, Int.reduceLT, Nat.reduceAdd, Nat.reduceSub, Nat.reduceMul, Nat.reduceLT, Nat.reduceLeDiff, Nat.reduceEqDiff, List.reduceReplicate, reduceIte, beq_self_eq_true, bne_self_eq_false, Int.reduceBEq, Int.reduceBNe]
  refine WO.callM (fun x : Option Addr × Nat => .tuple #[.slice x.1 ([] : List (List Int)).length x.2, .int .i64 1]) (fun lo x s => rRows.rd (fun b => lo ≤ b) s [.slice x.1 ([] : List (List Int)).length x.2] ([] : List (List Int))) (ds := []) rfl rfl rfl rfl co10 (fun ρ w1 hb => costs_call head3 (Rp.keep hd1 (hb.at (by simp))) (Rp.keep hc1 (hb.at (by simp)))) fun x lo hr3s hr3 => ?_
  obtain ⟨hr3p, hr3c⟩ := x
  simp only at hr3
  refine WO.go 5 (ds := []) rfl ?_
  simp only [sx, ty, Bool.false_eq_true, Int.reduceEq, Int.reduceLT, Nat.reduceAdd, Nat.reduceSub, Nat.reduceMul, Nat.reduceLT, Nat.reduceLeDiff, Nat.reduceEqDiff, List.reduceReplicate, reduceIte, beq_self_eq_true, bne_self_eq_false, Int.reduceBEq, Int.reduceBNe]
  with_reducible refine WO.nil ?_
  refine hK6 _ ?_; clear hK6
  refine W.seqK fun K7 hK7 => W.region ?_
  refine WO.go 14 (ds := [some 36, some 37, some 38, some 39, some 40, some 41, some 42, some 43, some 44, some 45, some 46, some 47, some 48, some 49, some 50, some 51, some 52, some 53, some 54, some 55, some 56, some 57, some 9]) rfl ?_
  simp only [sx, ty, Bool.false_eq_true, Int.reduceEq, Int.reduceLT, Nat.reduceAdd, Nat.reduceSub, Nat.reduceMul, Nat.reduceLT, Nat.reduceLeDiff, Nat.reduceEqDiff, List.reduceReplicate, reduceIte, beq_self_eq_true, bne_self_eq_false, Int.reduceBEq, Int.reduceBNe]
  refine WO.call (.bool true) (ds := [some 36, some 37, some 38, some 39, some 40, some 41, some 42, some 43, some 44, some 45, some 46, some 47, some 48, some 49, some 50, some 51, some 52, some 53, some 54, some 55, some 56, some 57, some 9]) rfl rfl rfl rfl co14 (fun ρ w1 hb => same_call (Rp.keep hr1 (hb.at (by simp))) (own_listS (S := fun _ => True) (A := rInts) (k := 4) hb rfl rfl (by omega) (by omega) trivial (Rp.one (own_listS (A := rInt) (k := 3) hb rfl rfl (by omega) (by omega) trivial (by rintro (_ | _ | _ | _ | i) y hy <;> first | (cases hy; rfl) | simp at hy))))) ?_
  refine WO.go 5 (ds := [some 36, some 37, some 38, some 39, some 40, some 41, some 42, some 43, some 44, some 45, some 46, some 47, some 48, some 49, some 50, some 51, some 52, some 53, some 54, some 55, some 56, some 57, some 9]) rfl ?_
  simp only [sx, ty, Bool.false_eq_true, Int.reduceEq, Int.reduceLT, Nat.reduceAdd, Nat.reduceSub, Nat.reduceMul, Nat.reduceLT, Nat.reduceLeDiff, Nat.reduceEqDiff, List.reduceReplicate, reduceIte, beq_self_eq_true, bne_self_eq_false, Int.reduceBEq, Int.reduceBNe]
  refine WO.call (.bool true) (ds := [some 36, some 37, some 38, some 39, some 40, some 41, some 42, some 43, some 44, some 45, some 46, some 47, some 48, some 49, some 50, some 51, some 52, some 53, some 54, some 55, some 56, some 57, some 9]) rfl rfl rfl rfl co14 (fun ρ w1 hb => same_call (Rp.keep hr2 (hb.at (by simp))) (own_listS (S := fun _ => True) (A := rInts) (k := 6) hb rfl rfl (by omega) (by omega) trivial (Rp.one (own_listS (A := rInt) (k := 5) hb rfl rfl (by omega) (by omega) trivial (by rintro (_ | _ | _ | _ | i) y hy <;> first | (cases hy; rfl) | simp at hy))))) ?_
  refine WO.go 2 (ds := [some 36, some 37, some 38, some 39, some 40, some 41, some 42, some 43, some 44, some 45, some 46, some 47, some 48, some 49, some 50, some 51, some 52, some 53, some 54, some 55, some 56, some 57, some 9]) rfl ?_
  simp only [sx, ty, Bool.false_eq_true, Int.reduceEq, Int.reduceLT, Nat.reduceAdd, Nat.reduceSub, Nat.reduceMul, Nat.reduceLT, Nat.reduceLeDiff, Nat.reduceEqDiff, List.reduceReplicate, reduceIte, beq_self_eq_true, bne_self_eq_false, Int.reduceBEq, Int.reduceBNe]
  with_reducible refine WO.nil ?_
  refine hK7 _ ?_; clear hK7
  refine W.seqK fun K8 hK8 => W.region ?_
  refine WO.go 4 (ds := [some 58, some 59, some 60, some 61, some 62, some 63, some 64, some 65, some 66, some 67, some 68, some 69, some 70, some 71, some 72, some 73, some 74, some 75, some 76, some 77, some 78, some 79, some 80, some 81, some 82, some 83, some 84, some 85, some 0]) rfl ?_
  simp only [sx, ty, Bool.false_eq_true, Int.reduceEq, Int.reduceLT, Nat.reduceAdd, Nat.reduceSub, Nat.reduceMul, Nat.reduceLT, Nat.reduceLeDiff, Nat.reduceEqDiff, List.reduceReplicate, reduceIte, beq_self_eq_true, bne_self_eq_false, Int.reduceBEq, Int.reduceBNe]
  refine WO.call (.bool true) (ds := [some 58, some 59, some 60, some 61, some 62, some 63, some 64, some 65, some 66, some 67, some 68, some 69, some 70, some 71, some 72, some 73, some 74, some 75, some 76, some 77, some 78, some 79, some 80, some 81, some 82, some 83, some 84, some 85, some 0]) rfl rfl rfl rfl co12 (fun ρ w1 hb => valid_call head4 (Rp.keep hd1 (hb.at (by simp))) (Rp.keep hc1 (hb.at (by simp)))) ?_
  refine WO.go 4 (ds := [some 58, some 59, some 60, some 61, some 62, some 63, some 64, some 65, some 66, some 67, some 68, some 69, some 70, some 71, some 72, some 73, some 74, some 75, some 76, some 77, some 78, some 79, some 80, some 81, some 82, some 83, some 84, some 85, some 0]) rfl ?_
  simp only [sx, ty, Bool.false_eq_true, Int.reduceEq, Int.reduceLT, Nat.reduceAdd, Nat.reduceSub, Nat.reduceMul, Nat.reduceLT, Nat.reduceLeDiff, Nat.reduceEqDiff, List.reduceReplicate, reduceIte, beq_self_eq_true, bne_self_eq_false, Int.reduceBEq, Int.reduceBNe]
  refine WO.elem (y := (1, 3, 2, [8, 5])) hd1 (by simp [St.put]) (ds := [some 58, some 59, some 60, some 61, some 62, some 63, some 64, some 65, some 66, some 67, some 68, some 69, some 70, some 71, some 72, some 73, some 74, some 75, some 76, some 77, some 78, some 79, some 80, some 81, some 82, some 83, some 84, some 85, some 0]) rfl rfl rfl (by simp [St.put]) (fun _ => rfl) rfl rfl rfl rfl rfl el22 agg35 sz35 (.inl rfl) (by omega) (rfl) fun p ces hces => ?_
  obtain ⟨p5, c5, rfl, hed, hel⟩ := rDem_open hces
  have hd5 := hces
  clear hces
  refine WO.go 1 (ds := [some 58, some 59, some 60, some 61, some 62, some 63, some 64, some 65, some 66, some 67, some 68, some 69, some 70, some 71, some 72, some 73, some 74, some 75, some 76, some 77, some 78, some 79, some 80, some 81, some 82, some 83, some 84, some 85, some 0]) rfl ?_
  simp only [sx, ty, Bool.false_eq_true, Int.reduceEq, Int.reduceLT, Nat.reduceAdd, Nat.reduceSub, Nat.reduceMul, Nat.reduceLT, Nat.reduceLeDiff, Nat.reduceEqDiff, List.reduceReplicate, reduceIte, beq_self_eq_true, bne_self_eq_false, Int.reduceBEq, Int.reduceBNe]
  refine WO.appendFull (n := 1) (m := 1) oldD [.int .i64 1, .int .i64 3, .int .i64 2, .slice p5 2 c5] (ds := [some 58, some 59, some 60, some 61, some 62, some 63, some 64, some 65, some 66, some 67, some 68, some 69, some 70, some 71, some 72, some 73, some 74, some 75, some 76, some 77, some 78, some 79, some 80, some 81, some 82, some 83, some 84, some 85, some 0]) rfl rfl rfl rfl ⟨_, rfl, fun ρ w1 hb => ⟨a1, rfl, hatD.frame ((hb.at (by simp)).block _ hSD hzD)⟩⟩ rfl ek22 holD (by omega) (news_own (k2 := 7) rfl fun _ => rfl) rfl (by rw [maxLen_eq]; omega) (by omega) fun q1 cq1 => ?_
  refine WO.go 1 (ds := [some 58, some 59, some 60, some 61, some 62, some 63, some 64, some 65, some 66, some 67, some 68, some 69, some 70, some 71, some 72, some 73, some 74, some 75, some 76, some 77, some 78, some 79, some 80, some 81, some 82, some 83, some 84, some 85, some 0]) rfl ?_
  simp only [sx, ty, Bool.false_eq_true, Int.reduceEq, Int.reduceLT, Nat.reduceAdd, Nat.reduceSub, Nat.reduceMul, Nat.reduceLT, Nat.reduceLeDiff, Nat.reduceEqDiff, List.reduceReplicate, reduceIte, beq_self_eq_true, bne_self_eq_false, Int.reduceBEq, Int.reduceBNe]
  refine WO.call (.bool false) (ds := [some 58, some 59, some 60, some 61, some 62, some 63, some 64, some 65, some 66, some 67, some 68, some 69, some 70, some 71, some 72, some 73, some 74, some 75, some 76, some 77, some 78, some 79, some 80, some 81, some 82, some 83, some 84, some 85, some 0]) rfl rfl rfl rfl co12 (fun ρ w1 hb => valid_call head5 (own_slice (A := rDem) (S := fun _ => True) (k := 8) hb rfl rfl (fun _ _ => trivial) (Rp.app holD (fun i y hy => Rp.any (Rp.keep (hrdD i y hy) (hb.at (by simp)))) (Rp.one (Rp.any (Rp.keep hd5 (hb.at (by simp))))))) (Rp.keep hc1 (hb.at (by simp)))) ?_
  refine WO.go 6 (ds := [some 58, some 59, some 60, some 61, some 62, some 63, some 64, some 65, some 66, some 67, some 68, some 69, some 70, some 71, some 72, some 73, some 74, some 75, some 76, some 77, some 78, some 79, some 80, some 81, some 82, some 83, some 84, some 85, some 0]) rfl ?_
  simp only [sx, ty, Bool.false_eq_true, Int.reduceEq, Int.reduceLT, Nat.reduceAdd, Nat.reduceSub, Nat.reduceMul, Nat.reduceLT, Nat.reduceLeDiff, Nat.reduceEqDiff, List.reduceReplicate, reduceIte, beq_self_eq_true, bne_self_eq_false, Int.reduceBEq, Int.reduceBNe]
  refine WO.elem (y := (1, 3, 5, 1)) hc1 (by simp [St.put]) (ds := [some 58, some 59, some 60, some 61, some 62, some 63, some 64, some 65, some 66, some 67, some 68, some 69, some 70, some 71, some 72, some 73, some 74, some 75, some 76, some 77, some 78, some 79, some 80, some 81, some 82, some 83, some 84, some 85, some 0]) rfl rfl rfl (by simp [St.put]) (fun _ => rfl) rfl rfl rfl rfl rfl el23 agg37 sz37 (.inl rfl) (by omega) (rfl) fun p ces hces => ?_
  obtain rfl := rCop_open hces
  refine WO.go 1 (ds := [some 58, some 59, some 60, some 61, some 62, some 63, some 64, some 65, some 66, some 67, some 68, some 69, some 70, some 71, some 72, some 73, some 74, some 75, some 76, some 77, some 78, some 79, some 80, some 81, some 82, some 83, some 84, some 85, some 0]) rfl ?_
  simp only [sx, ty, Bool.false_eq_true, Int.reduceEq, Int.reduceLT, Nat.reduceAdd, Nat.reduceSub, Nat.reduceMul, Nat.reduceLT, Nat.reduceLeDiff, Nat.reduceEqDiff, List.reduceReplicate, reduceIte, beq_self_eq_true, bne_self_eq_false, Int.reduceBEq, Int.reduceBNe]
  refine WO.appendFull (n := 4) (m := 1) oldC [.int .i64 1, .int .i64 3, .int .i64 5, .int .i64 1] (ds := [some 58, some 59, some 60, some 61, some 62, some 63, some 64, some 65, some 66, some 67, some 68, some 69, some 70, some 71, some 72, some 73, some 74, some 75, some 76, some 77, some 78, some 79, some 80, some 81, some 82, some 83, some 84, some 85, some 0]) rfl rfl rfl rfl ⟨_, rfl, fun ρ w1 hb => ⟨a2, rfl, hatC.frame ((hb.at (by simp)).block _ hSC hzC)⟩⟩ rfl ek23 holC (by omega) (news_own (k2 := 9) rfl fun _ => rfl) rfl (by rw [maxLen_eq]; omega) (by omega) fun q2 cq2 => ?_
  simp only [sx, ty, Bool.false_eq_true, Int.reduceEq, Int.reduceLT, Nat.reduceAdd, Nat.reduceSub, Nat.reduceMul, Nat.reduceLT, Nat.reduceLeDiff, Nat.reduceEqDiff, List.reduceReplicate, reduceIte, beq_self_eq_true, bne_self_eq_false, Int.reduceBEq, Int.reduceBNe]
  refine WO.call (.bool false) (ds := [some 58, some 59, some 60, some 61, some 62, some 63, some 64, some 65, some 66, some 67, some 68, some 69, some 70, some 71, some 72, some 73, some 74, some 75, some 76, some 77, some 78, some 79, some 80, some 81, some 82, some 83, some 84, some 85, some 0]) rfl rfl rfl rfl co12 (fun ρ w1 hb => valid_call head6 (Rp.keep hd1 (hb.at (by simp))) (own_slice (A := rCop) (S := fun _ => True) (k := 10) hb rfl rfl (fun _ _ => trivial) (Rp.app holC (fun i y hy => Rp.any (Rp.keep (hrdC i y hy) (hb.at (by simp)))) (Rp.one (Rp.any (Rp.keep hces (hb.at (by simp)))))))) ?_
  refine WO.go 3 (ds := [some 58, some 59, some 60, some 61, some 62, some 63, some 64, some 65, some 66, some 67, some 68, some 69, some 70, some 71, some 72, some 73, some 74, some 75, some 76, some 77, some 78, some 79, some 80, some 81, some 82, some 83, some 84, some 85, some 0]) rfl ?_
  simp only [sx, ty, Bool.false_eq_true, Int.reduceEq, Int.reduceLT, Nat.reduceAdd, Nat.reduceSub, Nat.reduceMul, Nat.reduceLT, Nat.reduceLeDiff, Nat.reduceEqDiff, List.reduceReplicate, reduceIte, beq_self_eq_true, bne_self_eq_false, Int.reduceBEq, Int.reduceBNe]
  with_reducible refine WO.nil ?_
  refine hK8 _ ?_; clear hK8
  refine W.ret ⟨by simp, _, rfl, fun ρ w1 hb => ?_⟩
  rfl
/-- function 3 -/
theorem law1 {S S2 : Nat → Prop} {w : World} {v u : Value} {ds : List Dem} {cs : List Cop} (hl : rDems.rd S w [v] ds) (hl2 : rCops.rd S2 w [u] cs) (hall : Int) : Gives Try.prog 3 #[v, u, .int .i64 hall] w fun r _ => r = .bool true := by
  obtain ⟨p, c, rfl, hc1, hc2⟩ := Rp.slice_val hl
  obtain ⟨p2, c2, rfl, hc3, hc4⟩ := Rp.slice_val hl2
  have hl : (Rp.slice rDem).rd (fun _ => True) w _ ds := Rp.any hl
  have hl2 : (Rp.slice rCop).rd (fun _ => True) w _ cs := Rp.any hl2
  refine gives_of [.val (.slice p ds.length c), .val (.slice p2 cs.length c2), .val (.int .i64 hall)] 52 [.tmp 6] Try.func3 rfl rfl rfl (by simp) rfl rfl ?_
  refine W.pure (ds := []) rfl fun K1 hK1 => ?_
  simp only [sx, ty, Bool.false_eq_true, Int.reduceEq, Int.reduceLT, Nat.reduceAdd, Nat.reduceSub, Nat.reduceMul, Nat.reduceLT, Nat.reduceLeDiff, Nat.reduceEqDiff, List.reduceReplicate, reduceIte, beq_self_eq_true, bne_self_eq_false, Int.reduceBEq, Int.reduceBNe]; with_reducible refine hK1 _ ?_; clear hK1
  refine W.seqK fun K2 hK2 => W.region ?_
  refine WO.call (.bool true) (ds := []) rfl rfl rfl rfl co8 (fun ρ w1 hb => head_spec w1) ?_
  refine WO.go 1 (ds := []) rfl ?_
  simp only [sx, ty, Bool.false_eq_true, Int.reduceEq, Int.reduceLT, Nat.reduceAdd, Nat.reduceSub, Nat.reduceMul, Nat.reduceLT, Nat.reduceLeDiff, Nat.reduceEqDiff, List.reduceReplicate, reduceIte, beq_self_eq_true, bne_self_eq_false, Int.reduceBEq, Int.reduceBNe]
  with_reducible refine WO.nil ?_
  refine hK2 _ ?_; clear hK2
  refine W.seqK fun K3 hK3 => ?_
  refine W.seqK fun K4 hK4 => W.region ?_
  refine WO.go 2 (ds := []) rfl ?_
  simp only [sx, ty, Bool.false_eq_true, Int.reduceEq, Int.reduceLT, Nat.reduceAdd, Nat.reduceSub, Nat.reduceMul, Nat.reduceLT, Nat.reduceLeDiff, Nat.reduceEqDiff, List.reduceReplicate, reduceIte, beq_self_eq_true, bne_self_eq_false, Int.reduceBEq, Int.reduceBNe]
  refine WO.call (.bool (few ds cs)) (ds := []) rfl rfl rfl rfl co9 (fun ρ w1 hb => few_spec (Rp.now hl (hb.first (by simp))) (Rp.now hl2 (hb.first (by simp)))) ?_
  refine WO.go 1 (ds := []) rfl ?_
  simp only [sx, ty, Bool.false_eq_true, Int.reduceEq, Int.reduceLT, Nat.reduceAdd, Nat.reduceSub, Nat.reduceMul, Nat.reduceLT, Nat.reduceLeDiff, Nat.reduceEqDiff, List.reduceReplicate, reduceIte, beq_self_eq_true, bne_self_eq_false, Int.reduceBEq, Int.reduceBNe]
  with_reducible refine WO.nil ?_
  refine hK4 _ ?_; clear hK4
  refine W.cond rfl rfl (fun hc => ?_) (fun hc => ?_)
  · skip
    refine W.pure (ds := []) rfl fun K5 hK5 => ?_
    simp only [sx, ty, Bool.false_eq_true, Int.reduceEq, Int.reduceLT, Nat.reduceAdd, Nat.reduceSub, Nat.reduceMul, Nat.reduceLT, Nat.reduceLeDiff, Nat.reduceEqDiff, List.reduceReplicate, reduceIte, beq_self_eq_true, bne_self_eq_false, Int.reduceBEq, Int.reduceBNe]; with_reducible refine hK5 _ ?_; clear hK5
    refine W.ret ⟨by simp, _, rfl, fun ρ w1 hb => ?_⟩
    rfl
  · skip
    refine W.skip (hK3 _ ?_)
    refine W.seqK fun K6 hK6 => W.region ?_
    refine WO.go 3 (ds := []) rfl ?_
    simp only [sx, ty, Bool.false_eq_true, Int.reduceEq, Int.reduceLT, Nat.reduceAdd, Nat.reduceSub, Nat.reduceMul, Nat.reduceLT, Nat.reduceLeDiff, Nat.reduceEqDiff, List.reduceReplicate, reduceIte, beq_self_eq_true, bne_self_eq_false, Int.reduceBEq, Int.reduceBNe]
    refine WO.callM (fun x : Option Addr × Nat => .tuple #[.slice x.1 (costsR ds cs hall).1.length x.2, .int .i64 (costsR ds cs hall).2]) (fun lo x s => rRows.rd (fun b => lo ≤ b) s [.slice x.1 (costsR ds cs hall).1.length x.2] (costsR ds cs hall).1) (ds := []) rfl rfl rfl rfl co10 (fun ρ w1 hb => costs_call rfl (Rp.now hl (hb.first (by simp))) (Rp.now hl2 (hb.first (by simp)))) fun x lo hr1s hr1 => ?_
    obtain ⟨hr1p, hr1c⟩ := x
    simp only at hr1
    refine WO.go 5 (ds := []) rfl ?_
    simp only [sx, ty, Bool.false_eq_true, Int.reduceEq, Int.reduceLT, Nat.reduceAdd, Nat.reduceSub, Nat.reduceMul, Nat.reduceLT, Nat.reduceLeDiff, Nat.reduceEqDiff, List.reduceReplicate, reduceIte, beq_self_eq_true, bne_self_eq_false, Int.reduceBEq, Int.reduceBNe]
    with_reducible refine WO.nil ?_
    refine hK6 _ ?_; clear hK6
    refine W.seqK fun K7 hK7 => W.region ?_
    refine WO.go 3 (ds := []) rfl ?_
    simp only [sx, ty, Bool.false_eq_true, Int.reduceEq, Int.reduceLT, Nat.reduceAdd, Nat.reduceSub, Nat.reduceMul, Nat.reduceLT, Nat.reduceLeDiff, Nat.reduceEqDiff, List.reduceReplicate, reduceIte, beq_self_eq_true, bne_self_eq_false, Int.reduceBEq, Int.reduceBNe]
    refine WO.callM (fun x : Option Addr × Nat => .tuple #[.slice x.1 (costsR ds cs hall).1.length x.2, .int .i64 (costsR ds cs hall).2]) (fun lo x s => rRows.rd (fun b => lo ≤ b) s [.slice x.1 (costsR ds cs hall).1.length x.2] (costsR ds cs hall).1) (ds := []) rfl rfl rfl rfl co11 (fun ρ w1 hb => rcosts_call rfl (Rp.now hl (hb.first (by simp))) (Rp.now hl2 (hb.first (by simp)))) fun x lo hr2s hr2 => ?_
    obtain ⟨hr2p, hr2c⟩ := x
    simp only at hr2
    refine WO.go 5 (ds := []) rfl ?_
    simp only [sx, ty, Bool.false_eq_true, Int.reduceEq, Int.reduceLT, Nat.reduceAdd, Nat.reduceSub, Nat.reduceMul, Nat.reduceLT, Nat.reduceLeDiff, Nat.reduceEqDiff, List.reduceReplicate, reduceIte, beq_self_eq_true, bne_self_eq_false, Int.reduceBEq, Int.reduceBNe]
    with_reducible refine WO.nil ?_
    refine hK7 _ ?_; clear hK7
    refine W.seqK fun K8 hK8 => W.region ?_
    refine WO.go 4 (ds := [some 32, some 33, some 34, some 35, some 36, some 37, some 38, some 39, some 40, some 41, some 42, some 43, some 44, some 45, some 46, some 47, some 48, some 49, some 50, some 51, some 6]) rfl ?_
    simp only [sx, ty, Bool.false_eq_true, Int.reduceEq, Int.reduceLT, Nat.reduceAdd, Nat.reduceSub, Nat.reduceMul, Nat.reduceLT, Nat.reduceLeDiff, Nat.reduceEqDiff, List.reduceReplicate, reduceIte, beq_self_eq_true, bne_self_eq_false, Int.reduceBEq, Int.reduceBNe]
    refine WO.call (.bool (valid ds cs)) (ds := [some 32, some 33, some 34, some 35, some 36, some 37, some 38, some 39, some 40, some 41, some 42, some 43, some 44, some 45, some 46, some 47, some 48, some 49, some 50, some 51, some 6]) rfl rfl rfl rfl co12 (fun ρ w1 hb => valid_spec (Rp.now hl (hb.first (by simp))) (Rp.now hl2 (hb.first (by simp)))) ?_
    refine WO.go 2 (ds := [some 32, some 33, some 34, some 35, some 36, some 37, some 38, some 39, some 40, some 41, some 42, some 43, some 44, some 45, some 46, some 47, some 48, some 49, some 50, some 51, some 6]) rfl ?_
    simp only [sx, ty, Bool.false_eq_true, Int.reduceEq, Int.reduceLT, Nat.reduceAdd, Nat.reduceSub, Nat.reduceMul, Nat.reduceLT, Nat.reduceLeDiff, Nat.reduceEqDiff, List.reduceReplicate, reduceIte, beq_self_eq_true, bne_self_eq_false, Int.reduceBEq, Int.reduceBNe]
    refine WO.call (.bool (valid ds cs)) (ds := [some 32, some 33, some 34, some 35, some 36, some 37, some 38, some 39, some 40, some 41, some 42, some 43, some 44, some 45, some 46, some 47, some 48, some 49, some 50, some 51, some 6]) rfl rfl rfl rfl co13 (fun ρ w1 hb => rvalid_spec (Rp.now hl (hb.first (by simp))) (Rp.now hl2 (hb.first (by simp)))) ?_
    refine WO.go 5 (ds := [some 32, some 33, some 34, some 35, some 36, some 37, some 38, some 39, some 40, some 41, some 42, some 43, some 44, some 45, some 46, some 47, some 48, some 49, some 50, some 51, some 6]) rfl ?_
    simp only [sx, ty, Bool.false_eq_true, Int.reduceEq, Int.reduceLT, Nat.reduceAdd, Nat.reduceSub, Nat.reduceMul, Nat.reduceLT, Nat.reduceLeDiff, Nat.reduceEqDiff, List.reduceReplicate, reduceIte, beq_self_eq_true, bne_self_eq_false, Int.reduceBEq, Int.reduceBNe]
    refine WO.call (.bool true) (ds := [some 32, some 33, some 34, some 35, some 36, some 37, some 38, some 39, some 40, some 41, some 42, some 43, some 44, some 45, some 46, some 47, some 48, some 49, some 50, some 51, some 6]) rfl rfl rfl rfl co14 (fun ρ w1 hb => same_call (Rp.keep hr1 (hb.at (by simp))) (Rp.keep hr2 (hb.at (by simp)))) ?_
    refine WO.go 7 (ds := [some 32, some 33, some 34, some 35, some 36, some 37, some 38, some 39, some 40, some 41, some 42, some 43, some 44, some 45, some 46, some 47, some 48, some 49, some 50, some 51, some 6]) rfl ?_
    simp only [sx, ty, Bool.false_eq_true, Int.reduceEq, Int.reduceLT, Nat.reduceAdd, Nat.reduceSub, Nat.reduceMul, Nat.reduceLT, Nat.reduceLeDiff, Nat.reduceEqDiff, List.reduceReplicate, reduceIte, beq_self_eq_true, bne_self_eq_false, Int.reduceBEq, Int.reduceBNe]
    with_reducible refine WO.nil ?_
    refine hK8 _ ?_; clear hK8
    refine W.ret ⟨by simp, _, rfl, fun ρ w1 hb => ?_⟩
    rfl
end Go.Proofs.Ytblagioibffgcaa
