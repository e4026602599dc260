/-
  Layout: the head of the laws, and the first law: walks.
-/
import Derived.Test.YtpggkomalbbofaaP10
set_option linter.unusedVariables false
set_option linter.unusedSimpArgs false
set_option maxHeartbeats 1000000
namespace Go.Proofs.Ytpggkomalbbofaa
open Go Go.SX Go.RowKit
theorem best_call {S S2 : Nat → Prop} {w : World} {v u : Value} {ws : List Int} {good : List Bool} {wd e : Int} {xs : List Pg} (h : bestF ws good wd = (xs, e)) (hl : rInts.rd S w [v] ws) (hl2 : rBools.rd S2 w [u] good) : Gives Try.prog 11 #[v, u, .int .i64 wd] w fun r w' =>
    ∃ x : Option Addr × Nat, r = .tuple #[.slice x.1 xs.length x.2, .int .i64 e] ∧ rPgs.rd (fun b => w.heap.size ≤ b) w' [.slice x.1 xs.length x.2] xs :=
  (best_spec hl hl2 wd).mono fun r w' _ ⟨x, h1, h2⟩ => by rw [h] at h1 h2; exact ⟨x, h1, h2⟩
theorem rbest_call {S S2 : Nat → Prop} {w : World} {v u : Value} {ws : List Int} {good : List Bool} {wd e : Int} {xs : List Pg} (h : bestF ws good wd = (xs, e)) (hl : rInts.rd S w [v] ws) (hl2 : rBools.rd S2 w [u] good) : Gives Try.prog 12 #[v, u, .int .i64 wd] w fun r w' =>
    ∃ x : Option Addr × Nat, r = .tuple #[.slice x.1 xs.length x.2, .int .i64 e] ∧ rPgs.rd (fun b => w.heap.size ≤ b) w' [.slice x.1 xs.length x.2] xs :=
  (rbest_spec hl hl2 wd).mono fun r w' _ ⟨x, h1, h2⟩ => by rw [h] at h1 h2; exact ⟨x, h1, h2⟩
theorem bad_call {S S2 : Nat → Prop} {w : World} {v u : Value} {l : List Pg} {good : List Bool} {x e : Int} (h : badF l good = (x, e)) (hl : rPgs.rd S w [v] l) (hl2 : rBools.rd S2 w [u] good) : Gives Try.prog 14 #[v, u] w fun r _ => r = .tuple #[.int .i64 x, .int .i64 e] := by
  have := bad_spec hl hl2
  rwa [h] at this
theorem valid_call {S S2 : Nat → Prop} {w : World} {v u : Value} {ws : List Int} {l : List Pg} {wd : Int} {b : Bool} (h : validF ws wd l = b) (hl : rInts.rd S w [v] ws) (hl2 : rPgs.rd S2 w [u] l) : Gives Try.prog 16 #[v, .int .i64 wd, u] w fun r _ => r = .bool b := by
  have := valid_spec hl hl2 wd
  rwa [h] at this
theorem same_call {S S2 : Nat → Prop} {w : World} {v u : Value} {a : List Pg} (hl : rPgs.rd S w [v] a) (hl2 : rPgs.rd S2 w [u] a) : Gives Try.prog 13 #[v, u] w fun r _ => r = .bool true :=
  (same_spec hl hl2).mono fun r w' _ h => by rw [h]; simp
theorem few_l {S : Nat → Prop} {w : World} {z : Value} {l : List Pg} (hl : rPgs.rd S w [z] l) : Gives Try.prog 10 #[.slice none 0 0, .slice none 0 0, z] w fun r _ => r = .bool (decide ((l.length : Int) ≤ 80)) :=
  (few_spec (a := []) (b := []) (S := fun _ => True) (S2 := fun _ => True) (Rp.slice_nil (by omega)) (Rp.slice_nil (by omega)) hl).mono fun r w' _ h => by rw [h]; simp
theorem bools_read {S : Nat → Prop} {w : World} (xs : List Bool) : ∀ i y, xs[i]? = some y → Rp.bool.rd S w (((xs.map Value.bool).drop (i * Rp.bool.sz)).take Rp.bool.sz) y := fun i y hy => by
  have h : i < xs.length := (List.getElem?_eq_some_iff.1 hy).1
  show ((xs.map Value.bool).drop (i * 1)).take 1 = [.bool y]
  rw [Nat.mul_one, List.drop_eq_getElem_cons (by simpa using h), List.take_succ_cons, List.take_zero]
  simp only [List.getElem_map, List.cons.injEq, and_true, Value.bool.injEq]
  rw [List.getElem?_eq_getElem h] at hy
  exact Option.some.inj hy
abbrev hW : List Int := [2, 2, 2, 2, 2]
abbrev hG1 : List Bool := [true, true, true, true, true]
abbrev hG2 : List Bool := [true, true, false, true, true]
abbrev hA : List Pg := [(0, 2), (2, 4), (4, 5)]
abbrev hB : List Pg := [(0, 1), (1, 3), (3, 5)]
theorem h_b1 : bestF hW hG1 4 = (hA, 0) := by decide +kernel
theorem h_b2 : bestF hW hG2 4 = (hB, 0) := by decide +kernel
theorem h_b3 : bestF [5] [true] 4 = ([], 3) := by decide +kernel
theorem h_b4 : bestF [5] [] 8 = ([], 1) := by decide +kernel
theorem h_m1 : badF hA hG2 = (1, 0) := by decide +kernel
theorem h_m2 : badF hB hG2 = (0, 0) := by decide +kernel
theorem h_v1 : validF hW 4 hA = true := by decide +kernel
theorem h_v2 : validF hW 3 hA = false := by decide +kernel
/-- function 9 -/
theorem head_spec (w : World) : Gives Try.prog 9 #[] w fun r _ => r = .bool true := by
  refine gives_of [] 110 [.tmp 0] Try.func9 rfl rfl rfl (by simp) rfl rfl ?_
  refine W.pure (ds := []) rfl fun K1 hK1 => ?_
  simp only [sx, ty, Bool.false_eq_true, Int.reduceEq, Int.reduceLT, Nat.reduceAdd, Nat.reduceSub, Nat.reduceMul, Nat.reduceLT, Nat.reduceLeDiff, Nat.reduceEqDiff, List.reduceReplicate, reduceIte, beq_self_eq_true, bne_self_eq_false, Int.reduceBEq, Int.reduceBNe, Bool.or_false, Bool.false_or, Bool.not_false, Bool.not_true]; with_reducible refine hK1 _ ?_; clear hK1
  refine W.pure (ds := []) rfl fun K2 hK2 => ?_
  simp only [sx, ty, Bool.false_eq_true, Int.reduceEq, Int.reduceLT, Nat.reduceAdd, Nat.reduceSub, Nat.reduceMul, Nat.reduceLT, Nat.reduceLeDiff, Nat.reduceEqDiff, List.reduceReplicate, reduceIte, beq_self_eq_true, bne_self_eq_false, Int.reduceBEq, Int.reduceBNe, Bool.or_false, Bool.false_or, Bool.not_false, Bool.not_true]; with_reducible refine hK2 _ ?_; clear hK2
  refine W.seqK fun K3 hK3 => W.region ?_
  refine WO.go 2 (ds := []) rfl ?_
  simp only [sx, ty, Bool.false_eq_true, Int.reduceEq, Int.reduceLT, Nat.reduceAdd, Nat.reduceSub, Nat.reduceMul, Nat.reduceLT, Nat.reduceLeDiff, Nat.reduceEqDiff, List.reduceReplicate, reduceIte, beq_self_eq_true, bne_self_eq_false, Int.reduceBEq, Int.reduceBNe, Bool.or_false, Bool.false_or, Bool.not_false, Bool.not_true]
  refine WO.callM (fun x : Option Addr × Nat => .tuple #[.slice x.1 3 x.2, .int .i64 0]) (fun lo x s9 => rPgs.rd (fun b => lo ≤ b) s9 [.slice x.1 3 x.2] hA) (ds := []) rfl rfl rfl rfl co11 (fun ρ w1 hb => best_call h_b1 (own_listS (S := fun _ => True) (A := rInt) (k := 0) (xs := hW) hb rfl rfl (by omega) (by omega) trivial (ints_read hW)) (own_listS (S := fun _ => True) (A := Rp.bool) (k := 1) (xs := hG1) hb rfl rfl (by omega) (by omega) trivial (bools_read hG1))) fun x lo hr1s hr1 => ?_
  obtain ⟨hr1p, hr1c⟩ := x
  simp only at hr1
  refine WO.go 5 (ds := []) rfl ?_
  simp only [sx, ty, Bool.false_eq_true, Int.reduceEq, Int.reduceLT, Nat.reduceAdd, Nat.reduceSub, Nat.reduceMul, Nat.reduceLT, Nat.reduceLeDiff, Nat.reduceEqDiff, List.reduceReplicate, reduceIte, beq_self_eq_true, bne_self_eq_false, Int.reduceBEq, Int.reduceBNe, Bool.or_false, Bool.false_or, Bool.not_false, Bool.not_true]
  with_reducible refine WO.nil ?_
  refine hK3 _ ?_; clear hK3
  refine W.seqK fun K4 hK4 => W.region ?_
  refine WO.go 2 (ds := []) rfl ?_
  simp only [sx, ty, Bool.false_eq_true, Int.reduceEq, Int.reduceLT, Nat.reduceAdd, Nat.reduceSub, Nat.reduceMul, Nat.reduceLT, Nat.reduceLeDiff, Nat.reduceEqDiff, List.reduceReplicate, reduceIte, beq_self_eq_true, bne_self_eq_false, Int.reduceBEq, Int.reduceBNe, Bool.or_false, Bool.false_or, Bool.not_false, Bool.not_true]
  refine WO.callM (fun x : Option Addr × Nat => .tuple #[.slice x.1 3 x.2, .int .i64 0]) (fun lo x s9 => rPgs.rd (fun b => lo ≤ b) s9 [.slice x.1 3 x.2] hB) (ds := []) rfl rfl rfl rfl co11 (fun ρ w1 hb => best_call h_b2 (own_listS (S := fun _ => True) (A := rInt) (k := 0) (xs := hW) hb rfl rfl (by omega) (by omega) trivial (ints_read hW)) (own_listS (S := fun _ => True) (A := Rp.bool) (k := 2) (xs := hG2) hb rfl rfl (by omega) (by omega) trivial (bools_read hG2))) fun x lo hr2s hr2 => ?_
  obtain ⟨hr2p, hr2c⟩ := x
  simp only at hr2
  refine WO.go 5 (ds := []) rfl ?_
  simp only [sx, ty, Bool.false_eq_true, Int.reduceEq, Int.reduceLT, Nat.reduceAdd, Nat.reduceSub, Nat.reduceMul, Nat.reduceLT, Nat.reduceLeDiff, Nat.reduceEqDiff, List.reduceReplicate, reduceIte, beq_self_eq_true, bne_self_eq_false, Int.reduceBEq, Int.reduceBNe, Bool.or_false, Bool.false_or, Bool.not_false, Bool.not_true]
  with_reducible refine WO.nil ?_
  refine hK4 _ ?_; clear hK4
  refine W.seqK fun K5 hK5 => W.region ?_
  refine WO.go 2 (ds := []) rfl ?_
  simp only [sx, ty, Bool.false_eq_true, Int.reduceEq, Int.reduceLT, Nat.reduceAdd, Nat.reduceSub, Nat.reduceMul, Nat.reduceLT, Nat.reduceLeDiff, Nat.reduceEqDiff, List.reduceReplicate, reduceIte, beq_self_eq_true, bne_self_eq_false, Int.reduceBEq, Int.reduceBNe, Bool.or_false, Bool.false_or, Bool.not_false, Bool.not_true]
  refine WO.call (.tuple #[.int .i64 1, .int .i64 0]) (ds := []) rfl rfl rfl rfl co14 (fun ρ w1 hb => bad_call h_m1 (Rp.keep hr1 (hb.at (by simp))) (own_listS (S := fun _ => True) (A := Rp.bool) (k := 3) (xs := hG2) hb rfl rfl (by omega) (by omega) trivial (bools_read hG2))) ?_
  refine WO.go 5 (ds := []) rfl ?_
  simp only [sx, ty, Bool.false_eq_true, Int.reduceEq, Int.reduceLT, Nat.reduceAdd, Nat.reduceSub, Nat.reduceMul, Nat.reduceLT, Nat.reduceLeDiff, Nat.reduceEqDiff, List.reduceReplicate, reduceIte, beq_self_eq_true, bne_self_eq_false, Int.reduceBEq, Int.reduceBNe, Bool.or_false, Bool.false_or, Bool.not_false, Bool.not_true]
  with_reducible refine WO.nil ?_
  refine hK5 _ ?_; clear hK5
  refine W.seqK fun K6 hK6 => W.region ?_
  refine WO.go 2 (ds := []) rfl ?_
  simp only [sx, ty, Bool.false_eq_true, Int.reduceEq, Int.reduceLT, Nat.reduceAdd, Nat.reduceSub, Nat.reduceMul, Nat.reduceLT, Nat.reduceLeDiff, Nat.reduceEqDiff, List.reduceReplicate, reduceIte, beq_self_eq_true, bne_self_eq_false, Int.reduceBEq, Int.reduceBNe, Bool.or_false, Bool.false_or, Bool.not_false, Bool.not_true]
  refine WO.call (.tuple #[.int .i64 0, .int .i64 0]) (ds := []) rfl rfl rfl rfl co14 (fun ρ w1 hb => bad_call h_m2 (Rp.keep hr2 (hb.at (by simp))) (own_listS (S := fun _ => True) (A := Rp.bool) (k := 4) (xs := hG2) hb rfl rfl (by omega) (by omega) trivial (bools_read hG2))) ?_
  refine WO.go 5 (ds := []) rfl ?_
  simp only [sx, ty, Bool.false_eq_true, Int.reduceEq, Int.reduceLT, Nat.reduceAdd, Nat.reduceSub, Nat.reduceMul, Nat.reduceLT, Nat.reduceLeDiff, Nat.reduceEqDiff, List.reduceReplicate, reduceIte, beq_self_eq_true, bne_self_eq_false, Int.reduceBEq, Int.reduceBNe, Bool.or_false, Bool.false_or, Bool.not_false, Bool.not_true]
  with_reducible refine WO.nil ?_
  refine hK6 _ ?_; clear hK6
  refine W.seqK fun K7 hK7 => W.region ?_
  refine WO.go 2 (ds := []) rfl ?_
  simp only [sx, ty, Bool.false_eq_true, Int.reduceEq, Int.reduceLT, Nat.reduceAdd, Nat.reduceSub, Nat.reduceMul, Nat.reduceLT, Nat.reduceLeDiff, Nat.reduceEqDiff, List.reduceReplicate, reduceIte, beq_self_eq_true, bne_self_eq_false, Int.reduceBEq, Int.reduceBNe, Bool.or_false, Bool.false_or, Bool.not_false, Bool.not_true]
  refine WO.callM (fun x : Option Addr × Nat => .tuple #[.slice x.1 0 x.2, .int .i64 3]) (fun lo x s9 => rPgs.rd (fun b => lo ≤ b) s9 [.slice x.1 0 x.2] ([] : List Pg)) (ds := []) rfl rfl rfl rfl co11 (fun ρ w1 hb => best_call h_b3 (own_listS (S := fun _ => True) (A := rInt) (k := 5) (xs := [5]) hb rfl rfl (by omega) (by omega) trivial (ints_read [5])) (own_listS (S := fun _ => True) (A := Rp.bool) (k := 6) (xs := [true]) hb rfl rfl (by omega) (by omega) trivial (bools_read [true]))) fun x lo hr3s hr3 => ?_
  obtain ⟨hr3p, hr3c⟩ := x
  simp only at hr3
  refine WO.go 5 (ds := []) rfl ?_
  simp only [sx, ty, Bool.false_eq_true, Int.reduceEq, Int.reduceLT, Nat.reduceAdd, Nat.reduceSub, Nat.reduceMul, Nat.reduceLT, Nat.reduceLeDiff, Nat.reduceEqDiff, List.reduceReplicate, reduceIte, beq_self_eq_true, bne_self_eq_false, Int.reduceBEq, Int.reduceBNe, Bool.or_false, Bool.false_or, Bool.not_false, Bool.not_true]
  with_reducible refine WO.nil ?_
  refine hK7 _ ?_; clear hK7
  refine W.seqK fun K8 hK8 => W.region ?_
  refine WO.go 1 (ds := []) rfl ?_
  simp only [sx, ty, Bool.false_eq_true, Int.reduceEq, Int.reduceLT, Nat.reduceAdd, Nat.reduceSub, Nat.reduceMul, Nat.reduceLT, Nat.reduceLeDiff, Nat.reduceEqDiff, List.reduceReplicate, reduceIte, beq_self_eq_true, bne_self_eq_false, Int.reduceBEq, Int.reduceBNe, Bool.or_false, Bool.false_or, Bool.not_false, Bool.not_true]
  refine WO.callM (fun x : Option Addr × Nat => .tuple #[.slice x.1 0 x.2, .int .i64 1]) (fun lo x s9 => rPgs.rd (fun b => lo ≤ b) s9 [.slice x.1 0 x.2] ([] : List Pg)) (ds := []) rfl rfl rfl rfl co11 (fun ρ w1 hb => best_call h_b4 (own_listS (S := fun _ => True) (A := rInt) (k := 7) (xs := [5]) hb rfl rfl (by omega) (by omega) trivial (ints_read [5])) (Rp.slice_nil (S := fun _ => True) (by omega))) fun x lo hr4s hr4 => ?_
  obtain ⟨hr4p, hr4c⟩ := x
  simp only at hr4
  refine WO.go 5 (ds := []) rfl ?_
  simp only [sx, ty, Bool.false_eq_true, Int.reduceEq, Int.reduceLT, Nat.reduceAdd, Nat.reduceSub, Nat.reduceMul, Nat.reduceLT, Nat.reduceLeDiff, Nat.reduceEqDiff, List.reduceReplicate, reduceIte, beq_self_eq_true, bne_self_eq_false, Int.reduceBEq, Int.reduceBNe, Bool.or_false, Bool.false_or, Bool.not_false, Bool.not_true]
  with_reducible refine WO.nil ?_
  refine hK8 _ ?_; clear hK8
  refine W.seqK fun K9 hK9 => W.region ?_
  refine WO.go 23 (ds := [some 51, some 52, some 53, some 54, some 55, some 56, some 57, some 58, some 59, some 60, some 61, some 62, some 63, some 64, some 65, some 66, some 67, some 68, some 69, some 70, some 71, some 72, some 14]) rfl ?_
  simp only [sx, ty, Bool.false_eq_true, Int.reduceEq, Int.reduceLT, Nat.reduceAdd, Nat.reduceSub, Nat.reduceMul, Nat.reduceLT, Nat.reduceLeDiff, Nat.reduceEqDiff, List.reduceReplicate, reduceIte, beq_self_eq_true, bne_self_eq_false, Int.reduceBEq, Int.reduceBNe, Bool.or_false, Bool.false_or, Bool.not_false, Bool.not_true]
  with_reducible refine WO.nil ?_
  refine hK9 _ ?_; clear hK9
  refine W.seqK fun K10 hK10 => W.region ?_
  refine WO.go 7 (ds := [some 73, some 74, some 75, some 76, some 77, some 78, some 79, some 80, some 81, some 82, some 83, some 84, some 85, some 86, some 87, some 88, some 89, some 14]) rfl ?_
  simp only [sx, ty, Bool.false_eq_true, Int.reduceEq, Int.reduceLT, Nat.reduceAdd, Nat.reduceSub, Nat.reduceMul, Nat.reduceLT, Nat.reduceLeDiff, Nat.reduceEqDiff, List.reduceReplicate, reduceIte, beq_self_eq_true, bne_self_eq_false, Int.reduceBEq, Int.reduceBNe, Bool.or_false, Bool.false_or, Bool.not_false, Bool.not_true]
  refine WO.call (.bool true) (ds := [some 73, some 74, some 75, some 76, some 77, some 78, some 79, some 80, some 81, some 82, some 83, some 84, some 85, some 86, some 87, some 88, some 89, some 14]) rfl rfl rfl rfl co13 (fun ρ w1 hb => same_call (Rp.keep hr1 (hb.at (by simp))) (own_listS (S := fun _ => True) (A := rPg) (k := 8) (xs := hA) hb rfl rfl (by omega) (by omega) trivial (pgs_read hA))) ?_
  refine WO.go 10 (ds := [some 73, some 74, some 75, some 76, some 77, some 78, some 79, some 80, some 81, some 82, some 83, some 84, some 85, some 86, some 87, some 88, some 89, some 14]) rfl ?_
  simp only [sx, ty, Bool.false_eq_true, Int.reduceEq, Int.reduceLT, Nat.reduceAdd, Nat.reduceSub, Nat.reduceMul, Nat.reduceLT, Nat.reduceLeDiff, Nat.reduceEqDiff, List.reduceReplicate, reduceIte, beq_self_eq_true, bne_self_eq_false, Int.reduceBEq, Int.reduceBNe, Bool.or_false, Bool.false_or, Bool.not_false, Bool.not_true]
  with_reducible refine WO.nil ?_
  refine hK10 _ ?_; clear hK10
  refine W.seqK fun K11 hK11 => W.region ?_
  refine WO.go 7 (ds := [some 90, some 91, some 92, some 93, some 94, some 95, some 96, some 97, some 98, some 99, some 100, some 101, some 102, some 103, some 104, some 105, some 106, some 107, some 108, some 109, some 0]) rfl ?_
  simp only [sx, ty, Bool.false_eq_true, Int.reduceEq, Int.reduceLT, Nat.reduceAdd, Nat.reduceSub, Nat.reduceMul, Nat.reduceLT, Nat.reduceLeDiff, Nat.reduceEqDiff, List.reduceReplicate, reduceIte, beq_self_eq_true, bne_self_eq_false, Int.reduceBEq, Int.reduceBNe, Bool.or_false, Bool.false_or, Bool.not_false, Bool.not_true]
  refine WO.call (.bool true) (ds := [some 90, some 91, some 92, some 93, some 94, some 95, some 96, some 97, some 98, some 99, some 100, some 101, some 102, some 103, some 104, some 105, some 106, some 107, some 108, some 109, some 0]) rfl rfl rfl rfl co13 (fun ρ w1 hb => same_call (Rp.keep hr2 (hb.at (by simp))) (own_listS (S := fun _ => True) (A := rPg) (k := 9) (xs := hB) hb rfl rfl (by omega) (by omega) trivial (pgs_read hB))) ?_
  refine WO.go 4 (ds := [some 90, some 91, some 92, some 93, some 94, some 95, some 96, some 97, some 98, some 99, some 100, some 101, some 102, some 103, some 104, some 105, some 106, some 107, some 108, some 109, some 0]) rfl ?_
  simp only [sx, ty, Bool.false_eq_true, Int.reduceEq, Int.reduceLT, Nat.reduceAdd, Nat.reduceSub, Nat.reduceMul, Nat.reduceLT, Nat.reduceLeDiff, Nat.reduceEqDiff, List.reduceReplicate, reduceIte, beq_self_eq_true, bne_self_eq_false, Int.reduceBEq, Int.reduceBNe, Bool.or_false, Bool.false_or, Bool.not_false, Bool.not_true]
  refine WO.call (.bool true) (ds := [some 90, some 91, some 92, some 93, some 94, some 95, some 96, some 97, some 98, some 99, some 100, some 101, some 102, some 103, some 104, some 105, some 106, some 107, some 108, some 109, some 0]) rfl rfl rfl rfl co16 (fun ρ w1 hb => valid_call h_v1 (own_listS (S := fun _ => True) (A := rInt) (k := 0) (xs := hW) hb rfl rfl (by omega) (by omega) trivial (ints_read hW)) (Rp.keep hr1 (hb.at (by simp)))) ?_
  refine WO.go 4 (ds := [some 90, some 91, some 92, some 93, some 94, some 95, some 96, some 97, some 98, some 99, some 100, some 101, some 102, some 103, some 104, some 105, some 106, some 107, some 108, some 109, some 0]) rfl ?_
  simp only [sx, ty, Bool.false_eq_true, Int.reduceEq, Int.reduceLT, Nat.reduceAdd, Nat.reduceSub, Nat.reduceMul, Nat.reduceLT, Nat.reduceLeDiff, Nat.reduceEqDiff, List.reduceReplicate, reduceIte, beq_self_eq_true, bne_self_eq_false, Int.reduceBEq, Int.reduceBNe, Bool.or_false, Bool.false_or, Bool.not_false, Bool.not_true]
  refine WO.call (.bool false) (ds := [some 90, some 91, some 92, some 93, some 94, some 95, some 96, some 97, some 98, some 99, some 100, some 101, some 102, some 103, some 104, some 105, some 106, some 107, some 108, some 109, some 0]) rfl rfl rfl rfl co16 (fun ρ w1 hb => valid_call h_v2 (own_listS (S := fun _ => True) (A := rInt) (k := 0) (xs := hW) hb rfl rfl (by omega) (by omega) trivial (ints_read hW)) (Rp.keep hr1 (hb.at (by simp)))) ?_
  refine WO.go 3 (ds := [some 90, some 91, some 92, some 93, some 94, some 95, some 96, some 97, some 98, some 99, some 100, some 101, some 102, some 103, some 104, some 105, some 106, some 107, some 108, some 109, some 0]) rfl ?_
  simp only [sx, ty, Bool.false_eq_true, Int.reduceEq, Int.reduceLT, Nat.reduceAdd, Nat.reduceSub, Nat.reduceMul, Nat.reduceLT, Nat.reduceLeDiff, Nat.reduceEqDiff, List.reduceReplicate, reduceIte, beq_self_eq_true, bne_self_eq_false, Int.reduceBEq, Int.reduceBNe, Bool.or_false, Bool.false_or, Bool.not_false, Bool.not_true]
  with_reducible refine WO.nil ?_
  refine hK11 _ ?_; clear hK11
  refine W.ret ⟨by simp, _, rfl, fun ρ w1 hb => ?_⟩
  rfl
/-- function 3 -/
theorem law1 {S S2 S3 : Nat → Prop} {w : World} {v u z : Value} {ws : List Int} {good : List Bool} {l : List Pg} (hl : rInts.rd S w [v] ws) (hl2 : rBools.rd S2 w [u] good) (wd : Int) (hl3 : rPgs.rd S3 w [z] l) : Gives Try.prog 3 #[v, u, .int .i64 wd, z] w fun r _ => r = .bool true := by
  obtain ⟨p, c, rfl, hc1, hc2⟩ := Rp.slice_val hl
  obtain ⟨p2, c2, rfl, hc3, hc4⟩ := Rp.slice_val hl2
  obtain ⟨p3, c3, rfl, hc5, hc6⟩ := Rp.slice_val hl3
  have hl : (Rp.slice rInt).rd (fun _ => True) w _ ws := Rp.any hl
  have hl2 : (Rp.slice Rp.bool).rd (fun _ => True) w _ good := Rp.any hl2
  have hl3 : (Rp.slice rPg).rd (fun _ => True) w _ l := Rp.any hl3
  refine gives_of [.val (.slice p ws.length c), .val (.slice p2 good.length c2), .val (.int .i64 wd), .val (.slice p3 l.length c3)] 100 [.tmp 8] Try.func3 rfl rfl rfl (by simp) rfl rfl ?_
  refine W.pure (ds := []) rfl fun K1 hK1 => ?_
  simp only [sx, ty, Bool.false_eq_true, Int.reduceEq, Int.reduceLT, Nat.reduceAdd, Nat.reduceSub, Nat.reduceMul, Nat.reduceLT, Nat.reduceLeDiff, Nat.reduceEqDiff, List.reduceReplicate, reduceIte, beq_self_eq_true, bne_self_eq_false, Int.reduceBEq, Int.reduceBNe, Bool.or_false, Bool.false_or, Bool.not_false, Bool.not_true]; with_reducible refine hK1 _ ?_; clear hK1
  refine W.seqK fun K2 hK2 => W.region ?_
  refine WO.call (.bool true) (ds := []) rfl rfl rfl rfl co9 (fun ρ w1 hb => head_spec w1) ?_
  refine WO.go 1 (ds := []) rfl ?_
  simp only [sx, ty, Bool.false_eq_true, Int.reduceEq, Int.reduceLT, Nat.reduceAdd, Nat.reduceSub, Nat.reduceMul, Nat.reduceLT, Nat.reduceLeDiff, Nat.reduceEqDiff, List.reduceReplicate, reduceIte, beq_self_eq_true, bne_self_eq_false, Int.reduceBEq, Int.reduceBNe, Bool.or_false, Bool.false_or, Bool.not_false, Bool.not_true]
  with_reducible refine WO.nil ?_
  refine hK2 _ ?_; clear hK2
  refine W.seqK fun K3 hK3 => ?_
  refine W.join 39 (.val (.bool (!decide ((l.length : Int) ≤ 80) || ((decide (60 < (ws.length : Int)) && decide ((ws.length : Int) ≤ 4000)) || (decide (60 < (good.length : Int)) && decide ((good.length : Int) ≤ 4000)))))) [0, 1, 2, 3, 9] (W.region ?_) ?_
  · skip
    refine WO.go 1 (ds := [some 17, some 18, some 19, some 20, some 21, some 22, some 23, some 24, some 25, some 26, some 27, some 28, some 29, some 30, some 31, some 32, some 33, some 34, some 35, some 36, some 37, some 38, some 39]) rfl ?_
    simp only [sx, ty, Bool.false_eq_true, Int.reduceEq, Int.reduceLT, Nat.reduceAdd, Nat.reduceSub, Nat.reduceMul, Nat.reduceLT, Nat.reduceLeDiff, Nat.reduceEqDiff, List.reduceReplicate, reduceIte, beq_self_eq_true, bne_self_eq_false, Int.reduceBEq, Int.reduceBNe, Bool.or_false, Bool.false_or, Bool.not_false, Bool.not_true]
    refine WO.call (.bool (decide ((l.length : Int) ≤ 80))) (ds := [some 17, some 18, some 19, some 20, some 21, some 22, some 23, some 24, some 25, some 26, some 27, some 28, some 29, some 30, some 31, some 32, some 33, some 34, some 35, some 36, some 37, some 38, some 39]) rfl rfl rfl rfl co10 (fun ρ w1 hb => few_l (Rp.now hl3 (hb.first (by simp)))) ?_
    refine WO.go 2 (ds := [some 17, some 18, some 19, some 20, some 21, some 22, some 23, some 24, some 25, some 26, some 27, some 28, some 29, some 30, some 31, some 32, some 33, some 34, some 35, some 36, some 37, some 38, some 39]) rfl ?_
    simp only [sx, ty, Bool.false_eq_true, Int.reduceEq, Int.reduceLT, Nat.reduceAdd, Nat.reduceSub, Nat.reduceMul, Nat.reduceLT, Nat.reduceLeDiff, Nat.reduceEqDiff, List.reduceReplicate, reduceIte, beq_self_eq_true, bne_self_eq_false, Int.reduceBEq, Int.reduceBNe, Bool.or_false, Bool.false_or, Bool.not_false, Bool.not_true]
    refine WO.cases 20 _ rfl (fun hg20 => ?_) (fun hg20 => ?_)
    · skip
      refine WO.go 19 (ds := [some 17, some 18, some 19, some 20, some 21, some 22, some 23, some 24, some 25, some 26, some 27, some 28, some 29, some 30, some 31, some 32, some 33, some 34, some 35, some 36, some 37, some 38, some 39]) rfl ?_
      simp only [sx, ty, Bool.false_eq_true, Int.reduceEq, Int.reduceLT, Nat.reduceAdd, Nat.reduceSub, Nat.reduceMul, Nat.reduceLT, Nat.reduceLeDiff, Nat.reduceEqDiff, List.reduceReplicate, reduceIte, beq_self_eq_true, bne_self_eq_false, Int.reduceBEq, Int.reduceBNe, Bool.or_false, Bool.false_or, Bool.not_false, Bool.not_true]
      with_reducible refine WO.nil ?_
      refine ⟨rfl, ?_, ⟨_, rfl⟩, by simp [Own.bnd, bndL, bnd, boxO], by simp⟩
      try rw [hg20]
      try rw [hg24]
      try rw [hg30]
      try rw [hg34]
      simp [getE, bnd, keepE]
      try simp_all
    · skip
      refine WO.go 4 (ds := [some 17, some 18, some 19, some 20, some 21, some 22, some 23, some 24, some 25, some 26, some 27, some 28, some 29, some 30, some 31, some 32, some 33, some 34, some 35, some 36, some 37, some 38, some 39]) rfl ?_
      simp only [sx, ty, Bool.false_eq_true, Int.reduceEq, Int.reduceLT, Nat.reduceAdd, Nat.reduceSub, Nat.reduceMul, Nat.reduceLT, Nat.reduceLeDiff, Nat.reduceEqDiff, List.reduceReplicate, reduceIte, beq_self_eq_true, bne_self_eq_false, Int.reduceBEq, Int.reduceBNe, Bool.or_false, Bool.false_or, Bool.not_false, Bool.not_true]
      refine WO.cases 24 _ rfl (fun hg24 => ?_) (fun hg24 => ?_)
      · skip
        refine WO.go 6 (ds := [some 17, some 18, some 19, some 20, some 21, some 22, some 23, some 24, some 25, some 26, some 27, some 28, some 29, some 30, some 31, some 32, some 33, some 34, some 35, some 36, some 37, some 38, some 39]) rfl ?_
        simp only [sx, ty, Bool.false_eq_true, Int.reduceEq, Int.reduceLT, Nat.reduceAdd, Nat.reduceSub, Nat.reduceMul, Nat.reduceLT, Nat.reduceLeDiff, Nat.reduceEqDiff, List.reduceReplicate, reduceIte, beq_self_eq_true, bne_self_eq_false, Int.reduceBEq, Int.reduceBNe, Bool.or_false, Bool.false_or, Bool.not_false, Bool.not_true]
        refine WO.cases 30 _ rfl (fun hg30 => ?_) (fun hg30 => ?_)
        · skip
          refine WO.go 9 (ds := [some 17, some 18, some 19, some 20, some 21, some 22, some 23, some 24, some 25, some 26, some 27, some 28, some 29, some 30, some 31, some 32, some 33, some 34, some 35, some 36, some 37, some 38, some 39]) rfl ?_
          simp only [sx, ty, Bool.false_eq_true, Int.reduceEq, Int.reduceLT, Nat.reduceAdd, Nat.reduceSub, Nat.reduceMul, Nat.reduceLT, Nat.reduceLeDiff, Nat.reduceEqDiff, List.reduceReplicate, reduceIte, beq_self_eq_true, bne_self_eq_false, Int.reduceBEq, Int.reduceBNe, Bool.or_false, Bool.false_or, Bool.not_false, Bool.not_true]
          with_reducible refine WO.nil ?_
          refine ⟨rfl, ?_, ⟨_, rfl⟩, by simp [Own.bnd, bndL, bnd, boxO], by simp⟩
          try rw [hg20]
          try rw [hg24]
          try rw [hg30]
          try rw [hg34]
          simp [getE, bnd, keepE]
          try simp_all
        · skip
          refine WO.go 4 (ds := [some 17, some 18, some 19, some 20, some 21, some 22, some 23, some 24, some 25, some 26, some 27, some 28, some 29, some 30, some 31, some 32, some 33, some 34, some 35, some 36, some 37, some 38, some 39]) rfl ?_
          simp only [sx, ty, Bool.false_eq_true, Int.reduceEq, Int.reduceLT, Nat.reduceAdd, Nat.reduceSub, Nat.reduceMul, Nat.reduceLT, Nat.reduceLeDiff, Nat.reduceEqDiff, List.reduceReplicate, reduceIte, beq_self_eq_true, bne_self_eq_false, Int.reduceBEq, Int.reduceBNe, Bool.or_false, Bool.false_or, Bool.not_false, Bool.not_true]
          refine WO.cases 34 _ rfl (fun hg34 => ?_) (fun hg34 => ?_)
          · skip
            refine WO.go 5 (ds := [some 17, some 18, some 19, some 20, some 21, some 22, some 23, some 24, some 25, some 26, some 27, some 28, some 29, some 30, some 31, some 32, some 33, some 34, some 35, some 36, some 37, some 38, some 39]) rfl ?_
            simp only [sx, ty, Bool.false_eq_true, Int.reduceEq, Int.reduceLT, Nat.reduceAdd, Nat.reduceSub, Nat.reduceMul, Nat.reduceLT, Nat.reduceLeDiff, Nat.reduceEqDiff, List.reduceReplicate, reduceIte, beq_self_eq_true, bne_self_eq_false, Int.reduceBEq, Int.reduceBNe, Bool.or_false, Bool.false_or, Bool.not_false, Bool.not_true]
            with_reducible refine WO.nil ?_
            refine ⟨rfl, ?_, ⟨_, rfl⟩, by simp [Own.bnd, bndL, bnd, boxO], by simp⟩
            try rw [hg20]
            try rw [hg24]
            try rw [hg30]
            try rw [hg34]
            simp [getE, bnd, keepE]
            try simp_all
          · skip
            refine WO.go 5 (ds := [some 17, some 18, some 19, some 20, some 21, some 22, some 23, some 24, some 25, some 26, some 27, some 28, some 29, some 30, some 31, some 32, some 33, some 34, some 35, some 36, some 37, some 38, some 39]) rfl ?_
            simp only [sx, ty, Bool.false_eq_true, Int.reduceEq, Int.reduceLT, Nat.reduceAdd, Nat.reduceSub, Nat.reduceMul, Nat.reduceLT, Nat.reduceLeDiff, Nat.reduceEqDiff, List.reduceReplicate, reduceIte, beq_self_eq_true, bne_self_eq_false, Int.reduceBEq, Int.reduceBNe, Bool.or_false, Bool.false_or, Bool.not_false, Bool.not_true]
            with_reducible refine WO.nil ?_
            refine ⟨rfl, ?_, ⟨_, rfl⟩, by simp [Own.bnd, bndL, bnd, boxO], by simp⟩
            try rw [hg20]
            try rw [hg24]
            try rw [hg30]
            try rw [hg34]
            simp [getE, bnd, keepE]
            try simp_all
      · skip
        refine WO.go 10 (ds := [some 17, some 18, some 19, some 20, some 21, some 22, some 23, some 24, some 25, some 26, some 27, some 28, some 29, some 30, some 31, some 32, some 33, some 34, some 35, some 36, some 37, some 38, some 39]) rfl ?_
        simp only [sx, ty, Bool.false_eq_true, Int.reduceEq, Int.reduceLT, Nat.reduceAdd, Nat.reduceSub, Nat.reduceMul, Nat.reduceLT, Nat.reduceLeDiff, Nat.reduceEqDiff, List.reduceReplicate, reduceIte, beq_self_eq_true, bne_self_eq_false, Int.reduceBEq, Int.reduceBNe, Bool.or_false, Bool.false_or, Bool.not_false, Bool.not_true]
        refine WO.cases 34 _ rfl (fun hg34 => ?_) (fun hg34 => ?_)
        · skip
          refine WO.go 5 (ds := [some 17, some 18, some 19, some 20, some 21, some 22, some 23, some 24, some 25, some 26, some 27, some 28, some 29, some 30, some 31, some 32, some 33, some 34, some 35, some 36, some 37, some 38, some 39]) rfl ?_
          simp only [sx, ty, Bool.false_eq_true, Int.reduceEq, Int.reduceLT, Nat.reduceAdd, Nat.reduceSub, Nat.reduceMul, Nat.reduceLT, Nat.reduceLeDiff, Nat.reduceEqDiff, List.reduceReplicate, reduceIte, beq_self_eq_true, bne_self_eq_false, Int.reduceBEq, Int.reduceBNe, Bool.or_false, Bool.false_or, Bool.not_false, Bool.not_true]
          with_reducible refine WO.nil ?_
          refine ⟨rfl, ?_, ⟨_, rfl⟩, by simp [Own.bnd, bndL, bnd, boxO], by simp⟩
          try rw [hg20]
          try rw [hg24]
          try rw [hg30]
          try rw [hg34]
          simp [getE, bnd, keepE]
          try simp_all
        · skip
          refine WO.go 5 (ds := [some 17, some 18, some 19, some 20, some 21, some 22, some 23, some 24, some 25, some 26, some 27, some 28, some 29, some 30, some 31, some 32, some 33, some 34, some 35, some 36, some 37, some 38, some 39]) rfl ?_
          simp only [sx, ty, Bool.false_eq_true, Int.reduceEq, Int.reduceLT, Nat.reduceAdd, Nat.reduceSub, Nat.reduceMul, Nat.reduceLT, Nat.reduceLeDiff, Nat.reduceEqDiff, List.reduceReplicate, reduceIte, beq_self_eq_true, bne_self_eq_false, Int.reduceBEq, Int.reduceBNe, Bool.or_false, Bool.false_or, Bool.not_false, Bool.not_true]
          with_reducible refine WO.nil ?_
          refine ⟨rfl, ?_, ⟨_, rfl⟩, by simp [Own.bnd, bndL, bnd, boxO], by simp⟩
          try rw [hg20]
          try rw [hg24]
          try rw [hg30]
          try rw [hg34]
          simp [getE, bnd, keepE]
          try simp_all
  · simp only [sx, ty, Bool.false_eq_true, Int.reduceEq, Int.reduceLT, Nat.reduceAdd, Nat.reduceSub, Nat.reduceMul, Nat.reduceLT, Nat.reduceLeDiff, Nat.reduceEqDiff, List.reduceReplicate, reduceIte, sxk, beq_self_eq_true, bne_self_eq_false, Int.reduceBEq, Int.reduceBNe, Bool.or_false, Bool.false_or, Bool.not_false, Bool.not_true]
    refine W.cond rfl rfl (fun hc => ?_) (fun hc => ?_)
    · skip
      refine W.pure (ds := []) rfl fun K5 hK5 => ?_
      simp only [sx, ty, Bool.false_eq_true, Int.reduceEq, Int.reduceLT, Nat.reduceAdd, Nat.reduceSub, Nat.reduceMul, Nat.reduceLT, Nat.reduceLeDiff, Nat.reduceEqDiff, List.reduceReplicate, reduceIte, beq_self_eq_true, bne_self_eq_false, Int.reduceBEq, Int.reduceBNe, Bool.or_false, Bool.false_or, Bool.not_false, Bool.not_true]; with_reducible refine hK5 _ ?_; clear hK5
      refine W.ret ⟨by simp, _, rfl, fun ρ w1 hb => ?_⟩
      rfl
    · skip
      refine W.skip (hK3 _ ?_)
      refine W.seqK fun K6 hK6 => W.region ?_
      refine WO.go 3 (ds := []) rfl ?_
      simp only [sx, ty, Bool.false_eq_true, Int.reduceEq, Int.reduceLT, Nat.reduceAdd, Nat.reduceSub, Nat.reduceMul, Nat.reduceLT, Nat.reduceLeDiff, Nat.reduceEqDiff, List.reduceReplicate, reduceIte, beq_self_eq_true, bne_self_eq_false, Int.reduceBEq, Int.reduceBNe, Bool.or_false, Bool.false_or, Bool.not_false, Bool.not_true]
      refine WO.callM (fun x : Option Addr × Nat => .tuple #[.slice x.1 (bestF ws good wd).1.length x.2, .int .i64 (bestF ws good wd).2]) (fun lo x s9 => rPgs.rd (fun b => lo ≤ b) s9 [.slice x.1 (bestF ws good wd).1.length x.2] (bestF ws good wd).1) (ds := []) rfl rfl rfl rfl co11 (fun ρ w1 hb => best_call rfl (Rp.now hl (hb.first (by simp))) (Rp.now hl2 (hb.first (by simp)))) fun x lo hr1s hr1 => ?_
      obtain ⟨hr1p, hr1c⟩ := x
      simp only at hr1
      refine WO.go 5 (ds := []) rfl ?_
      simp only [sx, ty, Bool.false_eq_true, Int.reduceEq, Int.reduceLT, Nat.reduceAdd, Nat.reduceSub, Nat.reduceMul, Nat.reduceLT, Nat.reduceLeDiff, Nat.reduceEqDiff, List.reduceReplicate, reduceIte, beq_self_eq_true, bne_self_eq_false, Int.reduceBEq, Int.reduceBNe, Bool.or_false, Bool.false_or, Bool.not_false, Bool.not_true]
      with_reducible refine WO.nil ?_
      refine hK6 _ ?_; clear hK6
      refine W.seqK fun K7 hK7 => W.region ?_
      refine WO.go 3 (ds := []) rfl ?_
      simp only [sx, ty, Bool.false_eq_true, Int.reduceEq, Int.reduceLT, Nat.reduceAdd, Nat.reduceSub, Nat.reduceMul, Nat.reduceLT, Nat.reduceLeDiff, Nat.reduceEqDiff, List.reduceReplicate, reduceIte, beq_self_eq_true, bne_self_eq_false, Int.reduceBEq, Int.reduceBNe, Bool.or_false, Bool.false_or, Bool.not_false, Bool.not_true]
      refine WO.callM (fun x : Option Addr × Nat => .tuple #[.slice x.1 (bestF ws good wd).1.length x.2, .int .i64 (bestF ws good wd).2]) (fun lo x s9 => rPgs.rd (fun b => lo ≤ b) s9 [.slice x.1 (bestF ws good wd).1.length x.2] (bestF ws good wd).1) (ds := []) rfl rfl rfl rfl co12 (fun ρ w1 hb => rbest_call rfl (Rp.now hl (hb.first (by simp))) (Rp.now hl2 (hb.first (by simp)))) fun x lo hr2s hr2 => ?_
      obtain ⟨hr2p, hr2c⟩ := x
      simp only at hr2
      refine WO.go 5 (ds := []) rfl ?_
      simp only [sx, ty, Bool.false_eq_true, Int.reduceEq, Int.reduceLT, Nat.reduceAdd, Nat.reduceSub, Nat.reduceMul, Nat.reduceLT, Nat.reduceLeDiff, Nat.reduceEqDiff, List.reduceReplicate, reduceIte, beq_self_eq_true, bne_self_eq_false, Int.reduceBEq, Int.reduceBNe, Bool.or_false, Bool.false_or, Bool.not_false, Bool.not_true]
      with_reducible refine WO.nil ?_
      refine hK7 _ ?_; clear hK7
      refine W.seqK fun K8 hK8 => W.region ?_
      refine WO.go 4 (ds := [some 55, some 56, some 57, some 58, some 59, some 60, some 61, some 62, some 63, some 64, some 65, some 9]) rfl ?_
      simp only [sx, ty, Bool.false_eq_true, Int.reduceEq, Int.reduceLT, Nat.reduceAdd, Nat.reduceSub, Nat.reduceMul, Nat.reduceLT, Nat.reduceLeDiff, Nat.reduceEqDiff, List.reduceReplicate, reduceIte, beq_self_eq_true, bne_self_eq_false, Int.reduceBEq, Int.reduceBNe, Bool.or_false, Bool.false_or, Bool.not_false, Bool.not_true]
      refine WO.call (.bool true) (ds := [some 55, some 56, some 57, some 58, some 59, some 60, some 61, some 62, some 63, some 64, some 65, some 9]) rfl rfl rfl rfl co13 (fun ρ w1 hb => same_call (Rp.keep hr1 (hb.at (by simp))) (Rp.keep hr2 (hb.at (by simp)))) ?_
      refine WO.go 7 (ds := [some 55, some 56, some 57, some 58, some 59, some 60, some 61, some 62, some 63, some 64, some 65, some 9]) rfl ?_
      simp only [sx, ty, Bool.false_eq_true, Int.reduceEq, Int.reduceLT, Nat.reduceAdd, Nat.reduceSub, Nat.reduceMul, Nat.reduceLT, Nat.reduceLeDiff, Nat.reduceEqDiff, List.reduceReplicate, reduceIte, beq_self_eq_true, bne_self_eq_false, Int.reduceBEq, Int.reduceBNe, Bool.or_false, Bool.false_or, Bool.not_false, Bool.not_true]
      with_reducible refine WO.nil ?_
      refine hK8 _ ?_; clear hK8
      refine W.seqK fun K9 hK9 => W.region ?_
      refine WO.go 2 (ds := []) rfl ?_
      simp only [sx, ty, Bool.false_eq_true, Int.reduceEq, Int.reduceLT, Nat.reduceAdd, Nat.reduceSub, Nat.reduceMul, Nat.reduceLT, Nat.reduceLeDiff, Nat.reduceEqDiff, List.reduceReplicate, reduceIte, beq_self_eq_true, bne_self_eq_false, Int.reduceBEq, Int.reduceBNe, Bool.or_false, Bool.false_or, Bool.not_false, Bool.not_true]
      refine WO.call (.tuple #[.int .i64 (badF l good).1, .int .i64 (badF l good).2]) (ds := []) rfl rfl rfl rfl co14 (fun ρ w1 hb => bad_spec (Rp.now hl3 (hb.first (by simp))) (Rp.now hl2 (hb.first (by simp)))) ?_
      refine WO.go 5 (ds := []) rfl ?_
      simp only [sx, ty, Bool.false_eq_true, Int.reduceEq, Int.reduceLT, Nat.reduceAdd, Nat.reduceSub, Nat.reduceMul, Nat.reduceLT, Nat.reduceLeDiff, Nat.reduceEqDiff, List.reduceReplicate, reduceIte, beq_self_eq_true, bne_self_eq_false, Int.reduceBEq, Int.reduceBNe, Bool.or_false, Bool.false_or, Bool.not_false, Bool.not_true]
      with_reducible refine WO.nil ?_
      refine hK9 _ ?_; clear hK9
      refine W.seqK fun K10 hK10 => W.region ?_
      refine WO.go 2 (ds := []) rfl ?_
      simp only [sx, ty, Bool.false_eq_true, Int.reduceEq, Int.reduceLT, Nat.reduceAdd, Nat.reduceSub, Nat.reduceMul, Nat.reduceLT, Nat.reduceLeDiff, Nat.reduceEqDiff, List.reduceReplicate, reduceIte, beq_self_eq_true, bne_self_eq_false, Int.reduceBEq, Int.reduceBNe, Bool.or_false, Bool.false_or, Bool.not_false, Bool.not_true]
      refine WO.call (.tuple #[.int .i64 (badF l good).1, .int .i64 (badF l good).2]) (ds := []) rfl rfl rfl rfl co15 (fun ρ w1 hb => rbad_spec (Rp.now hl3 (hb.first (by simp))) (Rp.now hl2 (hb.first (by simp)))) ?_
      refine WO.go 5 (ds := []) rfl ?_
      simp only [sx, ty, Bool.false_eq_true, Int.reduceEq, Int.reduceLT, Nat.reduceAdd, Nat.reduceSub, Nat.reduceMul, Nat.reduceLT, Nat.reduceLeDiff, Nat.reduceEqDiff, List.reduceReplicate, reduceIte, beq_self_eq_true, bne_self_eq_false, Int.reduceBEq, Int.reduceBNe, Bool.or_false, Bool.false_or, Bool.not_false, Bool.not_true]
      with_reducible refine WO.nil ?_
      refine hK10 _ ?_; clear hK10
      refine W.seqK fun K11 hK11 => W.region ?_
      refine WO.go 15 (ds := [some 78, some 79, some 80, some 81, some 82, some 83, some 84, some 85, some 86, some 87, some 88, some 89, some 90, some 91, some 92, some 93, some 94, some 95, some 96, some 97, some 98, some 99, some 8]) rfl ?_
      simp only [sx, ty, Bool.false_eq_true, Int.reduceEq, Int.reduceLT, Nat.reduceAdd, Nat.reduceSub, Nat.reduceMul, Nat.reduceLT, Nat.reduceLeDiff, Nat.reduceEqDiff, List.reduceReplicate, reduceIte, beq_self_eq_true, bne_self_eq_false, Int.reduceBEq, Int.reduceBNe, Bool.or_false, Bool.false_or, Bool.not_false, Bool.not_true]
      refine WO.call (.bool (validF ws wd l)) (ds := [some 78, some 79, some 80, some 81, some 82, some 83, some 84, some 85, some 86, some 87, some 88, some 89, some 90, some 91, some 92, some 93, some 94, some 95, some 96, some 97, some 98, some 99, some 8]) rfl rfl rfl rfl co16 (fun ρ w1 hb => valid_spec (Rp.now hl (hb.first (by simp))) (Rp.now hl3 (hb.first (by simp))) wd) ?_
      refine WO.go 3 (ds := [some 78, some 79, some 80, some 81, some 82, some 83, some 84, some 85, some 86, some 87, some 88, some 89, some 90, some 91, some 92, some 93, some 94, some 95, some 96, some 97, some 98, some 99, some 8]) rfl ?_
      simp only [sx, ty, Bool.false_eq_true, Int.reduceEq, Int.reduceLT, Nat.reduceAdd, Nat.reduceSub, Nat.reduceMul, Nat.reduceLT, Nat.reduceLeDiff, Nat.reduceEqDiff, List.reduceReplicate, reduceIte, beq_self_eq_true, bne_self_eq_false, Int.reduceBEq, Int.reduceBNe, Bool.or_false, Bool.false_or, Bool.not_false, Bool.not_true]
      refine WO.call (.bool (validF ws wd l)) (ds := [some 78, some 79, some 80, some 81, some 82, some 83, some 84, some 85, some 86, some 87, some 88, some 89, some 90, some 91, some 92, some 93, some 94, some 95, some 96, some 97, some 98, some 99, some 8]) rfl rfl rfl rfl co17 (fun ρ w1 hb => rvalid_spec (Rp.now hl (hb.first (by simp))) (Rp.now hl3 (hb.first (by simp))) wd) ?_
      refine WO.go 3 (ds := [some 78, some 79, some 80, some 81, some 82, some 83, some 84, some 85, some 86, some 87, some 88, some 89, some 90, some 91, some 92, some 93, some 94, some 95, some 96, some 97, some 98, some 99, some 8]) rfl ?_
      simp only [sx, ty, Bool.false_eq_true, Int.reduceEq, Int.reduceLT, Nat.reduceAdd, Nat.reduceSub, Nat.reduceMul, Nat.reduceLT, Nat.reduceLeDiff, Nat.reduceEqDiff, List.reduceReplicate, reduceIte, beq_self_eq_true, bne_self_eq_false, Int.reduceBEq, Int.reduceBNe, Bool.or_false, Bool.false_or, Bool.not_false, Bool.not_true]
      with_reducible refine WO.nil ?_
      refine hK11 _ ?_; clear hK11
      refine W.ret ⟨by simp, _, rfl, fun ρ w1 hb => ?_⟩
      rfl
end Go.Proofs.Ytpggkomalbbofaa
