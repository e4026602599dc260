/-
  Keys: the head of the laws, and the first three laws: walks.
-/
import Derived.Test.YtpkbghnjfjnoiaaDoorK7
set_option linter.unusedVariables false
set_option linter.unusedSimpArgs false
set_option maxHeartbeats 1000000
namespace Go.Proofs.YtpkbghnjfjnoiaaDoor
open Go Go.SX Go.RowKit

theorem Alter_call {w : World} {k s x e : Int} (hG : GS w) (h : AlterF k s = (x, e)) : Gives Tryd.prog 10 #[.int .i64 k, .int .i64 s] w fun r _ => r = .tuple #[.int .i64 x, .int .i64 e] := by
  have := Alter_spec hG k s
  rwa [h] at this
theorem fifths_call {w : World} {a b x e : Int} (h : fifthsF a b = (x, e)) : Gives Tryd.prog 12 #[.agg #[.int .i64 a, .int .i64 b]] w fun r _ => r = .tuple #[.int .i64 x, .int .i64 e] := by
  have := fifths_spec w a b
  rwa [h] at this
theorem move_call {w : World} {k a b x y z e : Int} (h : moveF k a b = (x, y, z, e)) : Gives Tryd.prog 14 #[.int .i64 k, .agg #[.int .i64 a, .int .i64 b]] w fun r _ => r = .tuple #[.int .i64 x, .agg #[.int .i64 y, .int .i64 z], .int .i64 e] := by
  have := move_spec w k a b
  rwa [h] at this
theorem signs_call {S : Nat → Prop} {w : World} {v : Value} {l : List Pit} {k e : Int} {xs : List Int} (hG : GS w) (h : signsF k l = (xs, e)) (hl : rPits.rd S w [v] l) : Gives Tryd.prog 16 #[.int .i64 k, v] w fun r w' =>
    ∃ x : Option Addr × Nat, r = .tuple #[.slice x.1 xs.length x.2, .int .i64 e] ∧ rInts.rd (fun b => w.heap.size ≤ b) w' [.slice x.1 xs.length x.2] xs :=
  (signs_spec hG hl k).mono fun r w' _ ⟨p, c, h1, h2⟩ => by rw [h] at h1 h2; exact ⟨(p, c), h1, h2⟩
theorem rsigns_call {S : Nat → Prop} {w : World} {v : Value} {l : List Pit} {k e : Int} {xs : List Int} (h : signsF k l = (xs, e)) (hl : rPits.rd S w [v] l) : Gives Tryd.prog 17 #[.int .i64 k, v] w fun r w' =>
    ∃ x : Option Addr × Nat, r = .tuple #[.slice x.1 xs.length x.2, .int .i64 e] ∧ rInts.rd (fun b => w.heap.size ≤ b) w' [.slice x.1 xs.length x.2] xs :=
  (rsigns_spec hl k).mono fun r w' _ ⟨p, c, h1, h2⟩ => by rw [h] at h1 h2; exact ⟨(p, c), h1, h2⟩
theorem read_call {S S2 : Nat → Prop} {w : World} {v u : Value} {l xs : List Pit} {k e : Int} {s : List Int} (hG : GS w) (h : readF k l s = (xs, e)) (hl : rPits.rd S w [v] l) (hl2 : rInts.rd S2 w [u] s) : Gives Tryd.prog 19 #[.int .i64 k, v, u] w fun r w' =>
    ∃ x : Option Addr × Nat, r = .tuple #[.slice x.1 xs.length x.2, .int .i64 e] ∧ rPits.rd (fun b => w.heap.size ≤ b) w' [.slice x.1 xs.length x.2] xs :=
  (read_spec hG hl hl2 k).mono fun r w' _ ⟨p, c, h1, h2⟩ => by rw [h] at h1 h2; exact ⟨(p, c), h1, h2⟩
theorem rread_call {S S2 : Nat → Prop} {w : World} {v u : Value} {l xs : List Pit} {k e : Int} {s : List Int} (h : readF k l s = (xs, e)) (hl : rPits.rd S w [v] l) (hl2 : rInts.rd S2 w [u] s) : Gives Tryd.prog 20 #[.int .i64 k, v, u] w fun r w' =>
    ∃ x : Option Addr × Nat, r = .tuple #[.slice x.1 xs.length x.2, .int .i64 e] ∧ rPits.rd (fun b => w.heap.size ≤ b) w' [.slice x.1 xs.length x.2] xs :=
  (rread_spec hl hl2 k).mono fun r w' _ ⟨p, c, h1, h2⟩ => by rw [h] at h1 h2; exact ⟨(p, c), h1, h2⟩
theorem sameInts_call {S S2 : Nat → Prop} {w : World} {v u : Value} {a : List Int} (hl : rInts.rd S w [v] a) (hl2 : rInts.rd S2 w [u] a) : Gives Tryd.prog 18 #[v, u] w fun r _ => r = .bool true :=
  (sameInts_spec hl hl2).mono fun r w' _ h => by rw [h]; simp
theorem same_call {S S2 : Nat → Prop} {w : World} {v u : Value} {a : List Pit} (hl : rPits.rd S w [v] a) (hl2 : rPits.rd S2 w [u] a) : Gives Tryd.prog 21 #[v, u] w fun r _ => r = .bool true :=
  (same_spec hl hl2).mono fun r w' _ h => by rw [h]; simp

def headL : List Pit := [(3, 1, 4), (3, 0, 4), (3, 0, 4), (3, 0, 5), (3, 1, 4)]
theorem h_a1 : AlterF 2 0 = (1, 0) := by decide
theorem h_a2 : AlterF (-1) 6 = (-1, 0) := by decide
theorem h_a3 : AlterF 8 0 = (0, 1) := by decide
theorem h_m1 : moveF 6 1 2 = (-4, 2, 2, 0) := by decide
theorem h_m2 : moveF 0 71 120 = (0, 0, 0, 1) := by decide
theorem h_f1 : fifthsF 4 7 = (1, 0) := by decide
theorem h_s1 : signsF 1 headL = ([0, 10, 0, 10, 11], 0) := by decide
theorem h_r1 : readF 1 headL [0, 10, 0, 10, 11] = (headL, 0) := by decide
theorem h_r2 : readF 1 headL [0, 10, 0, 10] = ([], 1) := by decide
/-- function 9 -/
theorem head_spec {w : World} (hG : GS w) : Gives Tryd.prog 9 #[] w fun r _ => r = .bool true := by
  refine gives_of [] 146 [.tmp 0] Tryd.func9 rfl rfl rfl (by simp) rfl rfl ?_
  refine W.pure (ds := []) rfl fun K1 hK1 => ?_
  simp only [sx, ty, Bool.false_eq_true, Int.reduceEq, Int.reduceLT, Nat.reduceAdd, Nat.reduceSub, Nat.reduceMul, Nat.reduceLT, Nat.reduceLeDiff, Nat.reduceEqDiff, List.reduceReplicate, reduceIte, beq_self_eq_true, bne_self_eq_false, Int.reduceBEq, Int.reduceBNe, Bool.or_false, Bool.false_or, Bool.not_false, Bool.not_true, Int.reduceLE, Int.reduceGT, Int.reduceGE]; with_reducible refine hK1 _ ?_; clear hK1
  refine W.seqK fun K2 hK2 => W.region ?_
  refine WO.call (.tuple #[.int .i64 1, .int .i64 0]) (ds := []) rfl rfl rfl rfl co10 (fun ρ w1 hb => Alter_call (hG.now (hb.first (by simp))) h_a1) ?_
  refine WO.go 5 (ds := []) rfl ?_
  simp only [sx, ty, Bool.false_eq_true, Int.reduceEq, Int.reduceLT, Nat.reduceAdd, Nat.reduceSub, Nat.reduceMul, Nat.reduceLT, Nat.reduceLeDiff, Nat.reduceEqDiff, List.reduceReplicate, reduceIte, beq_self_eq_true, bne_self_eq_false, Int.reduceBEq, Int.reduceBNe, Bool.or_false, Bool.false_or, Bool.not_false, Bool.not_true, Int.reduceLE, Int.reduceGT, Int.reduceGE]
  with_reducible refine WO.nil ?_
  refine hK2 _ ?_; clear hK2
  refine W.seqK fun K3 hK3 => W.region ?_
  refine WO.call (.tuple #[.int .i64 (-1), .int .i64 0]) (ds := []) rfl rfl rfl rfl co10 (fun ρ w1 hb => Alter_call (hG.now (hb.first (by simp))) h_a2) ?_
  refine WO.go 5 (ds := []) rfl ?_
  simp only [sx, ty, Bool.false_eq_true, Int.reduceEq, Int.reduceLT, Nat.reduceAdd, Nat.reduceSub, Nat.reduceMul, Nat.reduceLT, Nat.reduceLeDiff, Nat.reduceEqDiff, List.reduceReplicate, reduceIte, beq_self_eq_true, bne_self_eq_false, Int.reduceBEq, Int.reduceBNe, Bool.or_false, Bool.false_or, Bool.not_false, Bool.not_true, Int.reduceLE, Int.reduceGT, Int.reduceGE]
  with_reducible refine WO.nil ?_
  refine hK3 _ ?_; clear hK3
  refine W.seqK fun K4 hK4 => W.region ?_
  refine WO.go 1 (ds := []) rfl ?_
  simp only [sx, ty, Bool.false_eq_true, Int.reduceEq, Int.reduceLT, Nat.reduceAdd, Nat.reduceSub, Nat.reduceMul, Nat.reduceLT, Nat.reduceLeDiff, Nat.reduceEqDiff, List.reduceReplicate, reduceIte, beq_self_eq_true, bne_self_eq_false, Int.reduceBEq, Int.reduceBNe, Bool.or_false, Bool.false_or, Bool.not_false, Bool.not_true, Int.reduceLE, Int.reduceGT, Int.reduceGE]
  refine WO.call (.tuple #[.int .i64 (-4), .agg #[.int .i64 2, .int .i64 2], .int .i64 0]) (ds := []) rfl rfl rfl rfl co14 (fun ρ w1 hb => move_call h_m1) ?_
  refine WO.go 8 (ds := []) rfl ?_
  simp only [sx, ty, Bool.false_eq_true, Int.reduceEq, Int.reduceLT, Nat.reduceAdd, Nat.reduceSub, Nat.reduceMul, Nat.reduceLT, Nat.reduceLeDiff, Nat.reduceEqDiff, List.reduceReplicate, reduceIte, beq_self_eq_true, bne_self_eq_false, Int.reduceBEq, Int.reduceBNe, Bool.or_false, Bool.false_or, Bool.not_false, Bool.not_true, Int.reduceLE, Int.reduceGT, Int.reduceGE]
  with_reducible refine WO.nil ?_
  refine hK4 _ ?_; clear hK4
  refine W.pure (ds := []) rfl fun K5 hK5 => ?_
  simp only [sx, ty, Bool.false_eq_true, Int.reduceEq, Int.reduceLT, Nat.reduceAdd, Nat.reduceSub, Nat.reduceMul, Nat.reduceLT, Nat.reduceLeDiff, Nat.reduceEqDiff, List.reduceReplicate, reduceIte, beq_self_eq_true, bne_self_eq_false, Int.reduceBEq, Int.reduceBNe, Bool.or_false, Bool.false_or, Bool.not_false, Bool.not_true, Int.reduceLE, Int.reduceGT, Int.reduceGE]; with_reducible refine hK5 _ ?_; clear hK5
  refine W.freeze [1] 8 (.lsl 1 0 5 5) rfl rfl (fun S s v => ∃ a, v = .slice (some a) 5 5 ∧ rPits.rd S s [v] headL) (fun ρ w1 hb => ?_) (fun S1 s1 v1 h1 => ?_)
  · refine ⟨joinS (fun _ => True) w ρ _ [1], ⟨_, rfl, own_listS (A := rPit) (k := 1) hb rfl rfl (by omega) (by omega) (.inr ⟨1, _, by simp, rfl, rfl⟩) ?_⟩, joinS_apart hb (by simp) [1]⟩
    exact pits_read headL
  obtain ⟨a1, rfl, hl1⟩ := h1
  simp only [sx, ty, Bool.false_eq_true, Int.reduceEq, Int.reduceLT, Nat.reduceAdd, Nat.reduceSub, Nat.reduceMul, Nat.reduceLT, Nat.reduceLeDiff, Nat.reduceEqDiff, List.reduceReplicate, reduceIte, sxd]
  refine W.seqK fun K6 hK6 => W.region ?_
  refine WO.go 1 (ds := []) rfl ?_
  simp only [sx, ty, Bool.false_eq_true, Int.reduceEq, Int.reduceLT, Nat.reduceAdd, Nat.reduceSub, Nat.reduceMul, Nat.reduceLT, Nat.reduceLeDiff, Nat.reduceEqDiff, List.reduceReplicate, reduceIte, beq_self_eq_true, bne_self_eq_false, Int.reduceBEq, Int.reduceBNe, Bool.or_false, Bool.false_or, Bool.not_false, Bool.not_true, Int.reduceLE, Int.reduceGT, Int.reduceGE]
  refine WO.callM (fun x : Option Addr × Nat => .tuple #[.slice x.1 5 x.2, .int .i64 0]) (fun lo x s9 => rInts.rd (fun b => lo ≤ b) s9 [.slice x.1 5 x.2] [0, 10, 0, 10, 11]) (ds := []) rfl rfl rfl rfl co16 (fun ρ w1 hb => signs_call (hG.now (hb.first (by simp))) h_s1 (Rp.keep hl1 (hb.at (by simp)))) fun x lo hr1s hr1 => ?_
  obtain ⟨hr1p, hr1c⟩ := x
  simp only at hr1
  refine WO.go 5 (ds := []) rfl ?_
  simp only [sx, ty, Bool.false_eq_true, Int.reduceEq, Int.reduceLT, Nat.reduceAdd, Nat.reduceSub, Nat.reduceMul, Nat.reduceLT, Nat.reduceLeDiff, Nat.reduceEqDiff, List.reduceReplicate, reduceIte, beq_self_eq_true, bne_self_eq_false, Int.reduceBEq, Int.reduceBNe, Bool.or_false, Bool.false_or, Bool.not_false, Bool.not_true, Int.reduceLE, Int.reduceGT, Int.reduceGE]
  with_reducible refine WO.nil ?_
  refine hK6 _ ?_; clear hK6
  refine W.seqK fun K7 hK7 => W.region ?_
  refine WO.go 2 (ds := []) rfl ?_
  simp only [sx, ty, Bool.false_eq_true, Int.reduceEq, Int.reduceLT, Nat.reduceAdd, Nat.reduceSub, Nat.reduceMul, Nat.reduceLT, Nat.reduceLeDiff, Nat.reduceEqDiff, List.reduceReplicate, reduceIte, beq_self_eq_true, bne_self_eq_false, Int.reduceBEq, Int.reduceBNe, Bool.or_false, Bool.false_or, Bool.not_false, Bool.not_true, Int.reduceLE, Int.reduceGT, Int.reduceGE]
  refine WO.callM (fun x : Option Addr × Nat => .tuple #[.slice x.1 5 x.2, .int .i64 0]) (fun lo x s9 => rPits.rd (fun b => lo ≤ b) s9 [.slice x.1 5 x.2] headL) (ds := []) rfl rfl rfl rfl co19 (fun ρ w1 hb => read_call (hG.now (hb.first (by simp))) h_r1 (Rp.keep hl1 (hb.at (by simp))) (Rp.keep hr1 (hb.at (by simp)))) fun x lo hr2s hr2 => ?_
  obtain ⟨hr2p, hr2c⟩ := x
  simp only at hr2
  refine WO.go 5 (ds := []) rfl ?_
  simp only [sx, ty, Bool.false_eq_true, Int.reduceEq, Int.reduceLT, Nat.reduceAdd, Nat.reduceSub, Nat.reduceMul, Nat.reduceLT, Nat.reduceLeDiff, Nat.reduceEqDiff, List.reduceReplicate, reduceIte, beq_self_eq_true, bne_self_eq_false, Int.reduceBEq, Int.reduceBNe, Bool.or_false, Bool.false_or, Bool.not_false, Bool.not_true, Int.reduceLE, Int.reduceGT, Int.reduceGE]
  with_reducible refine WO.nil ?_
  refine hK7 _ ?_; clear hK7
  refine W.seqK fun K8 hK8 => W.region ?_
  refine WO.go 1 (ds := []) rfl ?_
  simp only [sx, ty, Bool.false_eq_true, Int.reduceEq, Int.reduceLT, Nat.reduceAdd, Nat.reduceSub, Nat.reduceMul, Nat.reduceLT, Nat.reduceLeDiff, Nat.reduceEqDiff, List.reduceReplicate, reduceIte, beq_self_eq_true, bne_self_eq_false, Int.reduceBEq, Int.reduceBNe, Bool.or_false, Bool.false_or, Bool.not_false, Bool.not_true, Int.reduceLE, Int.reduceGT, Int.reduceGE]
  refine WO.call (.tuple #[.int .i64 1, .int .i64 0]) (ds := []) rfl rfl rfl rfl co12 (fun ρ w1 hb => fifths_call h_f1) ?_
  refine WO.go 5 (ds := []) rfl ?_
  simp only [sx, ty, Bool.false_eq_true, Int.reduceEq, Int.reduceLT, Nat.reduceAdd, Nat.reduceSub, Nat.reduceMul, Nat.reduceLT, Nat.reduceLeDiff, Nat.reduceEqDiff, List.reduceReplicate, reduceIte, beq_self_eq_true, bne_self_eq_false, Int.reduceBEq, Int.reduceBNe, Bool.or_false, Bool.false_or, Bool.not_false, Bool.not_true, Int.reduceLE, Int.reduceGT, Int.reduceGE]
  with_reducible refine WO.nil ?_
  refine hK8 _ ?_; clear hK8
  refine W.seqK fun K9 hK9 => W.region ?_
  refine WO.call (.tuple #[.int .i64 0, .int .i64 1]) (ds := []) rfl rfl rfl rfl co10 (fun ρ w1 hb => Alter_call (hG.now (hb.first (by simp))) h_a3) ?_
  refine WO.go 5 (ds := []) rfl ?_
  simp only [sx, ty, Bool.false_eq_true, Int.reduceEq, Int.reduceLT, Nat.reduceAdd, Nat.reduceSub, Nat.reduceMul, Nat.reduceLT, Nat.reduceLeDiff, Nat.reduceEqDiff, List.reduceReplicate, reduceIte, beq_self_eq_true, bne_self_eq_false, Int.reduceBEq, Int.reduceBNe, Bool.or_false, Bool.false_or, Bool.not_false, Bool.not_true, Int.reduceLE, Int.reduceGT, Int.reduceGE]
  with_reducible refine WO.nil ?_
  refine hK9 _ ?_; clear hK9
  refine W.seqK fun K10 hK10 => W.region ?_
  refine WO.go 4 (ds := []) rfl ?_
  simp only [sx, ty, Bool.false_eq_true, Int.reduceEq, Int.reduceLT, Nat.reduceAdd, Nat.reduceSub, Nat.reduceMul, Nat.reduceLT, Nat.reduceLeDiff, Nat.reduceEqDiff, List.reduceReplicate, reduceIte, beq_self_eq_true, bne_self_eq_false, Int.reduceBEq, Int.reduceBNe, Bool.or_false, Bool.false_or, Bool.not_false, Bool.not_true, Int.reduceLE, Int.reduceGT, Int.reduceGE]
  refine WO.min2 (ds := []) rfl rfl rfl rfl rfl rfl ?_
  simp only [sx, ty, Bool.false_eq_true, Int.reduceEq, Int.reduceLT, Nat.reduceAdd, Nat.reduceSub, Nat.reduceMul, Nat.reduceLT, Nat.reduceLeDiff, Nat.reduceEqDiff, List.reduceReplicate, reduceIte, beq_self_eq_true, bne_self_eq_false, Int.reduceBEq, Int.reduceBNe, Bool.or_false, Bool.false_or, Bool.not_false, Bool.not_true, Int.reduceLE, Int.reduceGT, Int.reduceGE]
  obtain ⟨_, _, he1, hc1, hc2⟩ := Rp.slice_val hr1
  obtain ⟨rfl, _, rfl⟩ := (Value.slice.injEq _ _ _ _ _ _).mp he1
  simp only [List.length_cons, List.length_nil, Nat.reduceAdd] at hc1
  refine WO.slc (ds := []) rfl rfl rfl rfl rfl el25 rfl rfl (by simp [loS]) (by simp [loS, hiS]) (by simp [hiS]; omega) ?_
  simp only [sx, ty, Bool.false_eq_true, Int.reduceEq, Int.reduceLT, Nat.reduceAdd, Nat.reduceSub, Nat.reduceMul, Nat.reduceLT, Nat.reduceLeDiff, Nat.reduceEqDiff, List.reduceReplicate, reduceIte, beq_self_eq_true, bne_self_eq_false, Int.reduceBEq, Int.reduceBNe, Bool.or_false, Bool.false_or, Bool.not_false, Bool.not_true, Int.reduceLE, Int.reduceGT, Int.reduceGE]
  refine WO.callM (fun x : Option Addr × Nat => .tuple #[.slice x.1 0 x.2, .int .i64 1]) (fun lo x s9 => rPits.rd (fun b => lo ≤ b) s9 [.slice x.1 0 x.2] ([] : List Pit)) (ds := []) rfl rfl rfl rfl co19 (fun ρ w1 hb => read_call (hG.now (hb.first (by simp))) h_r2 (Rp.keep hl1 (hb.at (by simp))) (Rp.slc (A := rInt) (l := 0) (h := 4) (Rp.keep hr1 (hb.at (by simp))) (by omega) (by omega))) fun x lo hr3s hr3 => ?_
  obtain ⟨hr3p, hr3c⟩ := x
  simp only at hr3
  refine WO.go 5 (ds := []) rfl ?_
  simp only [sx, ty, Bool.false_eq_true, Int.reduceEq, Int.reduceLT, Nat.reduceAdd, Nat.reduceSub, Nat.reduceMul, Nat.reduceLT, Nat.reduceLeDiff, Nat.reduceEqDiff, List.reduceReplicate, reduceIte, beq_self_eq_true, bne_self_eq_false, Int.reduceBEq, Int.reduceBNe, Bool.or_false, Bool.false_or, Bool.not_false, Bool.not_true, Int.reduceLE, Int.reduceGT, Int.reduceGE]
  with_reducible refine WO.nil ?_
  refine hK10 _ ?_; clear hK10
  refine W.seqK fun K11 hK11 => W.region ?_
  refine WO.go 1 (ds := []) rfl ?_
  simp only [sx, ty, Bool.false_eq_true, Int.reduceEq, Int.reduceLT, Nat.reduceAdd, Nat.reduceSub, Nat.reduceMul, Nat.reduceLT, Nat.reduceLeDiff, Nat.reduceEqDiff, List.reduceReplicate, reduceIte, beq_self_eq_true, bne_self_eq_false, Int.reduceBEq, Int.reduceBNe, Bool.or_false, Bool.false_or, Bool.not_false, Bool.not_true, Int.reduceLE, Int.reduceGT, Int.reduceGE]
  refine WO.call (.tuple #[.int .i64 0, .agg #[.int .i64 0, .int .i64 0], .int .i64 1]) (ds := []) rfl rfl rfl rfl co14 (fun ρ w1 hb => move_call h_m2) ?_
  refine WO.go 8 (ds := []) rfl ?_
  simp only [sx, ty, Bool.false_eq_true, Int.reduceEq, Int.reduceLT, Nat.reduceAdd, Nat.reduceSub, Nat.reduceMul, Nat.reduceLT, Nat.reduceLeDiff, Nat.reduceEqDiff, List.reduceReplicate, reduceIte, beq_self_eq_true, bne_self_eq_false, Int.reduceBEq, Int.reduceBNe, Bool.or_false, Bool.false_or, Bool.not_false, Bool.not_true, Int.reduceLE, Int.reduceGT, Int.reduceGE]
  with_reducible refine WO.nil ?_
  refine hK11 _ ?_; clear hK11
  refine W.seqK fun K12 hK12 => W.region ?_
  refine WO.go 35 (ds := [some 79, some 80, some 81, some 82, some 83, some 84, some 85, some 86, some 87, some 88, some 89, some 90, some 91, some 92, some 93, some 94, some 95, some 96, some 97, some 98, some 99, some 100, some 101, some 102, some 103, some 104, some 105, some 106, some 107, some 108, some 109, some 110, some 111, some 112, some 22]) rfl ?_
  simp only [sx, ty, Bool.false_eq_true, Int.reduceEq, Int.reduceLT, Nat.reduceAdd, Nat.reduceSub, Nat.reduceMul, Nat.reduceLT, Nat.reduceLeDiff, Nat.reduceEqDiff, List.reduceReplicate, reduceIte, beq_self_eq_true, bne_self_eq_false, Int.reduceBEq, Int.reduceBNe, Bool.or_false, Bool.false_or, Bool.not_false, Bool.not_true, Int.reduceLE, Int.reduceGT, Int.reduceGE]
  with_reducible refine WO.nil ?_
  refine hK12 _ ?_; clear hK12
  refine W.seqK fun K13 hK13 => W.region ?_
  refine WO.go 16 (ds := [some 113, some 114, some 115, some 116, some 117, some 118, some 119, some 120, some 121, some 122, some 123, some 124, some 125, some 126, some 127, some 128, some 129, some 130, some 131, some 132, some 133, some 134, some 22]) rfl ?_
  simp only [sx, ty, Bool.false_eq_true, Int.reduceEq, Int.reduceLT, Nat.reduceAdd, Nat.reduceSub, Nat.reduceMul, Nat.reduceLT, Nat.reduceLeDiff, Nat.reduceEqDiff, List.reduceReplicate, reduceIte, beq_self_eq_true, bne_self_eq_false, Int.reduceBEq, Int.reduceBNe, Bool.or_false, Bool.false_or, Bool.not_false, Bool.not_true, Int.reduceLE, Int.reduceGT, Int.reduceGE]
  refine WO.aggCmp [2, 2] [2, 2] (ds := [some 113, some 114, some 115, some 116, some 117, some 118, some 119, some 120, some 121, some 122, some 123, some 124, some 125, some 126, some 127, some 128, some 129, some 130, some 131, some 132, some 133, some 134, some 22]) rfl rfl rfl rfl ⟨_, rfl, fun _ => rfl⟩ ⟨_, rfl, fun _ => rfl⟩ it23 rfl rfl rfl ?_
  refine WO.go 6 (ds := [some 113, some 114, some 115, some 116, some 117, some 118, some 119, some 120, some 121, some 122, some 123, some 124, some 125, some 126, some 127, some 128, some 129, some 130, some 131, some 132, some 133, some 134, some 22]) rfl ?_
  simp only [sx, ty, Bool.false_eq_true, Int.reduceEq, Int.reduceLT, Nat.reduceAdd, Nat.reduceSub, Nat.reduceMul, Nat.reduceLT, Nat.reduceLeDiff, Nat.reduceEqDiff, List.reduceReplicate, reduceIte, beq_self_eq_true, bne_self_eq_false, Int.reduceBEq, Int.reduceBNe, Bool.or_false, Bool.false_or, Bool.not_false, Bool.not_true, Int.reduceLE, Int.reduceGT, Int.reduceGE]
  with_reducible refine WO.nil ?_
  refine hK13 _ ?_; clear hK13
  refine W.seqK fun K14 hK14 => W.region ?_
  refine WO.go 4 (ds := [some 135, some 136, some 137, some 138, some 139, some 140, some 141, some 142, some 143, some 144, some 145, some 0]) rfl ?_
  simp only [sx, ty, Bool.false_eq_true, Int.reduceEq, Int.reduceLT, Nat.reduceAdd, Nat.reduceSub, Nat.reduceMul, Nat.reduceLT, Nat.reduceLeDiff, Nat.reduceEqDiff, List.reduceReplicate, reduceIte, beq_self_eq_true, bne_self_eq_false, Int.reduceBEq, Int.reduceBNe, Bool.or_false, Bool.false_or, Bool.not_false, Bool.not_true, Int.reduceLE, Int.reduceGT, Int.reduceGE]
  refine WO.call (.bool true) (ds := [some 135, some 136, some 137, some 138, some 139, some 140, some 141, some 142, some 143, some 144, some 145, some 0]) rfl rfl rfl rfl co18 (fun ρ w1 hb => sameInts_call (Rp.keep hr1 (hb.at (by simp))) (own_listS (S := fun _ => True) (A := rInt) (k := 3) hb rfl rfl (by omega) (by omega) trivial (by rintro (_ | _ | _ | _ | _ | i) y hy <;> first | (cases hy; rfl) | simp at hy))) ?_
  refine WO.go 4 (ds := [some 135, some 136, some 137, some 138, some 139, some 140, some 141, some 142, some 143, some 144, some 145, some 0]) rfl ?_
  simp only [sx, ty, Bool.false_eq_true, Int.reduceEq, Int.reduceLT, Nat.reduceAdd, Nat.reduceSub, Nat.reduceMul, Nat.reduceLT, Nat.reduceLeDiff, Nat.reduceEqDiff, List.reduceReplicate, reduceIte, beq_self_eq_true, bne_self_eq_false, Int.reduceBEq, Int.reduceBNe, Bool.or_false, Bool.false_or, Bool.not_false, Bool.not_true, Int.reduceLE, Int.reduceGT, Int.reduceGE]
  refine WO.call (.bool true) (ds := [some 135, some 136, some 137, some 138, some 139, some 140, some 141, some 142, some 143, some 144, some 145, some 0]) rfl rfl rfl rfl co21 (fun ρ w1 hb => same_call (Rp.keep hl1 (hb.at (by simp))) (Rp.keep hr2 (hb.at (by simp)))) ?_
  refine WO.go 2 (ds := [some 135, some 136, some 137, some 138, some 139, some 140, some 141, some 142, some 143, some 144, some 145, some 0]) rfl ?_
  simp only [sx, ty, Bool.false_eq_true, Int.reduceEq, Int.reduceLT, Nat.reduceAdd, Nat.reduceSub, Nat.reduceMul, Nat.reduceLT, Nat.reduceLeDiff, Nat.reduceEqDiff, List.reduceReplicate, reduceIte, beq_self_eq_true, bne_self_eq_false, Int.reduceBEq, Int.reduceBNe, Bool.or_false, Bool.false_or, Bool.not_false, Bool.not_true, Int.reduceLE, Int.reduceGT, Int.reduceGE]
  with_reducible refine WO.nil ?_
  refine hK14 _ ?_; clear hK14
  refine W.ret ⟨by simp, _, rfl, fun ρ w1 hb => ?_⟩
  rfl
/-- function 3 -/
theorem law1 {S S2 : Nat → Prop} {w : World} (hG : GS w) (k step a b : Int) {v u : Value} {l : List Pit} {s : List Int} (hl : rPits.rd S w [v] l) (hl2 : rInts.rd S2 w [u] s) :
    Gives Tryd.prog 3 #[.int .i64 k, .int .i64 step, .agg #[.int .i64 a, .int .i64 b], v, u] w fun r _ => r = .bool true := by
  obtain ⟨p, c, rfl, hc1, hc2⟩ := Rp.slice_val hl
  obtain ⟨p2, c2, rfl, hc3, hc4⟩ := Rp.slice_val hl2
  have hl : (Rp.slice rPit).rd (fun _ => True) w _ l := Rp.any hl
  have hl2 : (Rp.slice rInt).rd (fun _ => True) w _ s := Rp.any hl2
  refine gives_of [.val (.int .i64 k), .val (.int .i64 step), .agg [.val (.int .i64 a), .val (.int .i64 b)], .val (.slice p l.length c), .val (.slice p2 s.length c2)] 159 [.tmp 10] Tryd.func3 rfl rfl rfl (by simp) rfl rfl ?_
  refine W.pure (ds := []) rfl fun K1 hK1 => ?_
  simp only [sx, ty, Bool.false_eq_true, Int.reduceEq, Int.reduceLT, Nat.reduceAdd, Nat.reduceSub, Nat.reduceMul, Nat.reduceLT, Nat.reduceLeDiff, Nat.reduceEqDiff, List.reduceReplicate, reduceIte, beq_self_eq_true, bne_self_eq_false, Int.reduceBEq, Int.reduceBNe, Bool.or_false, Bool.false_or, Bool.not_false, Bool.not_true]; with_reducible refine hK1 _ ?_; clear hK1
  refine W.seqK fun K2 hK2 => W.region ?_
  refine WO.call (.bool true) (ds := []) rfl rfl rfl rfl co9 (fun ρ w1 hb => head_spec (hG.now (hb.first (by simp)))) ?_
  refine WO.go 1 (ds := []) rfl ?_
  simp only [sx, ty, Bool.false_eq_true, Int.reduceEq, Int.reduceLT, Nat.reduceAdd, Nat.reduceSub, Nat.reduceMul, Nat.reduceLT, Nat.reduceLeDiff, Nat.reduceEqDiff, List.reduceReplicate, reduceIte, beq_self_eq_true, bne_self_eq_false, Int.reduceBEq, Int.reduceBNe, Bool.or_false, Bool.false_or, Bool.not_false, Bool.not_true]
  with_reducible refine WO.nil ?_
  refine hK2 _ ?_; clear hK2
  refine W.seqK fun K3 hK3 => ?_
  refine W.join 35 (.val (.bool ((decide ((60 : Int) < (l.length : Int)) && decide ((l.length : Int) ≤ 1000)) || decide ((2000 : Int) < (s.length : Int))))) [0, 1, 3, 4, 7, 11] (W.region ?_) ?_
  · skip
    refine WO.go 4 (ds := [some 23, some 24, some 25, some 26, some 27, some 28, some 29, some 30, some 31, some 32, some 33, some 34, some 35]) rfl ?_
    simp only [sx, ty, Bool.false_eq_true, Int.reduceEq, Int.reduceLT, Nat.reduceAdd, Nat.reduceSub, Nat.reduceMul, Nat.reduceLT, Nat.reduceLeDiff, Nat.reduceEqDiff, List.reduceReplicate, reduceIte, beq_self_eq_true, bne_self_eq_false, Int.reduceBEq, Int.reduceBNe, Bool.or_false, Bool.false_or, Bool.not_false, Bool.not_true]
    refine WO.cases 26 _ rfl (fun hg26 => ?_) (fun hg26 => ?_)
    · skip
      refine WO.go 5 (ds := [some 23, some 24, some 25, some 26, some 27, some 28, some 29, some 30, some 31, some 32, some 33, some 34, some 35]) rfl ?_
      simp only [sx, ty, Bool.false_eq_true, Int.reduceEq, Int.reduceLT, Nat.reduceAdd, Nat.reduceSub, Nat.reduceMul, Nat.reduceLT, Nat.reduceLeDiff, Nat.reduceEqDiff, List.reduceReplicate, reduceIte, beq_self_eq_true, bne_self_eq_false, Int.reduceBEq, Int.reduceBNe, Bool.or_false, Bool.false_or, Bool.not_false, Bool.not_true]
      refine WO.cases 31 _ rfl (fun hg31 => ?_) (fun hg31 => ?_)
      · skip
        refine WO.go 4 (ds := [some 23, some 24, some 25, some 26, some 27, some 28, some 29, some 30, some 31, some 32, some 33, some 34, some 35]) rfl ?_
        simp only [sx, ty, Bool.false_eq_true, Int.reduceEq, Int.reduceLT, Nat.reduceAdd, Nat.reduceSub, Nat.reduceMul, Nat.reduceLT, Nat.reduceLeDiff, Nat.reduceEqDiff, List.reduceReplicate, reduceIte, beq_self_eq_true, bne_self_eq_false, Int.reduceBEq, Int.reduceBNe, Bool.or_false, Bool.false_or, Bool.not_false, Bool.not_true]
        with_reducible refine WO.nil ?_
        refine ⟨rfl, ?_, ⟨_, rfl⟩, by simp [Own.bnd, bndL, bnd, boxO], by simp⟩
        try rw [hg26]
        try rw [hg31]
        simp [getE, bnd, keepE]
        try simp_all
      · skip
        refine WO.go 4 (ds := [some 23, some 24, some 25, some 26, some 27, some 28, some 29, some 30, some 31, some 32, some 33, some 34, some 35]) rfl ?_
        simp only [sx, ty, Bool.false_eq_true, Int.reduceEq, Int.reduceLT, Nat.reduceAdd, Nat.reduceSub, Nat.reduceMul, Nat.reduceLT, Nat.reduceLeDiff, Nat.reduceEqDiff, List.reduceReplicate, reduceIte, beq_self_eq_true, bne_self_eq_false, Int.reduceBEq, Int.reduceBNe, Bool.or_false, Bool.false_or, Bool.not_false, Bool.not_true]
        with_reducible refine WO.nil ?_
        refine ⟨rfl, ?_, ⟨_, rfl⟩, by simp [Own.bnd, bndL, bnd, boxO], by simp⟩
        try rw [hg26]
        try rw [hg31]
        simp [getE, bnd, keepE]
        try simp_all
    · skip
      refine WO.go 9 (ds := [some 23, some 24, some 25, some 26, some 27, some 28, some 29, some 30, some 31, some 32, some 33, some 34, some 35]) rfl ?_
      simp only [sx, ty, Bool.false_eq_true, Int.reduceEq, Int.reduceLT, Nat.reduceAdd, Nat.reduceSub, Nat.reduceMul, Nat.reduceLT, Nat.reduceLeDiff, Nat.reduceEqDiff, List.reduceReplicate, reduceIte, beq_self_eq_true, bne_self_eq_false, Int.reduceBEq, Int.reduceBNe, Bool.or_false, Bool.false_or, Bool.not_false, Bool.not_true]
      with_reducible refine WO.nil ?_
      refine ⟨rfl, ?_, ⟨_, rfl⟩, by simp [Own.bnd, bndL, bnd, boxO], by simp⟩
      try rw [hg26]
      try rw [hg31]
      simp [getE, bnd, keepE]
      try simp_all
  · simp only [sx, ty, Bool.false_eq_true, Int.reduceEq, Int.reduceLT, Nat.reduceAdd, Nat.reduceSub, Nat.reduceMul, Nat.reduceLT, Nat.reduceLeDiff, Nat.reduceEqDiff, List.reduceReplicate, reduceIte, sxk, beq_self_eq_true, bne_self_eq_false, Int.reduceBEq, Int.reduceBNe, Bool.or_false, Bool.false_or, Bool.not_false, Bool.not_true]
    refine W.cond rfl rfl (fun hc => ?_) (fun hc => ?_)
    · skip
      refine W.pure (ds := []) rfl fun K5 hK5 => ?_
      simp only [sx, ty, Bool.false_eq_true, Int.reduceEq, Int.reduceLT, Nat.reduceAdd, Nat.reduceSub, Nat.reduceMul, Nat.reduceLT, Nat.reduceLeDiff, Nat.reduceEqDiff, List.reduceReplicate, reduceIte, beq_self_eq_true, bne_self_eq_false, Int.reduceBEq, Int.reduceBNe, Bool.or_false, Bool.false_or, Bool.not_false, Bool.not_true]; with_reducible refine hK5 _ ?_; clear hK5
      refine W.ret ⟨by simp, _, rfl, fun ρ w1 hb => ?_⟩
      rfl
    · skip
      refine W.skip (hK3 _ ?_)
      refine W.seqK fun K6 hK6 => W.region ?_
      refine WO.go 2 (ds := []) rfl ?_
      simp only [sx, ty, Bool.false_eq_true, Int.reduceEq, Int.reduceLT, Nat.reduceAdd, Nat.reduceSub, Nat.reduceMul, Nat.reduceLT, Nat.reduceLeDiff, Nat.reduceEqDiff, List.reduceReplicate, reduceIte, beq_self_eq_true, bne_self_eq_false, Int.reduceBEq, Int.reduceBNe, Bool.or_false, Bool.false_or, Bool.not_false, Bool.not_true]
      refine WO.call (.tuple #[.int .i64 (AlterF k step).1, .int .i64 (AlterF k step).2]) (ds := []) rfl rfl rfl rfl co10 (fun ρ w1 hb => Alter_spec (hG.now (hb.first (by simp))) k step) ?_
      refine WO.go 5 (ds := []) rfl ?_
      simp only [sx, ty, Bool.false_eq_true, Int.reduceEq, Int.reduceLT, Nat.reduceAdd, Nat.reduceSub, Nat.reduceMul, Nat.reduceLT, Nat.reduceLeDiff, Nat.reduceEqDiff, List.reduceReplicate, reduceIte, beq_self_eq_true, bne_self_eq_false, Int.reduceBEq, Int.reduceBNe, Bool.or_false, Bool.false_or, Bool.not_false, Bool.not_true]
      with_reducible refine WO.nil ?_
      refine hK6 _ ?_; clear hK6
      refine W.seqK fun K7 hK7 => W.region ?_
      refine WO.go 2 (ds := []) rfl ?_
      simp only [sx, ty, Bool.false_eq_true, Int.reduceEq, Int.reduceLT, Nat.reduceAdd, Nat.reduceSub, Nat.reduceMul, Nat.reduceLT, Nat.reduceLeDiff, Nat.reduceEqDiff, List.reduceReplicate, reduceIte, beq_self_eq_true, bne_self_eq_false, Int.reduceBEq, Int.reduceBNe, Bool.or_false, Bool.false_or, Bool.not_false, Bool.not_true]
      refine WO.call (.tuple #[.int .i64 (AlterF k step).1, .int .i64 (AlterF k step).2]) (ds := []) rfl rfl rfl rfl co11 (fun ρ w1 hb => by have := rAlter_spec w1 k step; rwa [rAlter_eq] at this) ?_
      refine WO.go 5 (ds := []) rfl ?_
      simp only [sx, ty, Bool.false_eq_true, Int.reduceEq, Int.reduceLT, Nat.reduceAdd, Nat.reduceSub, Nat.reduceMul, Nat.reduceLT, Nat.reduceLeDiff, Nat.reduceEqDiff, List.reduceReplicate, reduceIte, beq_self_eq_true, bne_self_eq_false, Int.reduceBEq, Int.reduceBNe, Bool.or_false, Bool.false_or, Bool.not_false, Bool.not_true]
      with_reducible refine WO.nil ?_
      refine hK7 _ ?_; clear hK7
      refine W.seqK fun K8 hK8 => W.region ?_
      refine WO.go 12 (ds := [some 49, some 50, some 51, some 52, some 53, some 54, some 55, some 56, some 57, some 58, some 59, some 11]) rfl ?_
      simp only [sx, ty, Bool.false_eq_true, Int.reduceEq, Int.reduceLT, Nat.reduceAdd, Nat.reduceSub, Nat.reduceMul, Nat.reduceLT, Nat.reduceLeDiff, Nat.reduceEqDiff, List.reduceReplicate, reduceIte, beq_self_eq_true, bne_self_eq_false, Int.reduceBEq, Int.reduceBNe, Bool.or_false, Bool.false_or, Bool.not_false, Bool.not_true]
      with_reducible refine WO.nil ?_
      refine hK8 _ ?_; clear hK8
      refine W.seqK fun K9 hK9 => W.region ?_
      refine WO.go 1 (ds := []) rfl ?_
      simp only [sx, ty, Bool.false_eq_true, Int.reduceEq, Int.reduceLT, Nat.reduceAdd, Nat.reduceSub, Nat.reduceMul, Nat.reduceLT, Nat.reduceLeDiff, Nat.reduceEqDiff, List.reduceReplicate, reduceIte, beq_self_eq_true, bne_self_eq_false, Int.reduceBEq, Int.reduceBNe, Bool.or_false, Bool.false_or, Bool.not_false, Bool.not_true]
      refine WO.call (.tuple #[.int .i64 (fifthsF a b).1, .int .i64 (fifthsF a b).2]) (ds := []) rfl rfl rfl rfl co12 (fun ρ w1 hb => fifths_spec w1 a b) ?_
      refine WO.go 5 (ds := []) rfl ?_
      simp only [sx, ty, Bool.false_eq_true, Int.reduceEq, Int.reduceLT, Nat.reduceAdd, Nat.reduceSub, Nat.reduceMul, Nat.reduceLT, Nat.reduceLeDiff, Nat.reduceEqDiff, List.reduceReplicate, reduceIte, beq_self_eq_true, bne_self_eq_false, Int.reduceBEq, Int.reduceBNe, Bool.or_false, Bool.false_or, Bool.not_false, Bool.not_true]
      with_reducible refine WO.nil ?_
      refine hK9 _ ?_; clear hK9
      refine W.seqK fun K10 hK10 => W.region ?_
      refine WO.go 1 (ds := []) rfl ?_
      simp only [sx, ty, Bool.false_eq_true, Int.reduceEq, Int.reduceLT, Nat.reduceAdd, Nat.reduceSub, Nat.reduceMul, Nat.reduceLT, Nat.reduceLeDiff, Nat.reduceEqDiff, List.reduceReplicate, reduceIte, beq_self_eq_true, bne_self_eq_false, Int.reduceBEq, Int.reduceBNe, Bool.or_false, Bool.false_or, Bool.not_false, Bool.not_true]
      refine WO.call (.tuple #[.int .i64 (fifthsF a b).1, .int .i64 (fifthsF a b).2]) (ds := []) rfl rfl rfl rfl co13 (fun ρ w1 hb => rfifths_spec w1 a b) ?_
      refine WO.go 5 (ds := []) rfl ?_
      simp only [sx, ty, Bool.false_eq_true, Int.reduceEq, Int.reduceLT, Nat.reduceAdd, Nat.reduceSub, Nat.reduceMul, Nat.reduceLT, Nat.reduceLeDiff, Nat.reduceEqDiff, List.reduceReplicate, reduceIte, beq_self_eq_true, bne_self_eq_false, Int.reduceBEq, Int.reduceBNe, Bool.or_false, Bool.false_or, Bool.not_false, Bool.not_true]
      with_reducible refine WO.nil ?_
      refine hK10 _ ?_; clear hK10
      refine W.seqK fun K11 hK11 => W.region ?_
      refine WO.go 12 (ds := [some 70, some 71, some 72, some 73, some 74, some 75, some 76, some 77, some 78, some 79, some 80, some 11]) rfl ?_
      simp only [sx, ty, Bool.false_eq_true, Int.reduceEq, Int.reduceLT, Nat.reduceAdd, Nat.reduceSub, Nat.reduceMul, Nat.reduceLT, Nat.reduceLeDiff, Nat.reduceEqDiff, List.reduceReplicate, reduceIte, beq_self_eq_true, bne_self_eq_false, Int.reduceBEq, Int.reduceBNe, Bool.or_false, Bool.false_or, Bool.not_false, Bool.not_true]
      with_reducible refine WO.nil ?_
      refine hK11 _ ?_; clear hK11
      refine W.seqK fun K12 hK12 => W.region ?_
      refine WO.go 2 (ds := []) rfl ?_
      simp only [sx, ty, Bool.false_eq_true, Int.reduceEq, Int.reduceLT, Nat.reduceAdd, Nat.reduceSub, Nat.reduceMul, Nat.reduceLT, Nat.reduceLeDiff, Nat.reduceEqDiff, List.reduceReplicate, reduceIte, beq_self_eq_true, bne_self_eq_false, Int.reduceBEq, Int.reduceBNe, Bool.or_false, Bool.false_or, Bool.not_false, Bool.not_true]
      refine WO.call (.tuple #[.int .i64 (moveF k a b).1, .agg #[.int .i64 (moveF k a b).2.1, .int .i64 (moveF k a b).2.2.1], .int .i64 (moveF k a b).2.2.2]) (ds := []) rfl rfl rfl rfl co14 (fun ρ w1 hb => move_spec w1 k a b) ?_
      refine WO.go 8 (ds := []) rfl ?_
      simp only [sx, ty, Bool.false_eq_true, Int.reduceEq, Int.reduceLT, Nat.reduceAdd, Nat.reduceSub, Nat.reduceMul, Nat.reduceLT, Nat.reduceLeDiff, Nat.reduceEqDiff, List.reduceReplicate, reduceIte, beq_self_eq_true, bne_self_eq_false, Int.reduceBEq, Int.reduceBNe, Bool.or_false, Bool.false_or, Bool.not_false, Bool.not_true]
      with_reducible refine WO.nil ?_
      refine hK12 _ ?_; clear hK12
      refine W.seqK fun K13 hK13 => W.region ?_
      refine WO.go 2 (ds := []) rfl ?_
      simp only [sx, ty, Bool.false_eq_true, Int.reduceEq, Int.reduceLT, Nat.reduceAdd, Nat.reduceSub, Nat.reduceMul, Nat.reduceLT, Nat.reduceLeDiff, Nat.reduceEqDiff, List.reduceReplicate, reduceIte, beq_self_eq_true, bne_self_eq_false, Int.reduceBEq, Int.reduceBNe, Bool.or_false, Bool.false_or, Bool.not_false, Bool.not_true]
      refine WO.call (.tuple #[.int .i64 (moveF k a b).1, .agg #[.int .i64 (moveF k a b).2.1, .int .i64 (moveF k a b).2.2.1], .int .i64 (moveF k a b).2.2.2]) (ds := []) rfl rfl rfl rfl co15 (fun ρ w1 hb => rmove_spec w1 k a b) ?_
      refine WO.go 8 (ds := []) rfl ?_
      simp only [sx, ty, Bool.false_eq_true, Int.reduceEq, Int.reduceLT, Nat.reduceAdd, Nat.reduceSub, Nat.reduceMul, Nat.reduceLT, Nat.reduceLeDiff, Nat.reduceEqDiff, List.reduceReplicate, reduceIte, beq_self_eq_true, bne_self_eq_false, Int.reduceBEq, Int.reduceBNe, Bool.or_false, Bool.false_or, Bool.not_false, Bool.not_true]
      with_reducible refine WO.nil ?_
      refine hK13 _ ?_; clear hK13
      refine W.seqK fun K14 hK14 => W.region ?_
      refine WO.go 9 (ds := [some 95, some 96, some 97, some 98, some 99, some 100, some 101, some 102, some 103, some 104, some 105, some 106, some 107, some 108, some 109, some 110, some 11]) rfl ?_
      simp only [sx, ty, Bool.false_eq_true, Int.reduceEq, Int.reduceLT, Nat.reduceAdd, Nat.reduceSub, Nat.reduceMul, Nat.reduceLT, Nat.reduceLeDiff, Nat.reduceEqDiff, List.reduceReplicate, reduceIte, beq_self_eq_true, bne_self_eq_false, Int.reduceBEq, Int.reduceBNe, Bool.or_false, Bool.false_or, Bool.not_false, Bool.not_true]
      refine WO.aggCmp [(moveF k a b).2.1, (moveF k a b).2.2.1] [(moveF k a b).2.1, (moveF k a b).2.2.1] (ds := [some 95, some 96, some 97, some 98, some 99, some 100, some 101, some 102, some 103, some 104, some 105, some 106, some 107, some 108, some 109, some 110, some 11]) rfl rfl rfl rfl ⟨_, rfl, fun _ => rfl⟩ ⟨_, rfl, fun _ => rfl⟩ it23 rfl rfl rfl ?_
      refine WO.go 7 (ds := [some 95, some 96, some 97, some 98, some 99, some 100, some 101, some 102, some 103, some 104, some 105, some 106, some 107, some 108, some 109, some 110, some 11]) rfl ?_
      simp only [sx, ty, Bool.false_eq_true, Int.reduceEq, Int.reduceLT, Nat.reduceAdd, Nat.reduceSub, Nat.reduceMul, Nat.reduceLT, Nat.reduceLeDiff, Nat.reduceEqDiff, List.reduceReplicate, reduceIte, beq_self_eq_true, bne_self_eq_false, Int.reduceBEq, Int.reduceBNe, Bool.or_false, Bool.false_or, Bool.not_false, Bool.not_true]
      with_reducible refine WO.nil ?_
      refine hK14 _ ?_; clear hK14
      refine W.seqK fun K15 hK15 => W.region ?_
      refine WO.go 2 (ds := []) rfl ?_
      simp only [sx, ty, Bool.false_eq_true, Int.reduceEq, Int.reduceLT, Nat.reduceAdd, Nat.reduceSub, Nat.reduceMul, Nat.reduceLT, Nat.reduceLeDiff, Nat.reduceEqDiff, List.reduceReplicate, reduceIte, beq_self_eq_true, bne_self_eq_false, Int.reduceBEq, Int.reduceBNe, Bool.or_false, Bool.false_or, Bool.not_false, Bool.not_true]
      refine WO.callM (fun x : Option Addr × Nat => .tuple #[.slice x.1 (signsF k l).1.length x.2, .int .i64 (signsF k l).2]) (fun lo x s9 => rInts.rd (fun b => lo ≤ b) s9 [.slice x.1 (signsF k l).1.length x.2] (signsF k l).1) (ds := []) rfl rfl rfl rfl co16 (fun ρ w1 hb => signs_call (hG.now (hb.first (by simp))) rfl (Rp.now hl (hb.first (by simp)))) fun x lo hr1s hr1 => ?_
      obtain ⟨hr1p, hr1c⟩ := x
      simp only at hr1
      refine WO.go 5 (ds := []) rfl ?_
      simp only [sx, ty, Bool.false_eq_true, Int.reduceEq, Int.reduceLT, Nat.reduceAdd, Nat.reduceSub, Nat.reduceMul, Nat.reduceLT, Nat.reduceLeDiff, Nat.reduceEqDiff, List.reduceReplicate, reduceIte, beq_self_eq_true, bne_self_eq_false, Int.reduceBEq, Int.reduceBNe, Bool.or_false, Bool.false_or, Bool.not_false, Bool.not_true]
      with_reducible refine WO.nil ?_
      refine hK15 _ ?_; clear hK15
      refine W.seqK fun K16 hK16 => W.region ?_
      refine WO.go 2 (ds := []) rfl ?_
      simp only [sx, ty, Bool.false_eq_true, Int.reduceEq, Int.reduceLT, Nat.reduceAdd, Nat.reduceSub, Nat.reduceMul, Nat.reduceLT, Nat.reduceLeDiff, Nat.reduceEqDiff, List.reduceReplicate, reduceIte, beq_self_eq_true, bne_self_eq_false, Int.reduceBEq, Int.reduceBNe, Bool.or_false, Bool.false_or, Bool.not_false, Bool.not_true]
      refine WO.callM (fun x : Option Addr × Nat => .tuple #[.slice x.1 (signsF k l).1.length x.2, .int .i64 (signsF k l).2]) (fun lo x s9 => rInts.rd (fun b => lo ≤ b) s9 [.slice x.1 (signsF k l).1.length x.2] (signsF k l).1) (ds := []) rfl rfl rfl rfl co17 (fun ρ w1 hb => rsigns_call rfl (Rp.now hl (hb.first (by simp)))) fun x lo hr2s hr2 => ?_
      obtain ⟨hr2p, hr2c⟩ := x
      simp only at hr2
      refine WO.go 5 (ds := []) rfl ?_
      simp only [sx, ty, Bool.false_eq_true, Int.reduceEq, Int.reduceLT, Nat.reduceAdd, Nat.reduceSub, Nat.reduceMul, Nat.reduceLT, Nat.reduceLeDiff, Nat.reduceEqDiff, List.reduceReplicate, reduceIte, beq_self_eq_true, bne_self_eq_false, Int.reduceBEq, Int.reduceBNe, Bool.or_false, Bool.false_or, Bool.not_false, Bool.not_true]
      with_reducible refine WO.nil ?_
      refine hK16 _ ?_; clear hK16
      refine W.seqK fun K17 hK17 => W.region ?_
      refine WO.go 4 (ds := [some 123, some 124, some 125, some 126, some 127, some 128, some 129, some 130, some 131, some 132, some 133, some 11]) rfl ?_
      simp only [sx, ty, Bool.false_eq_true, Int.reduceEq, Int.reduceLT, Nat.reduceAdd, Nat.reduceSub, Nat.reduceMul, Nat.reduceLT, Nat.reduceLeDiff, Nat.reduceEqDiff, List.reduceReplicate, reduceIte, beq_self_eq_true, bne_self_eq_false, Int.reduceBEq, Int.reduceBNe, Bool.or_false, Bool.false_or, Bool.not_false, Bool.not_true]
      refine WO.call (.bool true) (ds := [some 123, some 124, some 125, some 126, some 127, some 128, some 129, some 130, some 131, some 132, some 133, some 11]) rfl rfl rfl rfl co18 (fun ρ w1 hb => sameInts_call (Rp.keep hr1 (hb.at (by simp))) (Rp.keep hr2 (hb.at (by simp)))) ?_
      refine WO.go 7 (ds := [some 123, some 124, some 125, some 126, some 127, some 128, some 129, some 130, some 131, some 132, some 133, some 11]) rfl ?_
      simp only [sx, ty, Bool.false_eq_true, Int.reduceEq, Int.reduceLT, Nat.reduceAdd, Nat.reduceSub, Nat.reduceMul, Nat.reduceLT, Nat.reduceLeDiff, Nat.reduceEqDiff, List.reduceReplicate, reduceIte, beq_self_eq_true, bne_self_eq_false, Int.reduceBEq, Int.reduceBNe, Bool.or_false, Bool.false_or, Bool.not_false, Bool.not_true]
      with_reducible refine WO.nil ?_
      refine hK17 _ ?_; clear hK17
      refine W.seqK fun K18 hK18 => W.region ?_
      refine WO.go 3 (ds := []) rfl ?_
      simp only [sx, ty, Bool.false_eq_true, Int.reduceEq, Int.reduceLT, Nat.reduceAdd, Nat.reduceSub, Nat.reduceMul, Nat.reduceLT, Nat.reduceLeDiff, Nat.reduceEqDiff, List.reduceReplicate, reduceIte, beq_self_eq_true, bne_self_eq_false, Int.reduceBEq, Int.reduceBNe, Bool.or_false, Bool.false_or, Bool.not_false, Bool.not_true]
      refine WO.callM (fun x : Option Addr × Nat => .tuple #[.slice x.1 (readF k l s).1.length x.2, .int .i64 (readF k l s).2]) (fun lo x s9 => rPits.rd (fun b => lo ≤ b) s9 [.slice x.1 (readF k l s).1.length x.2] (readF k l s).1) (ds := []) rfl rfl rfl rfl co19 (fun ρ w1 hb => read_call (hG.now (hb.first (by simp))) rfl (Rp.now hl (hb.first (by simp))) (Rp.now hl2 (hb.first (by simp)))) fun x lo hr3s hr3 => ?_
      obtain ⟨hr3p, hr3c⟩ := x
      simp only at hr3
      refine WO.go 5 (ds := []) rfl ?_
      simp only [sx, ty, Bool.false_eq_true, Int.reduceEq, Int.reduceLT, Nat.reduceAdd, Nat.reduceSub, Nat.reduceMul, Nat.reduceLT, Nat.reduceLeDiff, Nat.reduceEqDiff, List.reduceReplicate, reduceIte, beq_self_eq_true, bne_self_eq_false, Int.reduceBEq, Int.reduceBNe, Bool.or_false, Bool.false_or, Bool.not_false, Bool.not_true]
      with_reducible refine WO.nil ?_
      refine hK18 _ ?_; clear hK18
      refine W.seqK fun K19 hK19 => W.region ?_
      refine WO.go 3 (ds := []) rfl ?_
      simp only [sx, ty, Bool.false_eq_true, Int.reduceEq, Int.reduceLT, Nat.reduceAdd, Nat.reduceSub, Nat.reduceMul, Nat.reduceLT, Nat.reduceLeDiff, Nat.reduceEqDiff, List.reduceReplicate, reduceIte, beq_self_eq_true, bne_self_eq_false, Int.reduceBEq, Int.reduceBNe, Bool.or_false, Bool.false_or, Bool.not_false, Bool.not_true]
      refine WO.callM (fun x : Option Addr × Nat => .tuple #[.slice x.1 (readF k l s).1.length x.2, .int .i64 (readF k l s).2]) (fun lo x s9 => rPits.rd (fun b => lo ≤ b) s9 [.slice x.1 (readF k l s).1.length x.2] (readF k l s).1) (ds := []) rfl rfl rfl rfl co20 (fun ρ w1 hb => rread_call rfl (Rp.now hl (hb.first (by simp))) (Rp.now hl2 (hb.first (by simp)))) fun x lo hr4s hr4 => ?_
      obtain ⟨hr4p, hr4c⟩ := x
      simp only at hr4
      refine WO.go 5 (ds := []) rfl ?_
      simp only [sx, ty, Bool.false_eq_true, Int.reduceEq, Int.reduceLT, Nat.reduceAdd, Nat.reduceSub, Nat.reduceMul, Nat.reduceLT, Nat.reduceLeDiff, Nat.reduceEqDiff, List.reduceReplicate, reduceIte, beq_self_eq_true, bne_self_eq_false, Int.reduceBEq, Int.reduceBNe, Bool.or_false, Bool.false_or, Bool.not_false, Bool.not_true]
      with_reducible refine WO.nil ?_
      refine hK19 _ ?_; clear hK19
      refine W.seqK fun K20 hK20 => W.region ?_
      refine WO.go 4 (ds := [some 148, some 149, some 150, some 151, some 152, some 153, some 154, some 155, some 156, some 157, some 158, some 10]) rfl ?_
      simp only [sx, ty, Bool.false_eq_true, Int.reduceEq, Int.reduceLT, Nat.reduceAdd, Nat.reduceSub, Nat.reduceMul, Nat.reduceLT, Nat.reduceLeDiff, Nat.reduceEqDiff, List.reduceReplicate, reduceIte, beq_self_eq_true, bne_self_eq_false, Int.reduceBEq, Int.reduceBNe, Bool.or_false, Bool.false_or, Bool.not_false, Bool.not_true]
      refine WO.call (.bool true) (ds := [some 148, some 149, some 150, some 151, some 152, some 153, some 154, some 155, some 156, some 157, some 158, some 10]) rfl rfl rfl rfl co21 (fun ρ w1 hb => same_call (Rp.keep hr3 (hb.at (by simp))) (Rp.keep hr4 (hb.at (by simp)))) ?_
      refine WO.go 7 (ds := [some 148, some 149, some 150, some 151, some 152, some 153, some 154, some 155, some 156, some 157, some 158, some 10]) rfl ?_
      simp only [sx, ty, Bool.false_eq_true, Int.reduceEq, Int.reduceLT, Nat.reduceAdd, Nat.reduceSub, Nat.reduceMul, Nat.reduceLT, Nat.reduceLeDiff, Nat.reduceEqDiff, List.reduceReplicate, reduceIte, beq_self_eq_true, bne_self_eq_false, Int.reduceBEq, Int.reduceBNe, Bool.or_false, Bool.false_or, Bool.not_false, Bool.not_true]
      with_reducible refine WO.nil ?_
      refine hK20 _ ?_; clear hK20
      refine W.ret ⟨by simp, _, rfl, fun ρ w1 hb => ?_⟩
      rfl

theorem intv_open {S : Nat → Prop} {w : World} {cs : Array Value} {x : Int × Int} (h : (Rp.pair (Rp.int .i64) (Rp.int .i64)).rd S w cs.toList x) : cs = #[.int .i64 x.1, .int .i64 x.2] := by
  obtain ⟨c1, c2, e, h1, h2⟩ := h
  have h1 : c1 = [.int .i64 x.1] := h1
  have h2 : c2 = [.int .i64 x.2] := h2
  apply Array.toList_inj.1
  rw [e, h1, h2]; rfl
def nsum (k : Int) : Nat → Int
  | 0 => 0
  | n + 1 => nsum k n + (alterF (k + 1) n - alterF k n)
theorem next_all : ∀ (q : Fin 14) (i : Fin 7), 0 ≤ alterF ((q.val : Int) - 7 + 1) i.val - alterF ((q.val : Int) - 7) i.val ∧ alterF ((q.val : Int) - 7 + 1) i.val - alterF ((q.val : Int) - 7) i.val ≤ 1 ∧ alterF 0 i.val = 0 := by decide
theorem next_one : ∀ (q : Fin 14), nsum ((q.val : Int) - 7) 7 = 1 := by decide
theorem next_fact {k : Int} (h1 : -7 ≤ k) (h2 : k ≤ 6) {i : Nat} (hi : i < 7) : 0 ≤ alterF (k + 1) i - alterF k i ∧ alterF (k + 1) i - alterF k i ≤ 1 ∧ alterF 0 i = 0 := by
  have := next_all ⟨(k + 7).toNat, by omega⟩ ⟨i, hi⟩
  simp only [show (((k + 7).toNat : Nat) : Int) - 7 = k by omega] at this
  exact this
theorem next_sum {k : Int} (h1 : -7 ≤ k) (h2 : k ≤ 6) : nsum k 7 = 1 := by
  have := next_one ⟨(k + 7).toNat, by omega⟩
  simpa only [show (((k + 7).toNat : Nat) : Int) - 7 = k by omega] using this
theorem nsum_bound {k : Int} (h1 : -7 ≤ k) (h2 : k ≤ 6) : ∀ n, n ≤ 7 → 0 ≤ nsum k n ∧ nsum k n ≤ n
  | 0, _ => ⟨Int.le_refl _, Int.le_refl _⟩
  | n + 1, h => by
    have ih := nsum_bound h1 h2 n (by omega)
    have hf := next_fact h1 h2 (i := n) (by omega)
    simp only [nsum]; omega
theorem alter_step {k : Int} (hk : isKey k = true) {i : Nat} (hi : i < 7) : AlterF k i = (alterF k i, 0) := AlterF_yes (by rw [hk, within_iff.2 (by omega)]; rfl)
theorem alter_bound (k s : Int) : -1 ≤ alterF k s ∧ alterF k s ≤ 1 := by unfold alterF; split <;> (try split) <;> omega
/-- function 4 -/
theorem law2 {w : World} (hG : GS w) (k : Int) : Gives Tryd.prog 4 #[.int .i64 k] w fun r _ => r = .bool true := by
  refine gives_of [.val (.int .i64 k)] 81 [.tmp 2] Tryd.func4 rfl rfl rfl (by simp) rfl rfl ?_
  refine W.pure (ds := []) rfl fun K1 hK1 => ?_
  simp only [sx, ty, Bool.false_eq_true, Int.reduceEq, Int.reduceLT, Nat.reduceAdd, Nat.reduceSub, Nat.reduceMul, Nat.reduceLT, Nat.reduceLeDiff, Nat.reduceEqDiff, List.reduceReplicate, reduceIte, beq_self_eq_true, bne_self_eq_false, Int.reduceBEq, Int.reduceBNe, Bool.or_false, Bool.false_or, Bool.not_false, Bool.not_true]; with_reducible refine hK1 _ ?_; clear hK1
  refine W.seqK fun K2 hK2 => W.region ?_
  refine WO.call (.bool true) (ds := []) rfl rfl rfl rfl co9 (fun ρ w1 hb => head_spec (hG.now (hb.first (by simp)))) ?_
  refine WO.go 1 (ds := []) rfl ?_
  simp only [sx, ty, Bool.false_eq_true, Int.reduceEq, Int.reduceLT, Nat.reduceAdd, Nat.reduceSub, Nat.reduceMul, Nat.reduceLT, Nat.reduceLeDiff, Nat.reduceEqDiff, List.reduceReplicate, reduceIte, beq_self_eq_true, bne_self_eq_false, Int.reduceBEq, Int.reduceBNe, Bool.or_false, Bool.false_or, Bool.not_false, Bool.not_true]
  with_reducible refine WO.nil ?_
  refine hK2 _ ?_; clear hK2
  refine W.seqK fun K3 hK3 => ?_
  refine W.join 21 (.val (.bool (!(isKey k && isKey (IntKind.i64.wrap (k + 1)))))) [0, 3] (W.region ?_) ?_
  · skip
    refine WO.go 1 (ds := [some 13, some 14, some 15, some 16, some 17, some 18, some 19, some 20, some 21]) rfl ?_
    simp only [sx, ty, Bool.false_eq_true, Int.reduceEq, Int.reduceLT, Nat.reduceAdd, Nat.reduceSub, Nat.reduceMul, Nat.reduceLT, Nat.reduceLeDiff, Nat.reduceEqDiff, List.reduceReplicate, reduceIte, beq_self_eq_true, bne_self_eq_false, Int.reduceBEq, Int.reduceBNe, Bool.or_false, Bool.false_or, Bool.not_false, Bool.not_true]
    refine WO.call (.bool (isKey k)) (ds := [some 13, some 14, some 15, some 16, some 17, some 18, some 19, some 20, some 21]) rfl rfl rfl rfl co22 (fun ρ w1 hb => rKey_spec w1 k) ?_
    refine WO.go 2 (ds := [some 13, some 14, some 15, some 16, some 17, some 18, some 19, some 20, some 21]) rfl ?_
    simp only [sx, ty, Bool.false_eq_true, Int.reduceEq, Int.reduceLT, Nat.reduceAdd, Nat.reduceSub, Nat.reduceMul, Nat.reduceLT, Nat.reduceLeDiff, Nat.reduceEqDiff, List.reduceReplicate, reduceIte, beq_self_eq_true, bne_self_eq_false, Int.reduceBEq, Int.reduceBNe, Bool.or_false, Bool.false_or, Bool.not_false, Bool.not_true]
    refine WO.cases 16 _ rfl (fun hg16 => ?_) (fun hg16 => ?_)
    · skip
      refine WO.go 5 (ds := [some 13, some 14, some 15, some 16, some 17, some 18, some 19, some 20, some 21]) rfl ?_
      simp only [sx, ty, Bool.false_eq_true, Int.reduceEq, Int.reduceLT, Nat.reduceAdd, Nat.reduceSub, Nat.reduceMul, Nat.reduceLT, Nat.reduceLeDiff, Nat.reduceEqDiff, List.reduceReplicate, reduceIte, beq_self_eq_true, bne_self_eq_false, Int.reduceBEq, Int.reduceBNe, Bool.or_false, Bool.false_or, Bool.not_false, Bool.not_true]
      with_reducible refine WO.nil ?_
      refine ⟨rfl, ?_, ⟨_, rfl⟩, by simp [Own.bnd, bndL, bnd, boxO], by simp⟩
      try rw [hg16]
      simp [getE, bnd, keepE]
      try simp_all
    · skip
      refine WO.go 2 (ds := [some 13, some 14, some 15, some 16, some 17, some 18, some 19, some 20, some 21]) rfl ?_
      simp only [sx, ty, Bool.false_eq_true, Int.reduceEq, Int.reduceLT, Nat.reduceAdd, Nat.reduceSub, Nat.reduceMul, Nat.reduceLT, Nat.reduceLeDiff, Nat.reduceEqDiff, List.reduceReplicate, reduceIte, beq_self_eq_true, bne_self_eq_false, Int.reduceBEq, Int.reduceBNe, Bool.or_false, Bool.false_or, Bool.not_false, Bool.not_true]
      refine WO.call (.bool (isKey (IntKind.i64.wrap (k + 1)))) (ds := [some 13, some 14, some 15, some 16, some 17, some 18, some 19, some 20, some 21]) rfl rfl rfl rfl co22 (fun ρ w1 hb => rKey_spec w1 _) ?_
      refine WO.go 2 (ds := [some 13, some 14, some 15, some 16, some 17, some 18, some 19, some 20, some 21]) rfl ?_
      simp only [sx, ty, Bool.false_eq_true, Int.reduceEq, Int.reduceLT, Nat.reduceAdd, Nat.reduceSub, Nat.reduceMul, Nat.reduceLT, Nat.reduceLeDiff, Nat.reduceEqDiff, List.reduceReplicate, reduceIte, beq_self_eq_true, bne_self_eq_false, Int.reduceBEq, Int.reduceBNe, Bool.or_false, Bool.false_or, Bool.not_false, Bool.not_true]
      with_reducible refine WO.nil ?_
      refine ⟨rfl, ?_, ⟨_, rfl⟩, by simp [Own.bnd, bndL, bnd, boxO], by simp⟩
      try rw [hg16]
      simp [getE, bnd, keepE]
      try simp_all
  · simp only [sx, ty, Bool.false_eq_true, Int.reduceEq, Int.reduceLT, Nat.reduceAdd, Nat.reduceSub, Nat.reduceMul, Nat.reduceLT, Nat.reduceLeDiff, Nat.reduceEqDiff, List.reduceReplicate, reduceIte, sxk, beq_self_eq_true, bne_self_eq_false, Int.reduceBEq, Int.reduceBNe, Bool.or_false, Bool.false_or, Bool.not_false, Bool.not_true]
    refine W.cond rfl rfl (fun hc => ?_) (fun hc => ?_)
    · skip
      refine W.pure (ds := []) rfl fun K5 hK5 => ?_
      simp only [sx, ty, Bool.false_eq_true, Int.reduceEq, Int.reduceLT, Nat.reduceAdd, Nat.reduceSub, Nat.reduceMul, Nat.reduceLT, Nat.reduceLeDiff, Nat.reduceEqDiff, List.reduceReplicate, reduceIte, beq_self_eq_true, bne_self_eq_false, Int.reduceBEq, Int.reduceBNe, Bool.or_false, Bool.false_or, Bool.not_false, Bool.not_true]; with_reducible refine hK5 _ ?_; clear hK5
      refine W.ret ⟨by simp, _, rfl, fun ρ w1 hb => ?_⟩
      rfl
    · skip
      have hk : isKey k = true := by cases h : isKey k <;> simp [h] at hc ⊢
      have hkb := within_iff.1 hk
      have hw1 : IntKind.i64.wrap (k + 1) = k + 1 := wrap_id (by omega) (by omega)
      have hk1 : isKey (k + 1) = true := by rw [hk, hw1] at hc; simpa using hc
      have hkb1 := within_iff.1 hk1
      have hk0 : isKey 0 = true := by decide
      refine W.skip (hK3 _ ?_)
      refine W.pure (ds := []) rfl fun K6 hK6 => ?_
      simp only [sx, ty, Bool.false_eq_true, Int.reduceEq, Int.reduceLT, Nat.reduceAdd, Nat.reduceSub, Nat.reduceMul, Nat.reduceLT, Nat.reduceLeDiff, Nat.reduceEqDiff, List.reduceReplicate, reduceIte, beq_self_eq_true, bne_self_eq_false, Int.reduceBEq, Int.reduceBNe, Bool.or_false, Bool.false_or, Bool.not_false, Bool.not_true]; with_reducible refine hK6 _ ?_; clear hK6
      refine W.seqK fun K7 hK7 => ?_
      refine W.pure (ds := []) rfl fun K8 hK8 => ?_
      simp only [sx, ty, Bool.false_eq_true, Int.reduceEq, Int.reduceLT, Nat.reduceAdd, Nat.reduceSub, Nat.reduceMul, Nat.reduceLT, Nat.reduceLeDiff, Nat.reduceEqDiff, List.reduceReplicate, reduceIte, beq_self_eq_true, bne_self_eq_false, Int.reduceBEq, Int.reduceBNe, Bool.or_false, Bool.false_or, Bool.not_false, Bool.not_true]; with_reducible refine hK8 _ ?_; clear hK8
      refine W.block ?_
      refine W.loopK (X := Nat) [0, 3] (fun x => [(4, .val (.int .i64 (nsum k x))), (5, .val (.int .i64 x))]) (fun x => x ≤ 7) (fun x => 7 - x) 0 ?_ ?_ ?_
      · exact ⟨rfl, by simp [getE, bnd, keepE, nsum], ⟨[], by simp [nsum]⟩, by simp [Own.bnd, bndL, bnd, boxO], by simp⟩
      · skip
        exact Nat.zero_le _
      · rintro i hi
        simp only [sx, ty, Bool.false_eq_true, Int.reduceEq, Int.reduceLT, Nat.reduceAdd, Nat.reduceSub, Nat.reduceMul, Nat.reduceLT, Nat.reduceLeDiff, Nat.reduceEqDiff, List.reduceReplicate, reduceIte, sxk, beq_self_eq_true, bne_self_eq_false, Int.reduceBEq, Int.reduceBNe, Bool.or_false, Bool.false_or, Bool.not_false, Bool.not_true]
        refine W.seqK fun K9 hK9 => ?_
        refine W.pure (ds := []) rfl fun K10 hK10 => ?_
        simp only [sx, ty, Bool.false_eq_true, Int.reduceEq, Int.reduceLT, Nat.reduceAdd, Nat.reduceSub, Nat.reduceMul, Nat.reduceLT, Nat.reduceLeDiff, Nat.reduceEqDiff, List.reduceReplicate, reduceIte, beq_self_eq_true, bne_self_eq_false, Int.reduceBEq, Int.reduceBNe, Bool.or_false, Bool.false_or, Bool.not_false, Bool.not_true]; with_reducible refine hK10 _ ?_; clear hK10
        refine W.cond rfl rfl (fun hc => ?_) (fun hc => ?_)
        · skip
          have hlt : i < 7 := by simp at hc; omega
          have hn := next_fact hkb.1 (by omega) hlt
          have hdw : IntKind.i64.wrap (alterF (k + 1) (i : Int) - alterF k (i : Int)) = alterF (k + 1) i - alterF k i := wrap_id (by omega) (by omega)
          have hnb := nsum_bound hkb.1 (by omega) i (by omega)
          refine W.skip (hK9 _ ?_)
          refine W.seqK fun K11 hK11 => ?_
          refine W.block ?_
          skip
          refine W.seqK fun K12 hK12 => W.region ?_
          refine WO.go 2 (ds := []) rfl ?_
          simp only [sx, ty, Bool.false_eq_true, Int.reduceEq, Int.reduceLT, Nat.reduceAdd, Nat.reduceSub, Nat.reduceMul, Nat.reduceLT, Nat.reduceLeDiff, Nat.reduceEqDiff, List.reduceReplicate, reduceIte, beq_self_eq_true, bne_self_eq_false, Int.reduceBEq, Int.reduceBNe, Bool.or_false, Bool.false_or, Bool.not_false, Bool.not_true]
          refine WO.call (.tuple #[.int .i64 (alterF k i), .int .i64 0]) (ds := []) rfl rfl rfl rfl co10 (fun ρ w1 hb => Alter_call (hG.now (hb.first (by simp))) (alter_step hk hlt)) ?_
          refine WO.go 5 (ds := []) rfl ?_
          simp only [sx, ty, Bool.false_eq_true, Int.reduceEq, Int.reduceLT, Nat.reduceAdd, Nat.reduceSub, Nat.reduceMul, Nat.reduceLT, Nat.reduceLeDiff, Nat.reduceEqDiff, List.reduceReplicate, reduceIte, beq_self_eq_true, bne_self_eq_false, Int.reduceBEq, Int.reduceBNe, Bool.or_false, Bool.false_or, Bool.not_false, Bool.not_true]
          with_reducible refine WO.nil ?_
          refine hK12 _ ?_; clear hK12
          refine W.seqK fun K13 hK13 => W.region ?_
          refine WO.go 3 (ds := []) rfl ?_
          simp only [sx, ty, Bool.false_eq_true, Int.reduceEq, Int.reduceLT, Nat.reduceAdd, Nat.reduceSub, Nat.reduceMul, Nat.reduceLT, Nat.reduceLeDiff, Nat.reduceEqDiff, List.reduceReplicate, reduceIte, beq_self_eq_true, bne_self_eq_false, Int.reduceBEq, Int.reduceBNe, Bool.or_false, Bool.false_or, Bool.not_false, Bool.not_true]
          refine WO.call (.tuple #[.int .i64 (alterF (k + 1) i), .int .i64 0]) (ds := []) rfl rfl rfl rfl co10 (fun ρ w1 hb => by have := Alter_call (hG.now (hb.first (by simp))) (alter_step hk1 hlt); rw [← hw1] at this; simpa [denL_eq, den, hw1] using this) ?_
          refine WO.go 5 (ds := []) rfl ?_
          simp only [sx, ty, Bool.false_eq_true, Int.reduceEq, Int.reduceLT, Nat.reduceAdd, Nat.reduceSub, Nat.reduceMul, Nat.reduceLT, Nat.reduceLeDiff, Nat.reduceEqDiff, List.reduceReplicate, reduceIte, beq_self_eq_true, bne_self_eq_false, Int.reduceBEq, Int.reduceBNe, Bool.or_false, Bool.false_or, Bool.not_false, Bool.not_true]
          with_reducible refine WO.nil ?_
          refine hK13 _ ?_; clear hK13
          refine W.seqK fun K14 hK14 => W.region ?_
          refine WO.go 1 (ds := []) rfl ?_
          simp only [sx, ty, Bool.false_eq_true, Int.reduceEq, Int.reduceLT, Nat.reduceAdd, Nat.reduceSub, Nat.reduceMul, Nat.reduceLT, Nat.reduceLeDiff, Nat.reduceEqDiff, List.reduceReplicate, reduceIte, beq_self_eq_true, bne_self_eq_false, Int.reduceBEq, Int.reduceBNe, Bool.or_false, Bool.false_or, Bool.not_false, Bool.not_true]
          refine WO.call (.tuple #[.int .i64 (alterF 0 i), .int .i64 0]) (ds := []) rfl rfl rfl rfl co10 (fun ρ w1 hb => Alter_call (hG.now (hb.first (by simp))) (alter_step hk0 hlt)) ?_
          refine WO.go 5 (ds := []) rfl ?_
          simp only [sx, ty, Bool.false_eq_true, Int.reduceEq, Int.reduceLT, Nat.reduceAdd, Nat.reduceSub, Nat.reduceMul, Nat.reduceLT, Nat.reduceLeDiff, Nat.reduceEqDiff, List.reduceReplicate, reduceIte, beq_self_eq_true, bne_self_eq_false, Int.reduceBEq, Int.reduceBNe, Bool.or_false, Bool.false_or, Bool.not_false, Bool.not_true]
          with_reducible refine WO.nil ?_
          refine hK14 _ ?_; clear hK14
          refine W.seqK fun K15 hK15 => ?_
          refine W.seqK fun K16 hK16 => W.region ?_
          refine WO.go 3 (ds := [some 45, some 46, some 47, some 48, some 49, some 50, some 51, some 52, some 53, some 54, some 55, some 56, some 57, some 58, some 59, some 60, some 61, some 62, some 63, some 64, some 65, some 66, some 67, some 68, some 69, some 70]) rfl ?_
          simp only [sx, ty, Bool.false_eq_true, Int.reduceEq, Int.reduceLT, Nat.reduceAdd, Nat.reduceSub, Nat.reduceMul, Nat.reduceLT, Nat.reduceLeDiff, Nat.reduceEqDiff, List.reduceReplicate, reduceIte, beq_self_eq_true, bne_self_eq_false, Int.reduceBEq, Int.reduceBNe, Bool.or_false, Bool.false_or, Bool.not_false, Bool.not_true]
          refine WO.cases 47 _ rfl (fun hg47 => ?_) (fun hg47 => ?_)
          · skip
            simp at hg47
          · skip
            refine WO.go 4 (ds := [some 45, some 46, some 47, some 48, some 49, some 50, some 51, some 52, some 53, some 54, some 55, some 56, some 57, some 58, some 59, some 60, some 61, some 62, some 63, some 64, some 65, some 66, some 67, some 68, some 69, some 70]) rfl ?_
            simp only [sx, ty, Bool.false_eq_true, Int.reduceEq, Int.reduceLT, Nat.reduceAdd, Nat.reduceSub, Nat.reduceMul, Nat.reduceLT, Nat.reduceLeDiff, Nat.reduceEqDiff, List.reduceReplicate, reduceIte, beq_self_eq_true, bne_self_eq_false, Int.reduceBEq, Int.reduceBNe, Bool.or_false, Bool.false_or, Bool.not_false, Bool.not_true]
            refine WO.cases 51 _ rfl (fun hg51 => ?_) (fun hg51 => ?_)
            · skip
              simp at hg51
            · skip
              refine WO.go 4 (ds := [some 45, some 46, some 47, some 48, some 49, some 50, some 51, some 52, some 53, some 54, some 55, some 56, some 57, some 58, some 59, some 60, some 61, some 62, some 63, some 64, some 65, some 66, some 67, some 68, some 69, some 70]) rfl ?_
              simp only [sx, ty, Bool.false_eq_true, Int.reduceEq, Int.reduceLT, Nat.reduceAdd, Nat.reduceSub, Nat.reduceMul, Nat.reduceLT, Nat.reduceLeDiff, Nat.reduceEqDiff, List.reduceReplicate, reduceIte, beq_self_eq_true, bne_self_eq_false, Int.reduceBEq, Int.reduceBNe, Bool.or_false, Bool.false_or, Bool.not_false, Bool.not_true]
              refine WO.cases 55 _ rfl (fun hg55 => ?_) (fun hg55 => ?_)
              · skip
                simp at hg55
              · skip
                refine WO.go 6 (ds := [some 45, some 46, some 47, some 48, some 49, some 50, some 51, some 52, some 53, some 54, some 55, some 56, some 57, some 58, some 59, some 60, some 61, some 62, some 63, some 64, some 65, some 66, some 67, some 68, some 69, some 70]) rfl ?_
                simp only [sx, ty, Bool.false_eq_true, Int.reduceEq, Int.reduceLT, Nat.reduceAdd, Nat.reduceSub, Nat.reduceMul, Nat.reduceLT, Nat.reduceLeDiff, Nat.reduceEqDiff, List.reduceReplicate, reduceIte, beq_self_eq_true, bne_self_eq_false, Int.reduceBEq, Int.reduceBNe, Bool.or_false, Bool.false_or, Bool.not_false, Bool.not_true]
                refine WO.cases 61 _ rfl (fun hg61 => ?_) (fun hg61 => ?_)
                · skip
                  rw [hdw] at hg61
                  simp at hg61
                  omega
                · skip
                  refine WO.go 6 (ds := [some 45, some 46, some 47, some 48, some 49, some 50, some 51, some 52, some 53, some 54, some 55, some 56, some 57, some 58, some 59, some 60, some 61, some 62, some 63, some 64, some 65, some 66, some 67, some 68, some 69, some 70]) rfl ?_
                  simp only [sx, ty, Bool.false_eq_true, Int.reduceEq, Int.reduceLT, Nat.reduceAdd, Nat.reduceSub, Nat.reduceMul, Nat.reduceLT, Nat.reduceLeDiff, Nat.reduceEqDiff, List.reduceReplicate, reduceIte, beq_self_eq_true, bne_self_eq_false, Int.reduceBEq, Int.reduceBNe, Bool.or_false, Bool.false_or, Bool.not_false, Bool.not_true]
                  refine WO.cases 67 _ rfl (fun hg67 => ?_) (fun hg67 => ?_)
                  · skip
                    rw [hdw] at hg67
                    simp at hg67
                    omega
                  · skip
                    refine WO.go 3 (ds := [some 45, some 46, some 47, some 48, some 49, some 50, some 51, some 52, some 53, some 54, some 55, some 56, some 57, some 58, some 59, some 60, some 61, some 62, some 63, some 64, some 65, some 66, some 67, some 68, some 69, some 70]) rfl ?_
                    simp only [sx, ty, Bool.false_eq_true, Int.reduceEq, Int.reduceLT, Nat.reduceAdd, Nat.reduceSub, Nat.reduceMul, Nat.reduceLT, Nat.reduceLeDiff, Nat.reduceEqDiff, List.reduceReplicate, reduceIte, beq_self_eq_true, bne_self_eq_false, Int.reduceBEq, Int.reduceBNe, Bool.or_false, Bool.false_or, Bool.not_false, Bool.not_true]
                    with_reducible refine WO.nil ?_
                    refine hK16 _ ?_; clear hK16
                    refine W.cond rfl rfl (fun hc => ?_) (fun hc => ?_)
                    · skip
                      rw [hn.2.2] at hc
                      simp at hc
                    · skip
                      refine W.skip (hK15 _ ?_)
                      refine W.region ?_
                      refine WO.go 6 (ds := []) rfl ?_
                      simp only [sx, ty, Bool.false_eq_true, Int.reduceEq, Int.reduceLT, Nat.reduceAdd, Nat.reduceSub, Nat.reduceMul, Nat.reduceLT, Nat.reduceLeDiff, Nat.reduceEqDiff, List.reduceReplicate, reduceIte, beq_self_eq_true, bne_self_eq_false, Int.reduceBEq, Int.reduceBNe, Bool.or_false, Bool.false_or, Bool.not_false, Bool.not_true]
                      with_reducible refine WO.nil ?_
                      refine hK11 _ ?_
                      refine W.region ?_
                      refine WO.go 3 (ds := []) rfl ?_
                      simp only [sx, ty, Bool.false_eq_true, Int.reduceEq, Int.reduceLT, Nat.reduceAdd, Nat.reduceSub, Nat.reduceMul, Nat.reduceLT, Nat.reduceLeDiff, Nat.reduceEqDiff, List.reduceReplicate, reduceIte, beq_self_eq_true, bne_self_eq_false, Int.reduceBEq, Int.reduceBNe, Bool.or_false, Bool.false_or, Bool.not_false, Bool.not_true]
                      with_reducible refine WO.nil ?_
                      refine ⟨i + 1, ?_, by first | omega | (simp; omega), rfl, by simp [getE, bnd, keepE, wrap_succ (show i + 1 ≤ 9223372036854775807 by omega), hdw, nsum, wrap_id (x := nsum k i + (alterF (k + 1) i - alterF k i)) (by omega) (by omega)], ⟨_, rfl⟩, by simp [Own.bnd, bndL, bnd, boxO], by simp⟩
                      exact hlt
        · skip
          have hi7 : i = 7 := by simp at hc; omega
          subst hi7
          refine W.exit (hK7 _ ?_)
          refine W.seqK fun K17 hK17 => W.region ?_
          refine WO.go 6 (ds := [some 76, some 77, some 78, some 79, some 80, some 2]) rfl ?_
          simp only [sx, ty, Bool.false_eq_true, Int.reduceEq, Int.reduceLT, Nat.reduceAdd, Nat.reduceSub, Nat.reduceMul, Nat.reduceLT, Nat.reduceLeDiff, Nat.reduceEqDiff, List.reduceReplicate, reduceIte, beq_self_eq_true, bne_self_eq_false, Int.reduceBEq, Int.reduceBNe, Bool.or_false, Bool.false_or, Bool.not_false, Bool.not_true]
          with_reducible refine WO.nil ?_
          refine hK17 _ ?_; clear hK17
          refine W.ret ⟨by simp, _, rfl, fun ρ w1 hb => ?_⟩
          simp only [den, next_sum hkb.1 (show k ≤ 6 by omega)]; rfl

theorem moves_fact {k a b : Int} (hk : isKey k = true) (hf : formed a b = true) : ∃ k1 a1, moveF k a b = (k1, a1, b, 0) ∧ isKey k1 = true ∧ (-7 ≤ k1 ∧ k1 ≤ 7) ∧ (-70 ≤ a1 ∧ a1 ≤ 70) ∧ fifthsF a1 b = (IntKind.i64.wrap (k1 - k), 0) ∧
    moveF k1 (IntKind.i64.wrap (0 - a1)) (IntKind.i64.wrap (0 - b)) = (k, IntKind.i64.wrap (0 - a1), IntKind.i64.wrap (0 - b), 0) := by
  have hkb := within_iff.1 hk
  have hfb := formed_iff.1 hf
  have ht : ∃ t, turns (7 * b - 12 * a + k) = t ∧ -7 ≤ 7 * b - 12 * a + k - 12 * t ∧ 7 * b - 12 * a + k - 12 * t ≤ 7 ∧ -70 ≤ a + t ∧ a + t ≤ 70 := by
    refine ⟨_, rfl, ?_⟩
    unfold turns
    split
    · omega
    · split <;> omega
  obtain ⟨t, ht, h1, h2, h3, h4⟩ := ht
  have e1 : moveF k a b = (7 * b - 12 * a + k - 12 * t, a + t, b, 0) := by rw [moveF_yes (by rw [hf, hk]; rfl), ht]
  have hk1 : isKey (7 * b - 12 * a + k - 12 * t) = true := within_iff.2 ⟨h1, h2⟩
  refine ⟨_, _, e1, hk1, ⟨h1, h2⟩, ⟨h3, h4⟩, ?_, ?_⟩
  · rw [fifthsF_yes (formed_iff.2 ⟨h3, h4, hfb.2.2⟩), wrap_id (by omega) (by omega)]
    congr 1; omega
  · rw [wrap_id (x := 0 - (a + t)) (by omega) (by omega), wrap_id (x := 0 - b) (by omega) (by omega)]
    have hf' : formed (0 - (a + t)) (0 - b) = true := formed_iff.2 (by omega)
    rw [moveF_yes (by rw [hf', hk1]; rfl)]
    have hn : 7 * (0 - b) - 12 * (0 - (a + t)) + (7 * b - 12 * a + k - 12 * t) = k := by omega
    have h0 : turns k = 0 := by unfold turns; rw [if_neg (by omega), if_neg (by omega)]
    rw [hn, h0]
    simp
/-- function 5 -/
theorem law3 {w : World} (hG : GS w) (k a b : Int) : Gives Tryd.prog 5 #[.int .i64 k, .agg #[.int .i64 a, .int .i64 b]] w fun r _ => r = .bool true := by
  refine gives_of [.val (.int .i64 k), .agg [.val (.int .i64 a), .val (.int .i64 b)]] 96 [.tmp 4] Tryd.func5 rfl rfl rfl (by simp) rfl rfl ?_
  refine W.pure (ds := []) rfl fun K1 hK1 => ?_
  simp only [sx, ty, Bool.false_eq_true, Int.reduceEq, Int.reduceLT, Nat.reduceAdd, Nat.reduceSub, Nat.reduceMul, Nat.reduceLT, Nat.reduceLeDiff, Nat.reduceEqDiff, List.reduceReplicate, reduceIte, beq_self_eq_true, bne_self_eq_false, Int.reduceBEq, Int.reduceBNe, Bool.or_false, Bool.false_or, Bool.not_false, Bool.not_true]; with_reducible refine hK1 _ ?_; clear hK1
  refine W.seqK fun K2 hK2 => W.region ?_
  refine WO.call (.bool true) (ds := []) rfl rfl rfl rfl co9 (fun ρ w1 hb => head_spec (hG.now (hb.first (by simp)))) ?_
  refine WO.go 1 (ds := []) rfl ?_
  simp only [sx, ty, Bool.false_eq_true, Int.reduceEq, Int.reduceLT, Nat.reduceAdd, Nat.reduceSub, Nat.reduceMul, Nat.reduceLT, Nat.reduceLeDiff, Nat.reduceEqDiff, List.reduceReplicate, reduceIte, beq_self_eq_true, bne_self_eq_false, Int.reduceBEq, Int.reduceBNe, Bool.or_false, Bool.false_or, Bool.not_false, Bool.not_true]
  with_reducible refine WO.nil ?_
  refine hK2 _ ?_; clear hK2
  refine W.seqK fun K3 hK3 => ?_
  refine W.join 22 (.val (.bool (!(isKey k && formed a b)))) [0, 3, 5] (W.region ?_) ?_
  · skip
    refine WO.go 1 (ds := [some 15, some 16, some 17, some 18, some 19, some 20, some 21, some 22]) rfl ?_
    simp only [sx, ty, Bool.false_eq_true, Int.reduceEq, Int.reduceLT, Nat.reduceAdd, Nat.reduceSub, Nat.reduceMul, Nat.reduceLT, Nat.reduceLeDiff, Nat.reduceEqDiff, List.reduceReplicate, reduceIte, beq_self_eq_true, bne_self_eq_false, Int.reduceBEq, Int.reduceBNe, Bool.or_false, Bool.false_or, Bool.not_false, Bool.not_true]
    refine WO.call (.bool (isKey k)) (ds := [some 15, some 16, some 17, some 18, some 19, some 20, some 21, some 22]) rfl rfl rfl rfl co22 (fun ρ w1 hb => rKey_spec w1 k) ?_
    refine WO.go 2 (ds := [some 15, some 16, some 17, some 18, some 19, some 20, some 21, some 22]) rfl ?_
    simp only [sx, ty, Bool.false_eq_true, Int.reduceEq, Int.reduceLT, Nat.reduceAdd, Nat.reduceSub, Nat.reduceMul, Nat.reduceLT, Nat.reduceLeDiff, Nat.reduceEqDiff, List.reduceReplicate, reduceIte, beq_self_eq_true, bne_self_eq_false, Int.reduceBEq, Int.reduceBNe, Bool.or_false, Bool.false_or, Bool.not_false, Bool.not_true]
    refine WO.cases 18 _ rfl (fun hg18 => ?_) (fun hg18 => ?_)
    · skip
      refine WO.go 4 (ds := [some 15, some 16, some 17, some 18, some 19, some 20, some 21, some 22]) rfl ?_
      simp only [sx, ty, Bool.false_eq_true, Int.reduceEq, Int.reduceLT, Nat.reduceAdd, Nat.reduceSub, Nat.reduceMul, Nat.reduceLT, Nat.reduceLeDiff, Nat.reduceEqDiff, List.reduceReplicate, reduceIte, beq_self_eq_true, bne_self_eq_false, Int.reduceBEq, Int.reduceBNe, Bool.or_false, Bool.false_or, Bool.not_false, Bool.not_true]
      with_reducible refine WO.nil ?_
      refine ⟨rfl, ?_, ⟨_, rfl⟩, by simp [Own.bnd, bndL, bnd, boxO], by simp⟩
      try rw [hg18]
      simp [getE, bnd, keepE]
      try simp_all
    · skip
      refine WO.go 1 (ds := [some 15, some 16, some 17, some 18, some 19, some 20, some 21, some 22]) rfl ?_
      simp only [sx, ty, Bool.false_eq_true, Int.reduceEq, Int.reduceLT, Nat.reduceAdd, Nat.reduceSub, Nat.reduceMul, Nat.reduceLT, Nat.reduceLeDiff, Nat.reduceEqDiff, List.reduceReplicate, reduceIte, beq_self_eq_true, bne_self_eq_false, Int.reduceBEq, Int.reduceBNe, Bool.or_false, Bool.false_or, Bool.not_false, Bool.not_true]
      refine WO.call (.bool (formed a b)) (ds := [some 15, some 16, some 17, some 18, some 19, some 20, some 21, some 22]) rfl rfl rfl rfl co23 (fun ρ w1 hb => rInterval_spec w1 _ _) ?_
      refine WO.go 2 (ds := [some 15, some 16, some 17, some 18, some 19, some 20, some 21, some 22]) rfl ?_
      simp only [sx, ty, Bool.false_eq_true, Int.reduceEq, Int.reduceLT, Nat.reduceAdd, Nat.reduceSub, Nat.reduceMul, Nat.reduceLT, Nat.reduceLeDiff, Nat.reduceEqDiff, List.reduceReplicate, reduceIte, beq_self_eq_true, bne_self_eq_false, Int.reduceBEq, Int.reduceBNe, Bool.or_false, Bool.false_or, Bool.not_false, Bool.not_true]
      with_reducible refine WO.nil ?_
      refine ⟨rfl, ?_, ⟨_, rfl⟩, by simp [Own.bnd, bndL, bnd, boxO], by simp⟩
      try rw [hg18]
      simp [getE, bnd, keepE]
      try simp_all
  · simp only [sx, ty, Bool.false_eq_true, Int.reduceEq, Int.reduceLT, Nat.reduceAdd, Nat.reduceSub, Nat.reduceMul, Nat.reduceLT, Nat.reduceLeDiff, Nat.reduceEqDiff, List.reduceReplicate, reduceIte, sxk, beq_self_eq_true, bne_self_eq_false, Int.reduceBEq, Int.reduceBNe, Bool.or_false, Bool.false_or, Bool.not_false, Bool.not_true]
    refine W.cond rfl rfl (fun hc => ?_) (fun hc => ?_)
    · skip
      refine W.pure (ds := []) rfl fun K5 hK5 => ?_
      simp only [sx, ty, Bool.false_eq_true, Int.reduceEq, Int.reduceLT, Nat.reduceAdd, Nat.reduceSub, Nat.reduceMul, Nat.reduceLT, Nat.reduceLeDiff, Nat.reduceEqDiff, List.reduceReplicate, reduceIte, beq_self_eq_true, bne_self_eq_false, Int.reduceBEq, Int.reduceBNe, Bool.or_false, Bool.false_or, Bool.not_false, Bool.not_true]; with_reducible refine hK5 _ ?_; clear hK5
      refine W.ret ⟨by simp, _, rfl, fun ρ w1 hb => ?_⟩
      rfl
    · skip
      have hkf : (isKey k && formed a b) = true := by simpa only [Bool.not_eq_false'] using hc
      simp only [Bool.and_eq_true] at hkf
      obtain ⟨k1, a1, hm1, hk1, hkb1, hab1, hf1, hm2⟩ := moves_fact hkf.1 hkf.2
      refine W.skip (hK3 _ ?_)
      refine W.seqK fun K6 hK6 => W.region ?_
      refine WO.go 2 (ds := []) rfl ?_
      simp only [sx, ty, Bool.false_eq_true, Int.reduceEq, Int.reduceLT, Nat.reduceAdd, Nat.reduceSub, Nat.reduceMul, Nat.reduceLT, Nat.reduceLeDiff, Nat.reduceEqDiff, List.reduceReplicate, reduceIte, beq_self_eq_true, bne_self_eq_false, Int.reduceBEq, Int.reduceBNe, Bool.or_false, Bool.false_or, Bool.not_false, Bool.not_true]
      refine WO.call (.tuple #[.int .i64 k1, .agg #[.int .i64 a1, .int .i64 b], .int .i64 0]) (ds := []) rfl rfl rfl rfl co14 (fun ρ w1 hb => move_call hm1) ?_
      refine WO.go 8 (ds := []) rfl ?_
      simp only [sx, ty, Bool.false_eq_true, Int.reduceEq, Int.reduceLT, Nat.reduceAdd, Nat.reduceSub, Nat.reduceMul, Nat.reduceLT, Nat.reduceLeDiff, Nat.reduceEqDiff, List.reduceReplicate, reduceIte, beq_self_eq_true, bne_self_eq_false, Int.reduceBEq, Int.reduceBNe, Bool.or_false, Bool.false_or, Bool.not_false, Bool.not_true]
      with_reducible refine WO.nil ?_
      refine hK6 _ ?_; clear hK6
      refine W.seqK fun K7 hK7 => W.region ?_
      refine WO.go 1 (ds := []) rfl ?_
      simp only [sx, ty, Bool.false_eq_true, Int.reduceEq, Int.reduceLT, Nat.reduceAdd, Nat.reduceSub, Nat.reduceMul, Nat.reduceLT, Nat.reduceLeDiff, Nat.reduceEqDiff, List.reduceReplicate, reduceIte, beq_self_eq_true, bne_self_eq_false, Int.reduceBEq, Int.reduceBNe, Bool.or_false, Bool.false_or, Bool.not_false, Bool.not_true]
      refine WO.call (.tuple #[.int .i64 (IntKind.i64.wrap (k1 - k)), .int .i64 0]) (ds := []) rfl rfl rfl rfl co12 (fun ρ w1 hb => fifths_call hf1) ?_
      refine WO.go 5 (ds := []) rfl ?_
      simp only [sx, ty, Bool.false_eq_true, Int.reduceEq, Int.reduceLT, Nat.reduceAdd, Nat.reduceSub, Nat.reduceMul, Nat.reduceLT, Nat.reduceLeDiff, Nat.reduceEqDiff, List.reduceReplicate, reduceIte, beq_self_eq_true, bne_self_eq_false, Int.reduceBEq, Int.reduceBNe, Bool.or_false, Bool.false_or, Bool.not_false, Bool.not_true]
      with_reducible refine WO.nil ?_
      refine hK7 _ ?_; clear hK7
      refine W.seqK fun K8 hK8 => W.region ?_
      refine WO.go 8 (ds := []) rfl ?_
      simp only [sx, ty, Bool.false_eq_true, Int.reduceEq, Int.reduceLT, Nat.reduceAdd, Nat.reduceSub, Nat.reduceMul, Nat.reduceLT, Nat.reduceLeDiff, Nat.reduceEqDiff, List.reduceReplicate, reduceIte, beq_self_eq_true, bne_self_eq_false, Int.reduceBEq, Int.reduceBNe, Bool.or_false, Bool.false_or, Bool.not_false, Bool.not_true]
      refine WO.call (.tuple #[.int .i64 k, .agg #[.int .i64 (IntKind.i64.wrap (0 - a1)), .int .i64 (IntKind.i64.wrap (0 - b))], .int .i64 0]) (ds := []) rfl rfl rfl rfl co14 (fun ρ w1 hb => move_call hm2) ?_
      refine WO.go 8 (ds := []) rfl ?_
      simp only [sx, ty, Bool.false_eq_true, Int.reduceEq, Int.reduceLT, Nat.reduceAdd, Nat.reduceSub, Nat.reduceMul, Nat.reduceLT, Nat.reduceLeDiff, Nat.reduceEqDiff, List.reduceReplicate, reduceIte, beq_self_eq_true, bne_self_eq_false, Int.reduceBEq, Int.reduceBNe, Bool.or_false, Bool.false_or, Bool.not_false, Bool.not_true]
      with_reducible refine WO.nil ?_
      refine hK8 _ ?_; clear hK8
      refine W.seqK fun K9 hK9 => W.region ?_
      refine WO.go 15 (ds := [some 49, some 50, some 51, some 52, some 53, some 54, some 55, some 56, some 57, some 58, some 59, some 60, some 61, some 62, some 63, some 64, some 65, some 66, some 67, some 68, some 69, some 70, some 71, some 72, some 73, some 74, some 75, some 76, some 77, some 78, some 79, some 80, some 81, some 82, some 83, some 84, some 85, some 86, some 87, some 88, some 89, some 90, some 91, some 92, some 93, some 94, some 95, some 4]) rfl ?_
      simp only [sx, ty, Bool.false_eq_true, Int.reduceEq, Int.reduceLT, Nat.reduceAdd, Nat.reduceSub, Nat.reduceMul, Nat.reduceLT, Nat.reduceLeDiff, Nat.reduceEqDiff, List.reduceReplicate, reduceIte, beq_self_eq_true, bne_self_eq_false, Int.reduceBEq, Int.reduceBNe, Bool.or_false, Bool.false_or, Bool.not_false, Bool.not_true]
      refine WO.call (.bool true) (ds := [some 49, some 50, some 51, some 52, some 53, some 54, some 55, some 56, some 57, some 58, some 59, some 60, some 61, some 62, some 63, some 64, some 65, some 66, some 67, some 68, some 69, some 70, some 71, some 72, some 73, some 74, some 75, some 76, some 77, some 78, some 79, some 80, some 81, some 82, some 83, some 84, some 85, some 86, some 87, some 88, some 89, some 90, some 91, some 92, some 93, some 94, some 95, some 4]) rfl rfl rfl rfl co22 (fun ρ w1 hb => by have := rKey_spec w1 k1; rwa [hk1] at this) ?_
      refine WO.go 29 (ds := [some 49, some 50, some 51, some 52, some 53, some 54, some 55, some 56, some 57, some 58, some 59, some 60, some 61, some 62, some 63, some 64, some 65, some 66, some 67, some 68, some 69, some 70, some 71, some 72, some 73, some 74, some 75, some 76, some 77, some 78, some 79, some 80, some 81, some 82, some 83, some 84, some 85, some 86, some 87, some 88, some 89, some 90, some 91, some 92, some 93, some 94, some 95, some 4]) rfl ?_
      simp only [sx, ty, Bool.false_eq_true, Int.reduceEq, Int.reduceLT, Nat.reduceAdd, Nat.reduceSub, Nat.reduceMul, Nat.reduceLT, Nat.reduceLeDiff, Nat.reduceEqDiff, List.reduceReplicate, reduceIte, beq_self_eq_true, bne_self_eq_false, Int.reduceBEq, Int.reduceBNe, Bool.or_false, Bool.false_or, Bool.not_false, Bool.not_true]
      refine WO.aggCmp [IntKind.i64.wrap (0 - a1), IntKind.i64.wrap (0 - b)] [IntKind.i64.wrap (0 - a1), IntKind.i64.wrap (0 - b)] (ds := [some 49, some 50, some 51, some 52, some 53, some 54, some 55, some 56, some 57, some 58, some 59, some 60, some 61, some 62, some 63, some 64, some 65, some 66, some 67, some 68, some 69, some 70, some 71, some 72, some 73, some 74, some 75, some 76, some 77, some 78, some 79, some 80, some 81, some 82, some 83, some 84, some 85, some 86, some 87, some 88, some 89, some 90, some 91, some 92, some 93, some 94, some 95, some 4]) rfl rfl rfl rfl ⟨_, rfl, fun _ => rfl⟩ ⟨_, rfl, fun _ => rfl⟩ it23 rfl rfl rfl ?_
      refine WO.go 2 (ds := [some 49, some 50, some 51, some 52, some 53, some 54, some 55, some 56, some 57, some 58, some 59, some 60, some 61, some 62, some 63, some 64, some 65, some 66, some 67, some 68, some 69, some 70, some 71, some 72, some 73, some 74, some 75, some 76, some 77, some 78, some 79, some 80, some 81, some 82, some 83, some 84, some 85, some 86, some 87, some 88, some 89, some 90, some 91, some 92, some 93, some 94, some 95, some 4]) rfl ?_
      simp only [sx, ty, Bool.false_eq_true, Int.reduceEq, Int.reduceLT, Nat.reduceAdd, Nat.reduceSub, Nat.reduceMul, Nat.reduceLT, Nat.reduceLeDiff, Nat.reduceEqDiff, List.reduceReplicate, reduceIte, beq_self_eq_true, bne_self_eq_false, Int.reduceBEq, Int.reduceBNe, Bool.or_false, Bool.false_or, Bool.not_false, Bool.not_true]
      with_reducible refine WO.nil ?_
      refine hK9 _ ?_; clear hK9
      refine W.ret ⟨by simp, _, rfl, fun ρ w1 hb => ?_⟩
      rfl
end Go.Proofs.YtpkbghnjfjnoiaaDoor
