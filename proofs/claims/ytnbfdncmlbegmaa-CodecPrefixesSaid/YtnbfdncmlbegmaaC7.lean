/-
  Codec: frames written: walks.
-/
import Derived.Test.YtnbfdncmlbegmaaC6
set_option linter.unusedVariables false
set_option linter.unusedSimpArgs false
set_option maxHeartbeats 1000000
namespace Go.Proofs.Ytnbfdncmlbegmaa
open Go Go.SX Go.RowKit

/-- byte i of a number, the highest first -/
def byteF (d : Int) (i : Nat) : Int := d / 2 ^ (56 - 8 * i) % 256
def preB (d : Int) (i : Nat) : List Int := (List.range i).map (byteF d)
def bigE (d : Int) : List Int := preB d 8
theorem preB_succ (d : Int) (i : Nat) : preB d (i + 1) = preB d i ++ [byteF d i] := by simp [preB, List.range_succ]
theorem preB_len (d : Int) (i : Nat) : (preB d i).length = i := by simp [preB]
theorem byteF_isB (d : Int) (i : Nat) : isB (byteF d i) := by unfold byteF isB; omega
theorem bigE_isB (d : Int) : ∀ x, x ∈ bigE d → isB x := fun x hx => by
  simp only [bigE, preB, List.mem_map] at hx
  obtain ⟨i, _, rfl⟩ := hx
  exact byteF_isB d i
theorem sh8 {i : Nat} (h : i < 8) : IntKind.i64.wrap (56 - IntKind.i64.wrap (8 * (i : Int))) = ((56 - 8 * i : Nat) : Int) := by
  rw [wrap_id (x := 8 * (i : Int)) (by omega) (by omega), wrap_id (by omega) (by omega)]; omega
theorem sh8' {i : Nat} (h : i < 8) : IntKind.i64.wrap (8 * IntKind.i64.wrap (7 - (i : Int))) = ((56 - 8 * i : Nat) : Int) := by
  rw [wrap_id (x := 7 - (i : Int)) (by omega) (by omega), wrap_id (by omega) (by omega)]; omega
theorem sh8neg {i : Nat} : ¬ ((56 - 8 * i : Nat) : Int) < 0 := by omega
theorem sh8min {i : Nat} : min (56 - 8 * i) IntKind.u64.bits = 56 - 8 * i := by show min (56 - 8 * i) 64 = _; omega
theorem byteF_code (d : Int) (i : Nat) : IntKind.u8.wrap (d.fdiv (2 ^ (56 - 8 * i))) = byteF d i := by
  rw [fdiv_nn (Int.pow_nonneg (by decide)), u8_wrap]; rfl
/-- an array of bytes, the first ones written -/
def arrB (d : Int) (i : Nat) : List SV := (List.range 8).map fun j => .val (.int .u8 (if j < i then byteF d j else 0))
theorem arrB_len (d : Int) (i : Nat) : (arrB d i).length = 8 := by simp [arrB]
theorem arrB_zero (d : Int) : arrB d 0 = [.val (.int .u8 0), .val (.int .u8 0), .val (.int .u8 0), .val (.int .u8 0), .val (.int .u8 0), .val (.int .u8 0), .val (.int .u8 0), .val (.int .u8 0)] := rfl
theorem arrB_all (d : Int) : arrB d 8 = [.val (.int .u8 (byteF d 0)), .val (.int .u8 (byteF d 1)), .val (.int .u8 (byteF d 2)), .val (.int .u8 (byteF d 3)), .val (.int .u8 (byteF d 4)), .val (.int .u8 (byteF d 5)), .val (.int .u8 (byteF d 6)), .val (.int .u8 (byteF d 7))] := rfl
theorem bndL_vals (m : Nat) {α : Type} (l : List α) (f : α → Value) : bndL m (l.map fun x => SV.val (f x)) = true := by
  induction l with
  | nil => rfl
  | cons a l ih => simp [bndL, bnd, ih]
theorem arrB_bnd (m : Nat) (d : Int) (i : Nat) : bndL m (arrB d i) = true := bndL_vals m _ fun j => .int .u8 (if j < i then byteF d j else 0)
theorem arrB_set (d : Int) {i : Nat} (h : i < 8) : splice (arrB d i) (0 + i * 1) [.val (.int .u8 (byteF d i))] = arrB d (i + 1) := by
  match i, h with
  | 0, _ => rfl
  | 1, _ => rfl
  | 2, _ => rfl
  | 3, _ => rfl
  | 4, _ => rfl
  | 5, _ => rfl
  | 6, _ => rfl
  | 7, _ => rfl
theorem arrB_set' (d : Int) {i : Nat} (h : i < 8) : splice (arrB d i) i [.val (.int .u8 (byteF d i))] = arrB d (i + 1) := by
  have := arrB_set d h
  rwa [Nat.zero_add, Nat.mul_one] at this
/-- a frame -/
def hdr (n : Nat) : List Int := [(n : Int) / 65536 % 256, (n : Int) / 256 % 256, (n : Int) % 256]
def frameF (b : List Int) : List Int := (hdr b.length ++ b) ++ bigE (digF beginD (hdr b.length ++ b))
def FrameF (l : List Int) : List Int × Int := if 4000 < l.length then ([], 2) else (frameF (putF l), 0)
theorem FrameF_long {l : List Int} (h : 4000 < l.length) : FrameF l = ([], 2) := if_pos h
theorem FrameF_ok {l : List Int} (h : ¬ 4000 < l.length) : FrameF l = (frameF (putF l), 0) := if_neg h
theorem frameF_len (b : List Int) : (frameF b).length = b.length + 11 := by simp [frameF, hdr, bigE, preB_len]
theorem hdr1 (n : Nat) : IntKind.u8.wrap ((n : Int).fdiv 65536) = (n : Int) / 65536 % 256 := by rw [fdiv_nn (by decide), u8_wrap]
theorem hdr2 (n : Nat) : IntKind.u8.wrap ((n : Int).fdiv 256) = (n : Int) / 256 % 256 := by rw [fdiv_nn (by decide), u8_wrap]
theorem hdr3 (n : Nat) : IntKind.u8.wrap (n : Int) = (n : Int) % 256 := u8_wrap _
theorem hdr4 {n : Nat} (h : n ≤ 1000000) : IntKind.u8.wrap (IntKind.i64.wrap ((n : Int).tdiv 65536)) = (n : Int) / 65536 % 256 := by rw [tdiv_nn (by omega), wrap_id (by omega) (by omega), u8_wrap]
theorem hdr5 {n : Nat} (h : n ≤ 1000000) : IntKind.u8.wrap ((IntKind.i64.wrap ((n : Int).tdiv 256)).tmod 256) = (n : Int) / 256 % 256 := by rw [tdiv_nn (by omega), wrap_id (by omega) (by omega), tmod_nn (by omega), u8_wrap]; omega
theorem hdr6 (n : Nat) : IntKind.u8.wrap ((n : Int).tmod 256) = (n : Int) % 256 := by rw [tmod_nn (by omega), u8_wrap]; omega
/-- function 25 -/
theorem W.ownS {rO : Option Nat} {P : Program} {c : Code} {Q : Exit → St → Prop} {σ : St} (own' : List SX.Own) (h : σ.own = own') (k : WR rO P c Q ⟨σ.n, σ.env, own', σ.snaps, σ.dfs⟩) : WR rO P c Q σ := by subst h; exact k
theorem sum8_spec {S : Nat → Prop} {w : World} {v : Value} {b : List Int} (hl : rBytes.rd S w [v] b) : Gives Try.prog 25 #[v] w fun r _ => r = .agg #[.int .u8 (byteF (digF beginD b) 0), .int .u8 (byteF (digF beginD b) 1), .int .u8 (byteF (digF beginD b) 2), .int .u8 (byteF (digF beginD b) 3), .int .u8 (byteF (digF beginD b) 4), .int .u8 (byteF (digF beginD b) 5), .int .u8 (byteF (digF beginD b) 6), .int .u8 (byteF (digF beginD b) 7)] := by
  obtain ⟨p, c, rfl, hc1, hc2⟩ := Rp.slice_val hl
  have hl : (Rp.slice rByte).rd (fun _ => True) w _ b := Rp.any hl
  refine gives_of [.val (.slice p b.length c)] 21 [.cell 2 48] Try.func25 rfl rfl rfl (by simp) rfl rfl ?_
  refine W.pure (ds := []) rfl fun K1 hK1 => ?_
  simp only [sx, ty, Bool.false_eq_true, Int.reduceEq, Int.reduceLT, Nat.reduceAdd, Nat.reduceSub, Nat.reduceMul, Nat.reduceLT, Nat.reduceLeDiff, Nat.reduceEqDiff, List.reduceReplicate, reduceIte, beq_self_eq_true, bne_self_eq_false, Int.reduceBEq, Int.reduceBNe, Bool.or_false, Bool.false_or, Bool.not_false, Bool.not_true, mbits, Int.reduceToNat, Int.reducePow, Int.toNat_natCast]; with_reducible refine hK1 _ ?_; clear hK1
  refine W.seqK fun K2 hK2 => W.region ?_
  refine WO.go 1 (ds := []) rfl ?_
  simp only [sx, ty, Bool.false_eq_true, Int.reduceEq, Int.reduceLT, Nat.reduceAdd, Nat.reduceSub, Nat.reduceMul, Nat.reduceLT, Nat.reduceLeDiff, Nat.reduceEqDiff, List.reduceReplicate, reduceIte, beq_self_eq_true, bne_self_eq_false, Int.reduceBEq, Int.reduceBNe, Bool.or_false, Bool.false_or, Bool.not_false, Bool.not_true, mbits, Int.reduceToNat, Int.reducePow, Int.toNat_natCast]
  refine WO.call (.int .u64 (digF beginD b)) (ds := []) rfl rfl rfl rfl co34 (fun ρ w1 hb => sum_spec (Rp.now hl (hb.first (by simp)))) ?_
  refine WO.go 1 (ds := []) rfl ?_
  simp only [sx, ty, Bool.false_eq_true, Int.reduceEq, Int.reduceLT, Nat.reduceAdd, Nat.reduceSub, Nat.reduceMul, Nat.reduceLT, Nat.reduceLeDiff, Nat.reduceEqDiff, List.reduceReplicate, reduceIte, beq_self_eq_true, bne_self_eq_false, Int.reduceBEq, Int.reduceBNe, Bool.or_false, Bool.false_or, Bool.not_false, Bool.not_true, mbits, Int.reduceToNat, Int.reducePow, Int.toNat_natCast]
  with_reducible refine WO.nil ?_
  refine hK2 _ ?_; clear hK2
  refine W.pure (ds := []) rfl fun K3 hK3 => ?_
  simp only [sx, ty, Bool.false_eq_true, Int.reduceEq, Int.reduceLT, Nat.reduceAdd, Nat.reduceSub, Nat.reduceMul, Nat.reduceLT, Nat.reduceLeDiff, Nat.reduceEqDiff, List.reduceReplicate, reduceIte, beq_self_eq_true, bne_self_eq_false, Int.reduceBEq, Int.reduceBNe, Bool.or_false, Bool.false_or, Bool.not_false, Bool.not_true, mbits, Int.reduceToNat, Int.reducePow, Int.toNat_natCast]; with_reducible refine hK3 _ ?_; clear hK3
  refine W.seqK fun K4 hK4 => ?_
  refine W.pure (ds := []) rfl fun K5 hK5 => ?_
  simp only [sx, ty, Bool.false_eq_true, Int.reduceEq, Int.reduceLT, Nat.reduceAdd, Nat.reduceSub, Nat.reduceMul, Nat.reduceLT, Nat.reduceLeDiff, Nat.reduceEqDiff, List.reduceReplicate, reduceIte, beq_self_eq_true, bne_self_eq_false, Int.reduceBEq, Int.reduceBNe, Bool.or_false, Bool.false_or, Bool.not_false, Bool.not_true, mbits, Int.reduceToNat, Int.reducePow, Int.toNat_natCast]; with_reducible refine hK5 _ ?_; clear hK5
  refine W.block ?_
  refine W.loopO (X := Nat) [2, 3, 4] (fun x => [(8, .val (.int .i64 x))]) (fun x => [.cells 48 (arrB (digF beginD b) 0), .cells 48 (arrB (digF beginD b) x)]) (fun x => [((fun _ => True), w)]) (fun x => x ≤ 8) (fun x => 8 - x) 0 ?_ ?_ ?_
  · exact ⟨rfl, by simp [getE, bnd, keepE], ⟨[], by simp [arrB_zero]⟩, by simp [Own.bnd, bndL, bnd, boxO, arrB_bnd], by simp⟩
  · skip
    exact Nat.zero_le _
  · rintro i hi
    simp only [sx, ty, Bool.false_eq_true, Int.reduceEq, Int.reduceLT, Nat.reduceAdd, Nat.reduceSub, Nat.reduceMul, Nat.reduceLT, Nat.reduceLeDiff, Nat.reduceEqDiff, List.reduceReplicate, reduceIte, sxk, beq_self_eq_true, bne_self_eq_false, Int.reduceBEq, Int.reduceBNe, Bool.or_false, Bool.false_or, Bool.not_false, Bool.not_true, mbits, Int.reduceToNat, Int.reducePow, Int.toNat_natCast]
    refine W.pure (ds := []) rfl fun K6 hK6 => ?_
    simp only [sx, ty, Bool.false_eq_true, Int.reduceEq, Int.reduceLT, Nat.reduceAdd, Nat.reduceSub, Nat.reduceMul, Nat.reduceLT, Nat.reduceLeDiff, Nat.reduceEqDiff, List.reduceReplicate, reduceIte, beq_self_eq_true, bne_self_eq_false, Int.reduceBEq, Int.reduceBNe, Bool.or_false, Bool.false_or, Bool.not_false, Bool.not_true, mbits, Int.reduceToNat, Int.reducePow, Int.toNat_natCast]; with_reducible refine hK6 _ ?_; clear hK6
    refine W.seqK fun K7 hK7 => ?_
    refine W.cond rfl rfl (fun hc => ?_) (fun hc => ?_)
    · skip
      have hlt : i < 8 := by simp at hc; omega
      refine W.skip (hK7 _ ?_)
      refine W.seqK fun K8 hK8 => ?_
      refine W.block ?_
      refine W.pure (ds := []) rfl fun K9 hK9 => ?_
      simp only [sx, ty, Bool.false_eq_true, Int.reduceEq, Int.reduceLT, Nat.reduceAdd, Nat.reduceSub, Nat.reduceMul, Nat.reduceLT, Nat.reduceLeDiff, Nat.reduceEqDiff, List.reduceReplicate, reduceIte, beq_self_eq_true, bne_self_eq_false, Int.reduceBEq, Int.reduceBNe, Bool.or_false, Bool.false_or, Bool.not_false, Bool.not_true, mbits, Int.reduceToNat, Int.reducePow, Int.toNat_natCast]; with_reducible refine hK9 _ ?_; clear hK9
      refine W.region ?_
      refine WO.go 5 (ds := []) rfl ?_
      simp only [sx, ty, Bool.false_eq_true, Int.reduceEq, Int.reduceLT, Nat.reduceAdd, Nat.reduceSub, Nat.reduceMul, Nat.reduceLT, Nat.reduceLeDiff, Nat.reduceEqDiff, List.reduceReplicate, reduceIte, beq_self_eq_true, bne_self_eq_false, Int.reduceBEq, Int.reduceBNe, Bool.or_false, Bool.false_or, Bool.not_false, Bool.not_true, mbits, Int.reduceToNat, Int.reducePow, Int.toNat_natCast]
      refine WO.go 1 (ds := []) rfl ?_
      simp only [sx, ty, Bool.false_eq_true, Int.reduceEq, Int.reduceLT, Nat.reduceAdd, Nat.reduceSub, Nat.reduceMul, Nat.reduceLT, Nat.reduceLeDiff, Nat.reduceEqDiff, List.reduceReplicate, reduceIte, beq_self_eq_true, bne_self_eq_false, Int.reduceBEq, Int.reduceBNe, Bool.or_false, Bool.false_or, Bool.not_false, Bool.not_true, mbits, Int.reduceToNat, Int.reducePow, Int.toNat_natCast, sh8' hlt, sh8neg, sh8min, Int.toNat_natCast]
      refine WO.go 1 (ds := []) rfl ?_
      simp only [sx, ty, Bool.false_eq_true, Int.reduceEq, Int.reduceLT, Nat.reduceAdd, Nat.reduceSub, Nat.reduceMul, Nat.reduceLT, Nat.reduceLeDiff, Nat.reduceEqDiff, List.reduceReplicate, reduceIte, beq_self_eq_true, bne_self_eq_false, Int.reduceBEq, Int.reduceBNe, Bool.or_false, Bool.false_or, Bool.not_false, Bool.not_true, mbits, Int.reduceToNat, Int.reducePow, Int.toNat_natCast]
      refine WO.q (ds := []) rfl rfl rfl (QR.arr rfl rfl rfl ar48 (by omega) (by omega)) ?_
      simp only [sx, ty, Bool.false_eq_true, Int.reduceEq, Int.reduceLT, Nat.reduceAdd, Nat.reduceSub, Nat.reduceMul, Nat.reduceLT, Nat.reduceLeDiff, Nat.reduceEqDiff, List.reduceReplicate, reduceIte, beq_self_eq_true, bne_self_eq_false, Int.reduceBEq, Int.reduceBNe, Bool.or_false, Bool.false_or, Bool.not_false, Bool.not_true, mbits, Int.reduceToNat, Int.reducePow, Int.toNat_natCast]
      simp only [byteF_code]
      refine WO.storeNth (k := 1) (u := .val (.int .u8 (byteF (digF beginD b) i))) rfl (ds := []) rfl rfl rfl rfl rfl rfl sz5 (by rw [arrB_len]; simp [cellsS]; omega) rfl ?_
      simp only [Int.toNat_natCast, cellsS, Nat.zero_add, Nat.mul_one, arrB_set' _ hlt]
      simp only [sx, ty, Bool.false_eq_true, Int.reduceEq, Int.reduceLT, Nat.reduceAdd, Nat.reduceSub, Nat.reduceMul, Nat.reduceLT, Nat.reduceLeDiff, Nat.reduceEqDiff, List.reduceReplicate, reduceIte, beq_self_eq_true, bne_self_eq_false, Int.reduceBEq, Int.reduceBNe, Bool.or_false, Bool.false_or, Bool.not_false, Bool.not_true, mbits, Int.reduceToNat, Int.reducePow, Int.toNat_natCast]
      with_reducible refine WO.nil ?_
      refine hK8 _ ?_
      refine W.region ?_
      refine WO.go 2 (ds := []) rfl ?_
      simp only [sx, ty, Bool.false_eq_true, Int.reduceEq, Int.reduceLT, Nat.reduceAdd, Nat.reduceSub, Nat.reduceMul, Nat.reduceLT, Nat.reduceLeDiff, Nat.reduceEqDiff, List.reduceReplicate, reduceIte, beq_self_eq_true, bne_self_eq_false, Int.reduceBEq, Int.reduceBNe, Bool.or_false, Bool.false_or, Bool.not_false, Bool.not_true, mbits, Int.reduceToNat, Int.reducePow, Int.toNat_natCast]
      with_reducible refine WO.nil ?_
      refine ⟨i + 1, hlt, by omega, rfl, by simp [getE, bnd, keepE, wrap_succ (show i + 1 ≤ 9223372036854775807 by omega)], ⟨[], by simp⟩, by simp [Own.bnd, bndL, bnd, arrB_bnd], by simp⟩
    · skip
      obtain rfl : i = 8 := Nat.le_antisymm hi (by simp at hc; omega)
      refine W.ownS ([.cells 48 (arrB (digF beginD b) 0), .cells 48 (arrB (digF beginD b) 8)]) rfl ?_
      simp only [arrB_zero, arrB_all]
      refine W.exit (hK4 _ ?_)
      refine W.pure (ds := []) rfl fun K10 hK10 => ?_
      simp only [sx, ty, Bool.false_eq_true, Int.reduceEq, Int.reduceLT, Nat.reduceAdd, Nat.reduceSub, Nat.reduceMul, Nat.reduceLT, Nat.reduceLeDiff, Nat.reduceEqDiff, List.reduceReplicate, reduceIte, beq_self_eq_true, bne_self_eq_false, Int.reduceBEq, Int.reduceBNe, Bool.or_false, Bool.false_or, Bool.not_false, Bool.not_true, mbits, Int.reduceToNat, Int.reducePow, Int.toNat_natCast]; with_reducible refine hK10 _ ?_; clear hK10
      refine W.ret ?_
      refine ⟨by simp, RunR.ex ?_⟩
      simp only [sx, ty, Bool.false_eq_true, Int.reduceEq, Int.reduceLT, Nat.reduceAdd, Nat.reduceSub, Nat.reduceMul, Nat.reduceLT, Nat.reduceLeDiff, Nat.reduceEqDiff, List.reduceReplicate, reduceIte, sxr, beq_self_eq_true, bne_self_eq_false, Int.reduceBEq, Int.reduceBNe, Bool.or_false, Bool.false_or, Bool.not_false, Bool.not_true, mbits, Int.reduceToNat, Int.reducePow, Int.toNat_natCast]
      intro ρ w1 hb
      rfl
/-- function 26 -/
theorem bytes_spec (w : World) (d : Int) : Gives Try.prog 26 #[.int .u64 d] w fun r w' => ∃ x : Option Addr × Nat, r = .slice x.1 (bigE d).length x.2 ∧ rBytes.rd (fun b => w.heap.size ≤ b) w' [.slice x.1 (bigE d).length x.2] (bigE d) := by
  refine gives_of [.val (.int .u64 d)] 19 [.tmp 2] Try.func26 rfl rfl rfl (by simp) rfl rfl ?_
  refine W.pure (ds := []) rfl fun K1 hK1 => ?_
  simp only [sx, ty, Bool.false_eq_true, Int.reduceEq, Int.reduceLT, Nat.reduceAdd, Nat.reduceSub, Nat.reduceMul, Nat.reduceLT, Nat.reduceLeDiff, Nat.reduceEqDiff, List.reduceReplicate, reduceIte, beq_self_eq_true, bne_self_eq_false, Int.reduceBEq, Int.reduceBNe, Bool.or_false, Bool.false_or, Bool.not_false, Bool.not_true, mbits, Int.reduceToNat, Int.reducePow, Int.toNat_natCast, byteF_code]; with_reducible refine hK1 _ ?_; clear hK1
  refine W.pure (ds := []) rfl fun K2 hK2 => ?_
  simp only [sx, ty, Bool.false_eq_true, Int.reduceEq, Int.reduceLT, Nat.reduceAdd, Nat.reduceSub, Nat.reduceMul, Nat.reduceLT, Nat.reduceLeDiff, Nat.reduceEqDiff, List.reduceReplicate, reduceIte, beq_self_eq_true, bne_self_eq_false, Int.reduceBEq, Int.reduceBNe, Bool.or_false, Bool.false_or, Bool.not_false, Bool.not_true, mbits, Int.reduceToNat, Int.reducePow, Int.toNat_natCast, byteF_code]; with_reducible refine hK2 _ ?_; clear hK2
  refine W.seqK fun K3 hK3 => ?_
  refine W.pure (ds := []) rfl fun K4 hK4 => ?_
  simp only [sx, ty, Bool.false_eq_true, Int.reduceEq, Int.reduceLT, Nat.reduceAdd, Nat.reduceSub, Nat.reduceMul, Nat.reduceLT, Nat.reduceLeDiff, Nat.reduceEqDiff, List.reduceReplicate, reduceIte, beq_self_eq_true, bne_self_eq_false, Int.reduceBEq, Int.reduceBNe, Bool.or_false, Bool.false_or, Bool.not_false, Bool.not_true, mbits, Int.reduceToNat, Int.reducePow, Int.toNat_natCast, byteF_code]; with_reducible refine hK4 _ ?_; clear hK4
  refine W.block ?_
  refine W.ownNil 5 1 ?_
  simp only [sx, ty, Bool.false_eq_true, Int.reduceEq, Int.reduceLT, Nat.reduceAdd, Nat.reduceSub, Nat.reduceMul, Nat.reduceLT, Nat.reduceLeDiff, Nat.reduceEqDiff, List.reduceReplicate, reduceIte]
  refine W.loopO (X := Nat × Option Addr × Nat) [0] (fun x => [(3, .val (.slice x.2.1 (preB d x.1).length x.2.2)), (4, .val (.int .i64 x.1))]) (fun x => [OB (preB d x.1) x.2]) (fun x => [((fun _ => True), w)]) (fun x => x.1 ≤ 8) (fun x => 8 - x.1) (0, none, 0) ?_ ?_ ?_
  · exact ⟨rfl, by simp [getE, bnd, keepE, preB], ⟨[], by simp [OB, preB]⟩, by simp [Own.bnd, bndL, bnd, boxO, OB], by simp⟩
  · skip
    exact Nat.zero_le _
  · rintro ⟨i, p3, c3⟩ hi
    simp only at hi
    have hpl := preB_len d i
    simp only [sx, ty, Bool.false_eq_true, Int.reduceEq, Int.reduceLT, Nat.reduceAdd, Nat.reduceSub, Nat.reduceMul, Nat.reduceLT, Nat.reduceLeDiff, Nat.reduceEqDiff, List.reduceReplicate, reduceIte, sxk, beq_self_eq_true, bne_self_eq_false, Int.reduceBEq, Int.reduceBNe, Bool.or_false, Bool.false_or, Bool.not_false, Bool.not_true, mbits, Int.reduceToNat, Int.reducePow, Int.toNat_natCast, byteF_code]
    refine W.seqK fun K5 hK5 => ?_
    refine W.pure (ds := []) rfl fun K6 hK6 => ?_
    simp only [sx, ty, Bool.false_eq_true, Int.reduceEq, Int.reduceLT, Nat.reduceAdd, Nat.reduceSub, Nat.reduceMul, Nat.reduceLT, Nat.reduceLeDiff, Nat.reduceEqDiff, List.reduceReplicate, reduceIte, beq_self_eq_true, bne_self_eq_false, Int.reduceBEq, Int.reduceBNe, Bool.or_false, Bool.false_or, Bool.not_false, Bool.not_true, mbits, Int.reduceToNat, Int.reducePow, Int.toNat_natCast, byteF_code]; with_reducible refine hK6 _ ?_; clear hK6
    refine W.cond rfl rfl (fun hc => ?_) (fun hc => ?_)
    · skip
      have hlt : i < 8 := by simp at hc; omega
      refine W.skip (hK5 _ ?_)
      refine W.seqK fun K7 hK7 => ?_
      refine W.block ?_
      refine W.region ?_
      refine WO.go 5 (ds := []) rfl ?_
      simp only [sx, ty, Bool.false_eq_true, Int.reduceEq, Int.reduceLT, Nat.reduceAdd, Nat.reduceSub, Nat.reduceMul, Nat.reduceLT, Nat.reduceLeDiff, Nat.reduceEqDiff, List.reduceReplicate, reduceIte, beq_self_eq_true, bne_self_eq_false, Int.reduceBEq, Int.reduceBNe, Bool.or_false, Bool.false_or, Bool.not_false, Bool.not_true, mbits, Int.reduceToNat, Int.reducePow, Int.toNat_natCast, byteF_code]
      refine WO.go 1 (ds := []) rfl ?_
      simp only [sx, ty, Bool.false_eq_true, Int.reduceEq, Int.reduceLT, Nat.reduceAdd, Nat.reduceSub, Nat.reduceMul, Nat.reduceLT, Nat.reduceLeDiff, Nat.reduceEqDiff, List.reduceReplicate, reduceIte, beq_self_eq_true, bne_self_eq_false, Int.reduceBEq, Int.reduceBNe, Bool.or_false, Bool.false_or, Bool.not_false, Bool.not_true, mbits, Int.reduceToNat, Int.reducePow, Int.toNat_natCast, byteF_code, sh8 hlt, sh8neg, sh8min, Int.toNat_natCast, byteF_code]
      refine WO.go 2 (ds := []) rfl ?_
      simp only [sx, ty, Bool.false_eq_true, Int.reduceEq, Int.reduceLT, Nat.reduceAdd, Nat.reduceSub, Nat.reduceMul, Nat.reduceLT, Nat.reduceLeDiff, Nat.reduceEqDiff, List.reduceReplicate, reduceIte, beq_self_eq_true, bne_self_eq_false, Int.reduceBEq, Int.reduceBNe, Bool.or_false, Bool.false_or, Bool.not_false, Bool.not_true, mbits, Int.reduceToNat, Int.reducePow, Int.toNat_natCast, byteF_code]
      refine WO.append (k := 0) (m := 1) [.int .u8 (byteF d i)] (ds := []) rfl rfl rfl rfl rfl rfl rfl ek23 (news_own (k2 := 1) rfl fun _ => rfl) rfl (by simp [Value.oneCell']) (by rw [maxLen_eq]; omega) (by omega) fun p6 c6 => ?_
      refine WO.go 1 (ds := []) rfl ?_
      simp only [sx, ty, Bool.false_eq_true, Int.reduceEq, Int.reduceLT, Nat.reduceAdd, Nat.reduceSub, Nat.reduceMul, Nat.reduceLT, Nat.reduceLeDiff, Nat.reduceEqDiff, List.reduceReplicate, reduceIte, beq_self_eq_true, bne_self_eq_false, Int.reduceBEq, Int.reduceBNe, Bool.or_false, Bool.false_or, Bool.not_false, Bool.not_true, mbits, Int.reduceToNat, Int.reducePow, Int.toNat_natCast, byteF_code]
      with_reducible refine WO.nil ?_
      refine hK7 _ ?_
      refine W.region ?_
      refine WO.go 3 (ds := []) rfl ?_
      simp only [sx, ty, Bool.false_eq_true, Int.reduceEq, Int.reduceLT, Nat.reduceAdd, Nat.reduceSub, Nat.reduceMul, Nat.reduceLT, Nat.reduceLeDiff, Nat.reduceEqDiff, List.reduceReplicate, reduceIte, beq_self_eq_true, bne_self_eq_false, Int.reduceBEq, Int.reduceBNe, Bool.or_false, Bool.false_or, Bool.not_false, Bool.not_true, mbits, Int.reduceToNat, Int.reducePow, Int.toNat_natCast, byteF_code]
      with_reducible refine WO.nil ?_
      refine ⟨(i + 1, p6, c6), hlt, by simp only; omega, rfl, by simp [getE, bnd, keepE, preB_succ, wrap_succ (show i + 1 ≤ 9223372036854775807 by omega)], ⟨[.cells 5 [.val (.int .u8 (byteF d i))]], by simp [OB, preB_succ]⟩, by simp [Own.bnd, bndL, bnd, OB], by simp⟩
    · skip
      obtain rfl : i = 8 := Nat.le_antisymm hi (by simp at hc; omega)
      refine W.exit (hK3 _ ?_)
      refine W.pure (ds := []) rfl fun K8 hK8 => ?_
      simp only [sx, ty, Bool.false_eq_true, Int.reduceEq, Int.reduceLT, Nat.reduceAdd, Nat.reduceSub, Nat.reduceMul, Nat.reduceLT, Nat.reduceLeDiff, Nat.reduceEqDiff, List.reduceReplicate, reduceIte, beq_self_eq_true, bne_self_eq_false, Int.reduceBEq, Int.reduceBNe, Bool.or_false, Bool.false_or, Bool.not_false, Bool.not_true, mbits, Int.reduceToNat, Int.reducePow, Int.toNat_natCast, byteF_code]; with_reducible refine hK8 _ ?_; clear hK8
      refine W.ret ⟨by simp, _, rfl, fun ρ w1 hb => ?_⟩
      exact ⟨(p3, c3), rfl, OB_rd (new_own (w0 := w) (o := OB (preB d 8) (p3, c3)) hb (by simp) (k := 0) rfl rfl)⟩

theorem olds_own {σ : St} {k2 n : Nat} {T : TypeId} {cs : List SV} {olds : List Value} (hk : nth σ.own k2 = some (.cells T cs)) (hcs : ∀ ρ, denL ρ cs = olds) :
    ∀ ρ w, Base ρ σ w → ∃ p, den ρ (.lsl k2 0 n n) = .slice (some p) n n ∧ At w p olds := fun ρ w hb => by
  obtain ⟨a, c, h1, h2⟩ := news_own (m := n) hk hcs ρ w hb
  simp only [den, Value.slice.injEq, Option.some.injEq] at h1
  refine ⟨a, ?_, h2⟩
  simp [den, ← h1.1]
def fullB (l : List Int) : List Int := hdr (putF l).length ++ putF l
theorem frameF_eq (l : List Int) : frameF (putF l) = fullB l ++ bigE (digF beginD (fullB l)) := rfl
theorem OB_app {xs ys : List Int} {q : Option Addr} {c n : Nat} (hn : n = xs.length + ys.length) : SX.Own.slice 5 1 (.slice q n c) n (xs.map (.int .u8) ++ ys.map (.int .u8)) = OB (xs ++ ys) (q, c) := by
  subst hn; simp [OB]
/-- function 13 -/
theorem Frame_spec {S : Nat → Prop} {w : World} {v : Value} {l : List Int} (hl : rInts.rd S w [v] l) (hI : ∀ x, x ∈ l → isI x) : Gives Try.prog 13 #[v] w fun r w' =>
    ∃ x : Option Addr × Nat, r = .tuple #[.slice x.1 (FrameF l).1.length x.2, .int .i64 (FrameF l).2] ∧ rBytes.rd (fun b => w.heap.size ≤ b) w' [.slice x.1 (FrameF l).1.length x.2] (FrameF l).1 := by
  obtain ⟨p, c, rfl, hc1, hc2⟩ := Rp.slice_val hl
  have hl : (Rp.slice rInt).rd (fun _ => True) w _ l := Rp.any hl
  have hpl := putF_len l
  refine gives_of [.val (.slice p l.length c)] 34 [.tmp 2, .tmp 3] Try.func13 rfl rfl rfl (by simp) rfl rfl ?_
  refine W.pure (ds := []) rfl fun K1 hK1 => ?_
  simp only [sx, ty, Bool.false_eq_true, Int.reduceEq, Int.reduceLT, Nat.reduceAdd, Nat.reduceSub, Nat.reduceMul, Nat.reduceLT, Nat.reduceLeDiff, Nat.reduceEqDiff, List.reduceReplicate, reduceIte, beq_self_eq_true, bne_self_eq_false, Int.reduceBEq, Int.reduceBNe, Bool.or_false, Bool.false_or, Bool.not_false, Bool.not_true, mbits, Int.reduceToNat, Int.reducePow, Int.toNat_natCast]; with_reducible refine hK1 _ ?_; clear hK1
  refine W.seqK fun K2 hK2 => W.region ?_
  refine WO.go 1 (ds := []) rfl ?_
  simp only [sx, ty, Bool.false_eq_true, Int.reduceEq, Int.reduceLT, Nat.reduceAdd, Nat.reduceSub, Nat.reduceMul, Nat.reduceLT, Nat.reduceLeDiff, Nat.reduceEqDiff, List.reduceReplicate, reduceIte, beq_self_eq_true, bne_self_eq_false, Int.reduceBEq, Int.reduceBNe, Bool.or_false, Bool.false_or, Bool.not_false, Bool.not_true, mbits, Int.reduceToNat, Int.reducePow, Int.toNat_natCast]
  refine WO.callM (fun x : Option Addr × Nat => .tuple #[.slice x.1 (PutF l).1.length x.2, .int .i64 (PutF l).2]) (fun lo x s9 => rBytes.rd (fun b => lo ≤ b) s9 [.slice x.1 (PutF l).1.length x.2] (PutF l).1) (ds := []) rfl rfl rfl rfl co10 (fun ρ w1 hb => Put_spec (Rp.now hl (hb.first (by simp))) hI) fun x lo hr1s hr1 => ?_
  obtain ⟨hr1p, hr1c⟩ := x
  simp only at hr1
  refine WO.go 5 (ds := []) rfl ?_
  simp only [sx, ty, Bool.false_eq_true, Int.reduceEq, Int.reduceLT, Nat.reduceAdd, Nat.reduceSub, Nat.reduceMul, Nat.reduceLT, Nat.reduceLeDiff, Nat.reduceEqDiff, List.reduceReplicate, reduceIte, beq_self_eq_true, bne_self_eq_false, Int.reduceBEq, Int.reduceBNe, Bool.or_false, Bool.false_or, Bool.not_false, Bool.not_true, mbits, Int.reduceToNat, Int.reducePow, Int.toNat_natCast]
  with_reducible refine WO.nil ?_
  refine hK2 _ ?_; clear hK2
  refine W.seqK fun K3 hK3 => ?_
  refine W.pure (ds := []) rfl fun K4 hK4 => ?_
  simp only [sx, ty, Bool.false_eq_true, Int.reduceEq, Int.reduceLT, Nat.reduceAdd, Nat.reduceSub, Nat.reduceMul, Nat.reduceLT, Nat.reduceLeDiff, Nat.reduceEqDiff, List.reduceReplicate, reduceIte, beq_self_eq_true, bne_self_eq_false, Int.reduceBEq, Int.reduceBNe, Bool.or_false, Bool.false_or, Bool.not_false, Bool.not_true, mbits, Int.reduceToNat, Int.reducePow, Int.toNat_natCast]; with_reducible refine hK4 _ ?_; clear hK4
  refine W.cond rfl rfl (fun hc => ?_) (fun hc => ?_)
  · skip
    have h0 : 4000 < l.length := by
      apply Classical.byContradiction; intro h9; rw [PutF_ok h9] at hc; simp at hc
    rw [PutF_long h0]
    refine W.pure (ds := []) rfl fun K5 hK5 => ?_
    simp only [sx, ty, Bool.false_eq_true, Int.reduceEq, Int.reduceLT, Nat.reduceAdd, Nat.reduceSub, Nat.reduceMul, Nat.reduceLT, Nat.reduceLeDiff, Nat.reduceEqDiff, List.reduceReplicate, reduceIte, beq_self_eq_true, bne_self_eq_false, Int.reduceBEq, Int.reduceBNe, Bool.or_false, Bool.false_or, Bool.not_false, Bool.not_true, mbits, Int.reduceToNat, Int.reducePow, Int.toNat_natCast]; with_reducible refine hK5 _ ?_; clear hK5
    refine W.ret ⟨by simp, _, rfl, fun ρ w1 hb => ?_⟩
    rw [FrameF_long h0]
    exact ⟨(none, 0), rfl, Rp.slice_nil (by omega)⟩
  · skip
    have h0 : ¬ 4000 < l.length := fun h9 => by rw [PutF_long h9] at hc; simp at hc
    rw [PutF_ok h0] at *
    simp only at *
    have hb40 : (putF l).length ≤ 1000000 := by omega
    refine W.skip (hK3 _ ?_)
    refine W.pure (ds := []) rfl fun K6 hK6 => ?_
    simp only [sx, ty, Bool.false_eq_true, Int.reduceEq, Int.reduceLT, Nat.reduceAdd, Nat.reduceSub, Nat.reduceMul, Nat.reduceLT, Nat.reduceLeDiff, Nat.reduceEqDiff, List.reduceReplicate, reduceIte, beq_self_eq_true, bne_self_eq_false, Int.reduceBEq, Int.reduceBNe, Bool.or_false, Bool.false_or, Bool.not_false, Bool.not_true, mbits, Int.reduceToNat, Int.reducePow, Int.toNat_natCast]; with_reducible refine hK6 _ ?_; clear hK6
    refine W.seqK fun K7 hK7 => W.region ?_
    refine WO.go 10 (ds := []) rfl ?_
    simp only [sx, ty, Bool.false_eq_true, Int.reduceEq, Int.reduceLT, Nat.reduceAdd, Nat.reduceSub, Nat.reduceMul, Nat.reduceLT, Nat.reduceLeDiff, Nat.reduceEqDiff, List.reduceReplicate, reduceIte, beq_self_eq_true, bne_self_eq_false, Int.reduceBEq, Int.reduceBNe, Bool.or_false, Bool.false_or, Bool.not_false, Bool.not_true, mbits, Int.reduceToNat, Int.reducePow, Int.toNat_natCast, hdr1, hdr2, hdr3]
    obtain h9 | ⟨a1, olds, ha1, hnl, hSD, hzD, holD, hatD, hrdD⟩ := Rp.slice_cells hr1
    · rw [h9] at hpl; simp at hpl
    subst ha1
    have hE := bytes_cells (by rw [holD]; exact Nat.mul_one _) hrdD
    have hatE : At hr1s a1 ((putF l).map (Value.int .u8)) := by rw [← hE]; exact hatD
    clear hE
    refine WO.appendFull (n := 3) (m := (putF l).length) ((hdr (putF l).length).map (Value.int .u8)) ((putF l).map (.int .u8)) (ds := []) rfl rfl rfl rfl ⟨_, rfl, olds_own (k2 := 0) rfl (fun _ => by simp [hdr, denL, den])⟩ rfl ek23 (by simp [hdr]) (by omega) (fun ρ w1 hb => ⟨a1, hr1c, rfl, hatE.now hb (by simp) hSD hzD⟩) (by simp) (by rw [maxLen_eq]; omega) (by omega) fun q1 cq1 => ?_
    simp only [St.pushO, List.cons_append, List.nil_append]
    have hfl : 3 + (putF l).length = (fullB l).length := by simp [fullB, hdr]; omega
    rw [OB_app (xs := hdr (putF l).length) (ys := putF l) (by simp [hdr])]
    rw [hfl]
    rw [show hdr (putF l).length ++ putF l = fullB l from rfl]
    refine WO.go 1 (ds := []) rfl ?_
    simp only [sx, ty, Bool.false_eq_true, Int.reduceEq, Int.reduceLT, Nat.reduceAdd, Nat.reduceSub, Nat.reduceMul, Nat.reduceLT, Nat.reduceLeDiff, Nat.reduceEqDiff, List.reduceReplicate, reduceIte, beq_self_eq_true, bne_self_eq_false, Int.reduceBEq, Int.reduceBNe, Bool.or_false, Bool.false_or, Bool.not_false, Bool.not_true, mbits, Int.reduceToNat, Int.reducePow, Int.toNat_natCast, hdr1, hdr2, hdr3]
    with_reducible refine WO.nil ?_
    refine hK7 _ ?_; clear hK7
    refine W.seqK fun K8 hK8 => W.region ?_
    refine WO.go 1 (ds := []) rfl ?_
    simp only [sx, ty, Bool.false_eq_true, Int.reduceEq, Int.reduceLT, Nat.reduceAdd, Nat.reduceSub, Nat.reduceMul, Nat.reduceLT, Nat.reduceLeDiff, Nat.reduceEqDiff, List.reduceReplicate, reduceIte, beq_self_eq_true, bne_self_eq_false, Int.reduceBEq, Int.reduceBNe, Bool.or_false, Bool.false_or, Bool.not_false, Bool.not_true, mbits, Int.reduceToNat, Int.reducePow, Int.toNat_natCast, hdr1, hdr2, hdr3]
    refine WO.call (.agg #[.int .u8 (byteF (digF beginD (fullB l)) 0), .int .u8 (byteF (digF beginD (fullB l)) 1), .int .u8 (byteF (digF beginD (fullB l)) 2), .int .u8 (byteF (digF beginD (fullB l)) 3), .int .u8 (byteF (digF beginD (fullB l)) 4), .int .u8 (byteF (digF beginD (fullB l)) 5), .int .u8 (byteF (digF beginD (fullB l)) 6), .int .u8 (byteF (digF beginD (fullB l)) 7)]) (ds := []) rfl rfl rfl rfl co25 (fun ρ w1 hb => sum8_spec (own_slice (A := rByte) (k := 1) (S := fun _ => True) (xs := (fullB l).map (.int .u8)) hb rfl rfl (fun _ _ => trivial) (bytes_read (fullB l)))) ?_
    refine WO.go 2 (ds := []) rfl ?_
    simp only [sx, ty, Bool.false_eq_true, Int.reduceEq, Int.reduceLT, Nat.reduceAdd, Nat.reduceSub, Nat.reduceMul, Nat.reduceLT, Nat.reduceLeDiff, Nat.reduceEqDiff, List.reduceReplicate, reduceIte, beq_self_eq_true, bne_self_eq_false, Int.reduceBEq, Int.reduceBNe, Bool.or_false, Bool.false_or, Bool.not_false, Bool.not_true, mbits, Int.reduceToNat, Int.reducePow, Int.toNat_natCast, hdr1, hdr2, hdr3]
    with_reducible refine WO.nil ?_
    refine hK8 _ ?_; clear hK8
    refine W.seqK fun K9 hK9 => W.region ?_
    refine WO.go 1 (ds := []) rfl ?_
    simp only [sx, ty, Bool.false_eq_true, Int.reduceEq, Int.reduceLT, Nat.reduceAdd, Nat.reduceSub, Nat.reduceMul, Nat.reduceLT, Nat.reduceLeDiff, Nat.reduceEqDiff, List.reduceReplicate, reduceIte, beq_self_eq_true, bne_self_eq_false, Int.reduceBEq, Int.reduceBNe, Bool.or_false, Bool.false_or, Bool.not_false, Bool.not_true, mbits, Int.reduceToNat, Int.reducePow, Int.toNat_natCast, hdr1, hdr2, hdr3]
    refine WO.q (ds := []) rfl rfl rfl (QR.arrSlice rfl rfl ar48) ?_
    simp only [sx, ty, Bool.false_eq_true, Int.reduceEq, Int.reduceLT, Nat.reduceAdd, Nat.reduceSub, Nat.reduceMul, Nat.reduceLT, Nat.reduceLeDiff, Nat.reduceEqDiff, List.reduceReplicate, reduceIte, beq_self_eq_true, bne_self_eq_false, Int.reduceBEq, Int.reduceBNe, Bool.or_false, Bool.false_or, Bool.not_false, Bool.not_true, mbits, Int.reduceToNat, Int.reducePow, Int.toNat_natCast, hdr1, hdr2, hdr3]
    refine WO.append (k := 1) (n := (fullB l).length) (m := 8) ((bigE (digF beginD (fullB l))).map (.int .u8)) (ds := []) rfl rfl rfl rfl rfl rfl rfl ek23 (news_own (k2 := 2) rfl fun _ => rfl) rfl (by simp [bigE, preB, Value.oneCell']) (by rw [maxLen_eq]; omega) (by omega) fun p6 c6 => ?_
    simp only [setOwn, setN]
    rw [OB_app (xs := fullB l) (ys := bigE (digF beginD (fullB l))) (by simp [bigE, preB_len])]
    refine WO.go 2 (ds := []) rfl ?_
    simp only [sx, ty, Bool.false_eq_true, Int.reduceEq, Int.reduceLT, Nat.reduceAdd, Nat.reduceSub, Nat.reduceMul, Nat.reduceLT, Nat.reduceLeDiff, Nat.reduceEqDiff, List.reduceReplicate, reduceIte, beq_self_eq_true, bne_self_eq_false, Int.reduceBEq, Int.reduceBNe, Bool.or_false, Bool.false_or, Bool.not_false, Bool.not_true, mbits, Int.reduceToNat, Int.reducePow, Int.toNat_natCast, hdr1, hdr2, hdr3]
    with_reducible refine WO.nil ?_
    refine hK9 _ ?_; clear hK9
    refine W.ret ⟨by simp, _, rfl, fun ρ w1 hb => ?_⟩
    rw [FrameF_ok h0, frameF_eq]
    exact ⟨(p6, c6), by simp only [den, denL, List.length_append, bigE, preB_len], by exact OB_rd (new_own (w0 := w) (o := OB (fullB l ++ bigE (digF beginD (fullB l))) (p6, c6)) hb (by simp) (k := 1) rfl rfl)⟩
/-- function 14 -/
theorem rFrame_spec {S : Nat → Prop} {w : World} {v : Value} {l : List Int} (hl : rInts.rd S w [v] l) (hI : ∀ x, x ∈ l → isI x) : Gives Try.prog 14 #[v] w fun r w' =>
    ∃ x : Option Addr × Nat, r = .tuple #[.slice x.1 (FrameF l).1.length x.2, .int .i64 (FrameF l).2] ∧ rBytes.rd (fun b => w.heap.size ≤ b) w' [.slice x.1 (FrameF l).1.length x.2] (FrameF l).1 := by
  obtain ⟨p, c, rfl, hc1, hc2⟩ := Rp.slice_val hl
  have hl : (Rp.slice rInt).rd (fun _ => True) w _ l := Rp.any hl
  have hpl := putF_len l
  refine gives_of [.val (.slice p l.length c)] 37 [.tmp 2, .tmp 3] Try.func14 rfl rfl rfl (by simp) rfl rfl ?_
  refine W.pure (ds := []) rfl fun K1 hK1 => ?_
  simp only [sx, ty, Bool.false_eq_true, Int.reduceEq, Int.reduceLT, Nat.reduceAdd, Nat.reduceSub, Nat.reduceMul, Nat.reduceLT, Nat.reduceLeDiff, Nat.reduceEqDiff, List.reduceReplicate, reduceIte, beq_self_eq_true, bne_self_eq_false, Int.reduceBEq, Int.reduceBNe, Bool.or_false, Bool.false_or, Bool.not_false, Bool.not_true, mbits, Int.reduceToNat, Int.reducePow, Int.toNat_natCast]; with_reducible refine hK1 _ ?_; clear hK1
  refine W.seqK fun K2 hK2 => W.region ?_
  refine WO.go 1 (ds := []) rfl ?_
  simp only [sx, ty, Bool.false_eq_true, Int.reduceEq, Int.reduceLT, Nat.reduceAdd, Nat.reduceSub, Nat.reduceMul, Nat.reduceLT, Nat.reduceLeDiff, Nat.reduceEqDiff, List.reduceReplicate, reduceIte, beq_self_eq_true, bne_self_eq_false, Int.reduceBEq, Int.reduceBNe, Bool.or_false, Bool.false_or, Bool.not_false, Bool.not_true, mbits, Int.reduceToNat, Int.reducePow, Int.toNat_natCast]
  refine WO.callM (fun x : Option Addr × Nat => .tuple #[.slice x.1 (PutF l).1.length x.2, .int .i64 (PutF l).2]) (fun lo x s9 => rBytes.rd (fun b => lo ≤ b) s9 [.slice x.1 (PutF l).1.length x.2] (PutF l).1) (ds := []) rfl rfl rfl rfl co11 (fun ρ w1 hb => rPut_spec (Rp.now hl (hb.first (by simp))) hI) fun x lo hr1s hr1 => ?_
  obtain ⟨hr1p, hr1c⟩ := x
  simp only at hr1
  refine WO.go 5 (ds := []) rfl ?_
  simp only [sx, ty, Bool.false_eq_true, Int.reduceEq, Int.reduceLT, Nat.reduceAdd, Nat.reduceSub, Nat.reduceMul, Nat.reduceLT, Nat.reduceLeDiff, Nat.reduceEqDiff, List.reduceReplicate, reduceIte, beq_self_eq_true, bne_self_eq_false, Int.reduceBEq, Int.reduceBNe, Bool.or_false, Bool.false_or, Bool.not_false, Bool.not_true, mbits, Int.reduceToNat, Int.reducePow, Int.toNat_natCast]
  with_reducible refine WO.nil ?_
  refine hK2 _ ?_; clear hK2
  refine W.seqK fun K3 hK3 => ?_
  refine W.pure (ds := []) rfl fun K4 hK4 => ?_
  simp only [sx, ty, Bool.false_eq_true, Int.reduceEq, Int.reduceLT, Nat.reduceAdd, Nat.reduceSub, Nat.reduceMul, Nat.reduceLT, Nat.reduceLeDiff, Nat.reduceEqDiff, List.reduceReplicate, reduceIte, beq_self_eq_true, bne_self_eq_false, Int.reduceBEq, Int.reduceBNe, Bool.or_false, Bool.false_or, Bool.not_false, Bool.not_true, mbits, Int.reduceToNat, Int.reducePow, Int.toNat_natCast]; with_reducible refine hK4 _ ?_; clear hK4
  refine W.cond rfl rfl (fun hc => ?_) (fun hc => ?_)
  · skip
    have h0 : 4000 < l.length := by
      apply Classical.byContradiction; intro h9; rw [PutF_ok h9] at hc; simp at hc
    rw [PutF_long h0]
    refine W.pure (ds := []) rfl fun K5 hK5 => ?_
    simp only [sx, ty, Bool.false_eq_true, Int.reduceEq, Int.reduceLT, Nat.reduceAdd, Nat.reduceSub, Nat.reduceMul, Nat.reduceLT, Nat.reduceLeDiff, Nat.reduceEqDiff, List.reduceReplicate, reduceIte, beq_self_eq_true, bne_self_eq_false, Int.reduceBEq, Int.reduceBNe, Bool.or_false, Bool.false_or, Bool.not_false, Bool.not_true, mbits, Int.reduceToNat, Int.reducePow, Int.toNat_natCast]; with_reducible refine hK5 _ ?_; clear hK5
    refine W.ret ⟨by simp, _, rfl, fun ρ w1 hb => ?_⟩
    rw [FrameF_long h0]
    exact ⟨(none, 0), rfl, Rp.slice_nil (by omega)⟩
  · skip
    have h0 : ¬ 4000 < l.length := fun h9 => by rw [PutF_long h9] at hc; simp at hc
    rw [PutF_ok h0] at *
    simp only at *
    have hb40 : (putF l).length ≤ 1000000 := by omega
    refine W.skip (hK3 _ ?_)
    refine W.pure (ds := []) rfl fun K6 hK6 => ?_
    simp only [sx, ty, Bool.false_eq_true, Int.reduceEq, Int.reduceLT, Nat.reduceAdd, Nat.reduceSub, Nat.reduceMul, Nat.reduceLT, Nat.reduceLeDiff, Nat.reduceEqDiff, List.reduceReplicate, reduceIte, beq_self_eq_true, bne_self_eq_false, Int.reduceBEq, Int.reduceBNe, Bool.or_false, Bool.false_or, Bool.not_false, Bool.not_true, mbits, Int.reduceToNat, Int.reducePow, Int.toNat_natCast, hdr4 hb40, hdr5 hb40, hdr6]; with_reducible refine hK6 _ ?_; clear hK6
    refine W.seqK fun K7 hK7 => W.region ?_
    refine WO.go 2 (ds := []) rfl ?_
    simp only [sx, ty, Bool.false_eq_true, Int.reduceEq, Int.reduceLT, Nat.reduceAdd, Nat.reduceSub, Nat.reduceMul, Nat.reduceLT, Nat.reduceLeDiff, Nat.reduceEqDiff, List.reduceReplicate, reduceIte, beq_self_eq_true, bne_self_eq_false, Int.reduceBEq, Int.reduceBNe, Bool.or_false, Bool.false_or, Bool.not_false, Bool.not_true, mbits, Int.reduceToNat, Int.reducePow, Int.toNat_natCast, hdr4 hb40, hdr5 hb40, hdr6]
    obtain h9 | ⟨a1, olds, ha1, hnl, hSD, hzD, holD, hatD, hrdD⟩ := Rp.slice_cells hr1
    · rw [h9] at hpl; simp at hpl
    subst ha1
    have hE := bytes_cells (by rw [holD]; exact Nat.mul_one _) hrdD
    have hatE : At hr1s a1 ((putF l).map (Value.int .u8)) := by rw [← hE]; exact hatD
    clear hE
    refine WO.appendFull (n := 3) (m := (putF l).length) ((hdr (putF l).length).map (Value.int .u8)) ((putF l).map (.int .u8)) (ds := []) rfl rfl rfl rfl ⟨_, rfl, olds_own (k2 := 0) rfl (fun _ => by simp [hdr, denL, den])⟩ rfl ek23 (by simp [hdr]) (by omega) (fun ρ w1 hb => ⟨a1, hr1c, rfl, hatE.now hb (by simp) hSD hzD⟩) (by simp) (by rw [maxLen_eq]; omega) (by omega) fun q1 cq1 => ?_
    simp only [St.pushO, List.cons_append, List.nil_append]
    have hfl : 3 + (putF l).length = (fullB l).length := by simp [fullB, hdr]; omega
    rw [OB_app (xs := hdr (putF l).length) (ys := putF l) (by simp [hdr])]
    rw [hfl]
    rw [show hdr (putF l).length ++ putF l = fullB l from rfl]
    refine WO.go 1 (ds := []) rfl ?_
    simp only [sx, ty, Bool.false_eq_true, Int.reduceEq, Int.reduceLT, Nat.reduceAdd, Nat.reduceSub, Nat.reduceMul, Nat.reduceLT, Nat.reduceLeDiff, Nat.reduceEqDiff, List.reduceReplicate, reduceIte, beq_self_eq_true, bne_self_eq_false, Int.reduceBEq, Int.reduceBNe, Bool.or_false, Bool.false_or, Bool.not_false, Bool.not_true, mbits, Int.reduceToNat, Int.reducePow, Int.toNat_natCast, hdr4 hb40, hdr5 hb40, hdr6]
    with_reducible refine WO.nil ?_
    refine hK7 _ ?_; clear hK7
    refine W.seqK fun K8 hK8 => W.region ?_
    refine WO.go 2 (ds := []) rfl ?_
    simp only [sx, ty, Bool.false_eq_true, Int.reduceEq, Int.reduceLT, Nat.reduceAdd, Nat.reduceSub, Nat.reduceMul, Nat.reduceLT, Nat.reduceLeDiff, Nat.reduceEqDiff, List.reduceReplicate, reduceIte, beq_self_eq_true, bne_self_eq_false, Int.reduceBEq, Int.reduceBNe, Bool.or_false, Bool.false_or, Bool.not_false, Bool.not_true, mbits, Int.reduceToNat, Int.reducePow, Int.toNat_natCast, hdr4 hb40, hdr5 hb40, hdr6]
    refine WO.call (.int .u64 (digF beginD (fullB l))) (ds := []) rfl rfl rfl rfl co27 (fun ρ w1 hb => rsum_spec (own_slice (A := rByte) (k := 1) (S := fun _ => True) (xs := (fullB l).map (.int .u8)) hb rfl rfl (fun _ _ => trivial) (bytes_read (fullB l)))) ?_
    simp only [sx, ty, Bool.false_eq_true, Int.reduceEq, Int.reduceLT, Nat.reduceAdd, Nat.reduceSub, Nat.reduceMul, Nat.reduceLT, Nat.reduceLeDiff, Nat.reduceEqDiff, List.reduceReplicate, reduceIte, beq_self_eq_true, bne_self_eq_false, Int.reduceBEq, Int.reduceBNe, Bool.or_false, Bool.false_or, Bool.not_false, Bool.not_true, mbits, Int.reduceToNat, Int.reducePow, Int.toNat_natCast, hdr4 hb40, hdr5 hb40, hdr6]
    refine WO.callM (fun x : Option Addr × Nat => .slice x.1 (bigE (digF beginD (fullB l))).length x.2) (fun lo x s9 => rBytes.rd (fun b => lo ≤ b) s9 [.slice x.1 (bigE (digF beginD (fullB l))).length x.2] (bigE (digF beginD (fullB l)))) (ds := []) rfl rfl rfl rfl co26 (fun ρ w1 hb => bytes_spec w1 (digF beginD (fullB l))) fun x lo hr2s hr2 => ?_
    obtain ⟨hr2p, hr2c⟩ := x
    simp only at hr2
    obtain h9 | ⟨a2, olds2, ha2, hnl2, hSD2, hzD2, holD2, hatD2, hrdD2⟩ := Rp.slice_cells hr2
    · simp [bigE, preB] at h9
    subst ha2
    have hE2 := bytes_cells (by rw [holD2]; exact Nat.mul_one _) hrdD2
    have hatE2 : At hr2s a2 ((bigE (digF beginD (fullB l))).map (.int .u8)) := by rw [← hE2]; exact hatD2
    clear hE2
    have hbl : (bigE (digF beginD (fullB l))).length = 8 := by simp [bigE, preB_len]
    simp only [sx, ty, Bool.false_eq_true, Int.reduceEq, Int.reduceLT, Nat.reduceAdd, Nat.reduceSub, Nat.reduceMul, Nat.reduceLT, Nat.reduceLeDiff, Nat.reduceEqDiff, List.reduceReplicate, reduceIte, beq_self_eq_true, bne_self_eq_false, Int.reduceBEq, Int.reduceBNe, Bool.or_false, Bool.false_or, Bool.not_false, Bool.not_true, mbits, Int.reduceToNat, Int.reducePow, Int.toNat_natCast, hdr4 hb40, hdr5 hb40, hdr6]
    refine WO.append (k := 1) (n := (fullB l).length) (m := (bigE (digF beginD (fullB l))).length) ((bigE (digF beginD (fullB l))).map (.int .u8)) (ds := []) rfl rfl rfl rfl rfl rfl rfl ek23 (fun ρ w1 hb => ⟨a2, hr2c, rfl, hatE2.now hb (by simp) hSD2 hzD2⟩) (by simp) (by simp [bigE, preB, Value.oneCell']) (by rw [maxLen_eq]; omega) (by omega) fun p6 c6 => ?_
    simp only [setOwn, setN]
    rw [OB_app (xs := fullB l) (ys := bigE (digF beginD (fullB l))) (by simp [bigE, preB_len])]
    refine WO.go 2 (ds := []) rfl ?_
    simp only [sx, ty, Bool.false_eq_true, Int.reduceEq, Int.reduceLT, Nat.reduceAdd, Nat.reduceSub, Nat.reduceMul, Nat.reduceLT, Nat.reduceLeDiff, Nat.reduceEqDiff, List.reduceReplicate, reduceIte, beq_self_eq_true, bne_self_eq_false, Int.reduceBEq, Int.reduceBNe, Bool.or_false, Bool.false_or, Bool.not_false, Bool.not_true, mbits, Int.reduceToNat, Int.reducePow, Int.toNat_natCast, hdr4 hb40, hdr5 hb40, hdr6]
    with_reducible refine WO.nil ?_
    refine hK8 _ ?_; clear hK8
    refine W.ret ⟨by simp, _, rfl, fun ρ w1 hb => ?_⟩
    rw [FrameF_ok h0, frameF_eq]
    exact ⟨(p6, c6), by simp only [den, denL, List.length_append, bigE, preB_len], by exact OB_rd (new_own (w0 := w) (o := OB (fullB l ++ bigE (digF beginD (fullB l))) (p6, c6)) hb (by simp) (k := 1) rfl rfl)⟩
end Go.Proofs.Ytnbfdncmlbegmaa
