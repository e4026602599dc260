/-
  Codec: digests of bytes: walks.
-/
import Derived.Test.YtnbfdncmlbegmaaC5
set_option linter.unusedVariables false
set_option linter.unusedSimpArgs false
set_option maxHeartbeats 1000000
namespace Go.Proofs.Ytnbfdncmlbegmaa
open Go Go.SX Go.RowKit

def stepF (d x : Int) : Int := IntKind.u64.wrap (IntKind.u64.wrap ((BitVec.ofInt IntKind.u64.bits d ^^^ BitVec.ofInt IntKind.u64.bits (IntKind.u64.wrap x)).toNat) * 1099511628211)
def digF (d : Int) (b : List Int) : Int := b.foldl stepF d
def beginD : Int := 14695981039346656037
theorem digF_step {d c : Int} {b : List Int} {i : Nat} (h : b[i]? = some c) : digF d (b.take (i + 1)) = stepF (digF d (b.take i)) c := by
  simp only [digF, List.take_add_one, h, Option.toList_some, List.foldl_append, List.foldl_cons, List.foldl_nil]
/-- function 27 -/
theorem rsum_spec {S : Nat → Prop} {w : World} {v : Value} {b : List Int} (hl : rBytes.rd S w [v] b) : Gives Try.prog 27 #[v] w fun r _ => r = .int .u64 (digF beginD b) := by
  obtain ⟨p, c, rfl, hc1, hc2⟩ := Rp.slice_val hl
  have hl : (Rp.slice rByte).rd (fun _ => True) w _ b := Rp.any hl
  refine gives_of [.val (.slice p b.length c)] 20 [.tmp 2] Try.func27 rfl rfl rfl (by simp) rfl rfl ?_
  refine W.pure (ds := []) rfl fun K1 hK1 => ?_
  simp only [sx, ty, Bool.false_eq_true, Int.reduceEq, Int.reduceLT, Nat.reduceAdd, Nat.reduceSub, Nat.reduceMul, Nat.reduceLT, Nat.reduceLeDiff, Nat.reduceEqDiff, List.reduceReplicate, reduceIte, beq_self_eq_true, bne_self_eq_false, Int.reduceBEq, Int.reduceBNe, Bool.or_false, Bool.false_or, Bool.not_false, Bool.not_true, mbits, Int.reduceToNat, Int.reducePow, Int.toNat_natCast]; with_reducible refine hK1 _ ?_; clear hK1
  refine W.pure (ds := []) rfl fun K2 hK2 => ?_
  simp only [sx, ty, Bool.false_eq_true, Int.reduceEq, Int.reduceLT, Nat.reduceAdd, Nat.reduceSub, Nat.reduceMul, Nat.reduceLT, Nat.reduceLeDiff, Nat.reduceEqDiff, List.reduceReplicate, reduceIte, beq_self_eq_true, bne_self_eq_false, Int.reduceBEq, Int.reduceBNe, Bool.or_false, Bool.false_or, Bool.not_false, Bool.not_true, mbits, Int.reduceToNat, Int.reducePow, Int.toNat_natCast]; with_reducible refine hK2 _ ?_; clear hK2
  refine W.seqK fun K3 hK3 => ?_
  refine W.pure (ds := []) rfl fun K4 hK4 => ?_
  simp only [sx, ty, Bool.false_eq_true, Int.reduceEq, Int.reduceLT, Nat.reduceAdd, Nat.reduceSub, Nat.reduceMul, Nat.reduceLT, Nat.reduceLeDiff, Nat.reduceEqDiff, List.reduceReplicate, reduceIte, beq_self_eq_true, bne_self_eq_false, Int.reduceBEq, Int.reduceBNe, Bool.or_false, Bool.false_or, Bool.not_false, Bool.not_true, mbits, Int.reduceToNat, Int.reducePow, Int.toNat_natCast]; with_reducible refine hK4 _ ?_; clear hK4
  refine W.block ?_
  refine W.loopK (X := Nat) [0] (fun x => [(3, .val (.int .u64 (digF beginD (b.take x)))), (4, .val (.int .i64 x))]) (fun x => x ≤ b.length) (fun x => b.length - x) 0 ?_ ?_ ?_
  · exact ⟨rfl, by simp [getE, bnd, keepE, digF, beginD], ⟨[], by simp⟩, by simp [Own.bnd, bndL, bnd, boxO], by simp⟩
  · skip
    exact Nat.zero_le _
  · rintro i hi
    simp only [sx, ty, Bool.false_eq_true, Int.reduceEq, Int.reduceLT, Nat.reduceAdd, Nat.reduceSub, Nat.reduceMul, Nat.reduceLT, Nat.reduceLeDiff, Nat.reduceEqDiff, List.reduceReplicate, reduceIte, sxk, beq_self_eq_true, bne_self_eq_false, Int.reduceBEq, Int.reduceBNe, Bool.or_false, Bool.false_or, Bool.not_false, Bool.not_true, mbits, Int.reduceToNat, Int.reducePow, Int.toNat_natCast]
    refine W.seqK fun K5 hK5 => ?_
    refine W.pure (ds := []) rfl fun K6 hK6 => ?_
    simp only [sx, ty, Bool.false_eq_true, Int.reduceEq, Int.reduceLT, Nat.reduceAdd, Nat.reduceSub, Nat.reduceMul, Nat.reduceLT, Nat.reduceLeDiff, Nat.reduceEqDiff, List.reduceReplicate, reduceIte, beq_self_eq_true, bne_self_eq_false, Int.reduceBEq, Int.reduceBNe, Bool.or_false, Bool.false_or, Bool.not_false, Bool.not_true, mbits, Int.reduceToNat, Int.reducePow, Int.toNat_natCast]; with_reducible refine hK6 _ ?_; clear hK6
    refine W.cond rfl rfl (fun hc => ?_) (fun hc => ?_)
    · skip
      have hlt : i < b.length := by simpa using hc
      obtain ⟨c1, hget⟩ : ∃ c1, b[i]? = some c1 := ⟨_, List.getElem?_eq_getElem hlt⟩
      have hst := digF_step (d := beginD) hget
      refine W.skip (hK5 _ ?_)
      refine W.seqK fun K7 hK7 => ?_
      refine W.block ?_
      refine W.region ?_
      refine WO.go 3 (ds := []) rfl ?_
      simp only [sx, ty, Bool.false_eq_true, Int.reduceEq, Int.reduceLT, Nat.reduceAdd, Nat.reduceSub, Nat.reduceMul, Nat.reduceLT, Nat.reduceLeDiff, Nat.reduceEqDiff, List.reduceReplicate, reduceIte, beq_self_eq_true, bne_self_eq_false, Int.reduceBEq, Int.reduceBNe, Bool.or_false, Bool.false_or, Bool.not_false, Bool.not_true, mbits, Int.reduceToNat, Int.reducePow, Int.toNat_natCast]
      refine WO.elem (y := c1) hl (by simp [St.put]) (ds := []) rfl rfl rfl (by simp [St.put]) (fun _ => rfl) rfl rfl rfl rfl rfl el23 agg5 sz5 (.inr rfl) (by omega) (hget) fun p ces hces => ?_
      obtain rfl := rByte_open hces
      clear hces
      refine WO.go 4 (ds := []) rfl ?_
      simp only [sx, ty, Bool.false_eq_true, Int.reduceEq, Int.reduceLT, Nat.reduceAdd, Nat.reduceSub, Nat.reduceMul, Nat.reduceLT, Nat.reduceLeDiff, Nat.reduceEqDiff, List.reduceReplicate, reduceIte, beq_self_eq_true, bne_self_eq_false, Int.reduceBEq, Int.reduceBNe, Bool.or_false, Bool.false_or, Bool.not_false, Bool.not_true, mbits, Int.reduceToNat, Int.reducePow, Int.toNat_natCast]
      with_reducible refine WO.nil ?_
      refine hK7 _ ?_
      refine W.region ?_
      refine WO.go 3 (ds := []) rfl ?_
      simp only [sx, ty, Bool.false_eq_true, Int.reduceEq, Int.reduceLT, Nat.reduceAdd, Nat.reduceSub, Nat.reduceMul, Nat.reduceLT, Nat.reduceLeDiff, Nat.reduceEqDiff, List.reduceReplicate, reduceIte, beq_self_eq_true, bne_self_eq_false, Int.reduceBEq, Int.reduceBNe, Bool.or_false, Bool.false_or, Bool.not_false, Bool.not_true, mbits, Int.reduceToNat, Int.reducePow, Int.toNat_natCast]
      with_reducible refine WO.nil ?_
      refine ⟨i + 1, ?_, by first | omega | (simp; omega), rfl, by simp [getE, bnd, keepE, hst, stepF, wrap_succ (show i + 1 ≤ 9223372036854775807 by omega)], ⟨_, rfl⟩, by simp [Own.bnd, bndL, bnd, boxO], by simp⟩
      exact hlt
    · skip
      obtain rfl : i = b.length := Nat.le_antisymm hi (by simpa using hc)
      refine W.exit (hK3 _ ?_)
      refine W.pure (ds := []) rfl fun K8 hK8 => ?_
      simp only [sx, ty, Bool.false_eq_true, Int.reduceEq, Int.reduceLT, Nat.reduceAdd, Nat.reduceSub, Nat.reduceMul, Nat.reduceLT, Nat.reduceLeDiff, Nat.reduceEqDiff, List.reduceReplicate, reduceIte, beq_self_eq_true, bne_self_eq_false, Int.reduceBEq, Int.reduceBNe, Bool.or_false, Bool.false_or, Bool.not_false, Bool.not_true, mbits, Int.reduceToNat, Int.reducePow, Int.toNat_natCast]; with_reducible refine hK8 _ ?_; clear hK8
      refine W.ret ⟨by simp, _, rfl, fun ρ w1 hb => ?_⟩
      simp only [den, List.take_length]
/-- function 37 -/
theorem box_one {w : World} {bb : Nat} {T : TypeId} {v : Value} (h : w.heap[bb]? = some (.cells #[v] T (0, 0))) : At w ⟨bb, 0, none⟩ [v] := by
  have hb : Base (fun _ => 0) ⟨0, [], [boxO T bb [v]], [], []⟩ w := ⟨fun k o hk ρ' _ => by
      cases k with
      | zero => simp only [List.getElem?_cons_zero, Option.some.injEq] at hk; subst hk; exact boxO_holds (by simp [maxLen]) h
      | succ k => simp at hk, fun i j oi oj b hi hj _ _ => by
      have h1 := (List.getElem?_eq_some_iff.1 hi).1
      have h2 := (List.getElem?_eq_some_iff.1 hj).1
      simp at h1 h2; omega, fun p hp => by cases hp⟩
  exact box_at (k := 0) hb rfl
theorem tell_spec {w : World} {bb : Nat} {d : Int} (hbx : w.heap[bb]? = some (.cells #[.int .u64 d] 51 (0, 0))) : Gives Try.prog 37 #[.pointer (some ⟨bb, 0, none⟩)] w fun r _ => r = .int .u64 d := by
  have hsz : bb < w.heap.size := (Array.getElem?_eq_some_iff.1 hbx).1
  have hat : At w ⟨bb, 0, none⟩ [.int .u64 d] := box_one hbx
  refine gives_of [.val (.pointer (some ⟨bb, 0, none⟩))] 3 [.tmp 1] Try.func37 rfl rfl rfl (by simp) rfl rfl ?_
  refine W.pure (ds := []) rfl fun K1 hK1 => ?_
  simp only [sx, ty, Bool.false_eq_true, Int.reduceEq, Int.reduceLT, Nat.reduceAdd, Nat.reduceSub, Nat.reduceMul, Nat.reduceLT, Nat.reduceLeDiff, Nat.reduceEqDiff, List.reduceReplicate, reduceIte, beq_self_eq_true, bne_self_eq_false, Int.reduceBEq, Int.reduceBNe, Bool.or_false, Bool.false_or, Bool.not_false, Bool.not_true, mbits, Int.reduceToNat, Int.reducePow, Int.toNat_natCast]; with_reducible refine hK1 _ ?_; clear hK1
  refine W.seqK fun K2 hK2 => W.region ?_
  refine WO.load [.int .u64 d] false (ds := []) rfl rfl rfl rfl rfl agg51 sz51 (.inr rfl) (fun ρ w1 hb => hat.now (S := fun _ => True) hb (by simp [St.put]) trivial hsz) ?_
  simp only [List.drop_succ_cons, List.drop_zero, List.take_succ_cons, List.take_zero, ofCells, Bool.false_eq_true, if_false, List.headD_cons]
  refine WO.go 1 (ds := []) rfl ?_
  simp only [sx, ty, Bool.false_eq_true, Int.reduceEq, Int.reduceLT, Nat.reduceAdd, Nat.reduceSub, Nat.reduceMul, Nat.reduceLT, Nat.reduceLeDiff, Nat.reduceEqDiff, List.reduceReplicate, reduceIte, beq_self_eq_true, bne_self_eq_false, Int.reduceBEq, Int.reduceBNe, Bool.or_false, Bool.false_or, Bool.not_false, Bool.not_true, mbits, Int.reduceToNat, Int.reducePow, Int.toNat_natCast]
  with_reducible refine WO.nil ?_
  refine hK2 _ ?_; clear hK2
  refine W.ret ⟨by simp, _, rfl, fun ρ w1 hb => ?_⟩
  simp only [den]
/-- function 36 -/
theorem add_spec {S : Nat → Prop} {w : World} {v : Value} {b : List Int} {bb : Nat} {d : Int} (hl : rBytes.rd S w [v] b) (hS : ∀ x, S x → x < w.heap.size → ¬ x = bb) (hbx : w.heap[bb]? = some (.cells #[.int .u64 d] 51 (0, 0))) : GivesB Try.prog 36 #[v, .pointer (some ⟨bb, 0, none⟩)] w (fun x => x = bb) fun r w' =>
    r = .tuple #[] ∧ w'.heap[bb]? = some (.cells #[.int .u64 (digF d b)] 51 (0, 0)) := by
  obtain ⟨p, c, rfl, hc1, hc2⟩ := Rp.slice_val hl
  have hl : (Rp.slice rByte).rd (fun x => ¬ x = bb) w _ b := Rp.mono _ hl hS
  refine giveO_of (boxO 51 bb [.int .u64 d]) bb [.val (.slice p b.length c), .val (.pointer (some ⟨bb, 0, none⟩))] 17 [] Try.func36 rfl rfl rfl (by simp) rfl rfl (fun ρ k => boxO_holds (by simp [maxLen]) hbx) (fun ρ k => rfl) ?_
  refine W.pure (ds := []) rfl fun K1 hK1 => ?_
  simp only [sx, ty, Bool.false_eq_true, Int.reduceEq, Int.reduceLT, Nat.reduceAdd, Nat.reduceSub, Nat.reduceMul, Nat.reduceLT, Nat.reduceLeDiff, Nat.reduceEqDiff, List.reduceReplicate, reduceIte, beq_self_eq_true, bne_self_eq_false, Int.reduceBEq, Int.reduceBNe, Bool.or_false, Bool.false_or, Bool.not_false, Bool.not_true, mbits, Int.reduceToNat, Int.reducePow, Int.toNat_natCast]; with_reducible refine hK1 _ ?_; clear hK1
  refine W.block ?_
  refine W.loopO (X := Nat) [1, 5, 6] (fun x => [(7, .val (.int .i64 x))]) (fun x => [boxO 51 bb [.int .u64 (digF d (b.take x))]]) (fun x => [((fun x => ¬ x = bb), w)]) (fun x => x ≤ b.length) (fun x => b.length - x) 0 ?_ ?_ ?_
  · exact ⟨rfl, by simp [getE, bnd, keepE], ⟨[], by simp [digF]⟩, by simp [Own.bnd, bndL, bnd, boxO, boxO], by simp⟩
  · skip
    exact Nat.zero_le _
  · rintro i hi
    simp only [sx, ty, Bool.false_eq_true, Int.reduceEq, Int.reduceLT, Nat.reduceAdd, Nat.reduceSub, Nat.reduceMul, Nat.reduceLT, Nat.reduceLeDiff, Nat.reduceEqDiff, List.reduceReplicate, reduceIte, sxk, beq_self_eq_true, bne_self_eq_false, Int.reduceBEq, Int.reduceBNe, Bool.or_false, Bool.false_or, Bool.not_false, Bool.not_true, mbits, Int.reduceToNat, Int.reducePow, Int.toNat_natCast]
    refine W.pure (ds := []) rfl fun K2 hK2 => ?_
    simp only [sx, ty, Bool.false_eq_true, Int.reduceEq, Int.reduceLT, Nat.reduceAdd, Nat.reduceSub, Nat.reduceMul, Nat.reduceLT, Nat.reduceLeDiff, Nat.reduceEqDiff, List.reduceReplicate, reduceIte, beq_self_eq_true, bne_self_eq_false, Int.reduceBEq, Int.reduceBNe, Bool.or_false, Bool.false_or, Bool.not_false, Bool.not_true, mbits, Int.reduceToNat, Int.reducePow, Int.toNat_natCast]; with_reducible refine hK2 _ ?_; clear hK2
    refine W.seqK fun K3 hK3 => ?_
    refine W.cond rfl rfl (fun hc => ?_) (fun hc => ?_)
    · skip
      have hlt : i < b.length := by simpa using hc
      obtain ⟨c1, hget⟩ : ∃ c1, b[i]? = some c1 := ⟨_, List.getElem?_eq_getElem hlt⟩
      have hst := digF_step (d := d) hget
      refine W.skip (hK3 _ ?_)
      refine W.seqK fun K4 hK4 => ?_
      refine W.block ?_
      refine W.seqK fun K5 hK5 => W.region ?_
      refine WO.elem (y := c1) hl (by simp [St.put]) (ds := []) rfl rfl rfl (by simp [St.put]) (fun _ => rfl) rfl rfl rfl rfl rfl el23 agg5 sz5 (.inr rfl) (by omega) (hget) fun p ces hces => ?_
      obtain rfl := rByte_open hces
      clear hces
      refine WO.go 1 (ds := []) rfl ?_
      simp only [sx, ty, Bool.false_eq_true, Int.reduceEq, Int.reduceLT, Nat.reduceAdd, Nat.reduceSub, Nat.reduceMul, Nat.reduceLT, Nat.reduceLeDiff, Nat.reduceEqDiff, List.reduceReplicate, reduceIte, beq_self_eq_true, bne_self_eq_false, Int.reduceBEq, Int.reduceBNe, Bool.or_false, Bool.false_or, Bool.not_false, Bool.not_true, mbits, Int.reduceToNat, Int.reducePow, Int.toNat_natCast]
      with_reducible refine WO.nil ?_
      refine hK5 _ ?_; clear hK5
      refine W.region ?_
      refine WO.loadBox (k := 0) (i := 0) (sz := 1) rfl (ds := []) rfl rfl rfl rfl rfl (by simp [Addr.add_mid]) (by simp) agg51 sz51 (.inr rfl) ?_
      simp only [List.drop_succ_cons, List.drop_zero, List.take_succ_cons, List.take_zero, ofCells, Bool.false_eq_true, if_false, List.headD_cons]
      refine WO.go 4 (ds := []) rfl ?_
      simp only [sx, ty, Bool.false_eq_true, Int.reduceEq, Int.reduceLT, Nat.reduceAdd, Nat.reduceSub, Nat.reduceMul, Nat.reduceLT, Nat.reduceLeDiff, Nat.reduceEqDiff, List.reduceReplicate, reduceIte, beq_self_eq_true, bne_self_eq_false, Int.reduceBEq, Int.reduceBNe, Bool.or_false, Bool.false_or, Bool.not_false, Bool.not_true, mbits, Int.reduceToNat, Int.reducePow, Int.toNat_natCast]
      refine WO.storeBox (k := 0) (i := 0) rfl (ds := []) rfl rfl rfl rfl rfl (by simp [Addr.add_mid]) (by simp) rfl rfl sz51 ?_
      simp only [sx, ty, Bool.false_eq_true, Int.reduceEq, Int.reduceLT, Nat.reduceAdd, Nat.reduceSub, Nat.reduceMul, Nat.reduceLT, Nat.reduceLeDiff, Nat.reduceEqDiff, List.reduceReplicate, reduceIte, beq_self_eq_true, bne_self_eq_false, Int.reduceBEq, Int.reduceBNe, Bool.or_false, Bool.false_or, Bool.not_false, Bool.not_true, mbits, Int.reduceToNat, Int.reducePow, Int.toNat_natCast]
      with_reducible refine WO.nil ?_
      refine hK4 _ ?_
      refine W.region ?_
      refine WO.go 2 (ds := []) rfl ?_
      simp only [sx, ty, Bool.false_eq_true, Int.reduceEq, Int.reduceLT, Nat.reduceAdd, Nat.reduceSub, Nat.reduceMul, Nat.reduceLT, Nat.reduceLeDiff, Nat.reduceEqDiff, List.reduceReplicate, reduceIte, beq_self_eq_true, bne_self_eq_false, Int.reduceBEq, Int.reduceBNe, Bool.or_false, Bool.false_or, Bool.not_false, Bool.not_true, mbits, Int.reduceToNat, Int.reducePow, Int.toNat_natCast]
      with_reducible refine WO.nil ?_
      refine ⟨i + 1, hlt, by omega, rfl, by simp [getE, bnd, keepE, wrap_succ (show i + 1 ≤ 9223372036854775807 by omega)], ⟨[], by simp [hst, stepF]⟩, by simp [Own.bnd, bndL, bnd, boxO], by simp⟩
    · skip
      obtain rfl : i = b.length := Nat.le_antisymm hi (by simpa using hc)
      refine W.exit ?_
      refine ⟨by simp, ?_⟩
      simp only [sx, ty, Bool.false_eq_true, Int.reduceEq, Int.reduceLT, Nat.reduceAdd, Nat.reduceSub, Nat.reduceMul, Nat.reduceLT, Nat.reduceLeDiff, Nat.reduceEqDiff, List.reduceReplicate, reduceIte, sxr, beq_self_eq_true, bne_self_eq_false, Int.reduceBEq, Int.reduceBNe, Bool.or_false, Bool.false_or, Bool.not_false, Bool.not_true, mbits, Int.reduceToNat, Int.reducePow, Int.toNat_natCast]
      intro ρ w1 hb
      exact ⟨rfl, by simpa using box_heap (k := 0) hb rfl⟩
/-- function 35 -/
theorem run_spec (w : World) : Gives Try.prog 35 #[] w fun r w' => ∃ b, r = .tuple #[.func (.func 36) #[] #[.pointer (some ⟨b, 0, none⟩)], .func (.func 37) #[] #[.pointer (some ⟨b, 0, none⟩)]] ∧ w'.heap[b]? = some (.cells #[.int .u64 beginD] 51 (0, 0)) ∧ w.heap.size ≤ b := by
  refine gives_of [] 7 [.tmp 0, .tmp 1] Try.func35 rfl rfl rfl (by simp) rfl rfl ?_
  refine W.pure (ds := []) rfl fun K1 hK1 => ?_
  simp only [sx, ty, Bool.false_eq_true, Int.reduceEq, Int.reduceLT, Nat.reduceAdd, Nat.reduceSub, Nat.reduceMul, Nat.reduceLT, Nat.reduceLeDiff, Nat.reduceEqDiff, List.reduceReplicate, reduceIte, beq_self_eq_true, bne_self_eq_false, Int.reduceBEq, Int.reduceBNe, Bool.or_false, Bool.false_or, Bool.not_false, Bool.not_true, mbits, Int.reduceToNat, Int.reducePow, Int.toNat_natCast]; with_reducible refine hK1 _ ?_; clear hK1
  refine W.pure (ds := []) rfl fun K2 hK2 => ?_
  simp only [sx, ty, Bool.false_eq_true, Int.reduceEq, Int.reduceLT, Nat.reduceAdd, Nat.reduceSub, Nat.reduceMul, Nat.reduceLT, Nat.reduceLeDiff, Nat.reduceEqDiff, List.reduceReplicate, reduceIte, beq_self_eq_true, bne_self_eq_false, Int.reduceBEq, Int.reduceBNe, Bool.or_false, Bool.false_or, Bool.not_false, Bool.not_true, mbits, Int.reduceToNat, Int.reducePow, Int.toNat_natCast]; with_reducible refine hK2 _ ?_; clear hK2
  refine W.pure (ds := []) rfl fun K3 hK3 => ?_
  simp only [sx, ty, Bool.false_eq_true, Int.reduceEq, Int.reduceLT, Nat.reduceAdd, Nat.reduceSub, Nat.reduceMul, Nat.reduceLT, Nat.reduceLeDiff, Nat.reduceEqDiff, List.reduceReplicate, reduceIte, beq_self_eq_true, bne_self_eq_false, Int.reduceBEq, Int.reduceBNe, Bool.or_false, Bool.false_or, Bool.not_false, Bool.not_true, mbits, Int.reduceToNat, Int.reducePow, Int.toNat_natCast]; with_reducible refine hK3 _ ?_; clear hK3
  refine W.pure (ds := []) rfl fun K4 hK4 => ?_
  simp only [sx, ty, Bool.false_eq_true, Int.reduceEq, Int.reduceLT, Nat.reduceAdd, Nat.reduceSub, Nat.reduceMul, Nat.reduceLT, Nat.reduceLeDiff, Nat.reduceEqDiff, List.reduceReplicate, reduceIte, beq_self_eq_true, bne_self_eq_false, Int.reduceBEq, Int.reduceBNe, Bool.or_false, Bool.false_or, Bool.not_false, Bool.not_true, mbits, Int.reduceToNat, Int.reducePow, Int.toNat_natCast]; with_reducible refine hK4 _ ?_; clear hK4
  refine W.ret ⟨by simp, _, rfl, fun ρ w1 hb => ?_⟩
  exact ⟨ρ 0, rfl, hb.own 0 _ rfl ρ (Agree.refl _ _), own_new hb (by simp) (k := 0) rfl rfl⟩
/-- function 34 -/
theorem sum_spec {S : Nat → Prop} {w : World} {v : Value} {b : List Int} (hl : rBytes.rd S w [v] b) : Gives Try.prog 34 #[v] w fun r _ => r = .int .u64 (digF beginD b) := by
  obtain ⟨p, c, rfl, hc1, hc2⟩ := Rp.slice_val hl
  have hl : (Rp.slice rByte).rd (fun x => x < w.heap.size) w _ b := Rp.mono _ hl fun x _ h => h
  refine gives_of [.val (.slice p b.length c)] 14 [.tmp 2] Try.func34 rfl rfl rfl (by simp) rfl rfl ?_
  refine W.pure (ds := []) rfl fun K1 hK1 => ?_
  simp only [sx, ty, Bool.false_eq_true, Int.reduceEq, Int.reduceLT, Nat.reduceAdd, Nat.reduceSub, Nat.reduceMul, Nat.reduceLT, Nat.reduceLeDiff, Nat.reduceEqDiff, List.reduceReplicate, reduceIte, beq_self_eq_true, bne_self_eq_false, Int.reduceBEq, Int.reduceBNe, Bool.or_false, Bool.false_or, Bool.not_false, Bool.not_true, mbits, Int.reduceToNat, Int.reducePow, Int.toNat_natCast]; with_reducible refine hK1 _ ?_; clear hK1
  refine W.seqK fun K2 hK2 => W.region ?_
  refine WO.callN (fun x : Nat => .tuple #[.func (.func 36) #[] #[.pointer (some ⟨x, 0, none⟩)], .func (.func 37) #[] #[.pointer (some ⟨x, 0, none⟩)]]) (fun x => [boxO 51 x [.int .u64 beginD]]) (fun x => w.heap.size ≤ x) (ds := []) rfl rfl rfl rfl co35 (by intro x o ho; simp at ho; subst ho; rfl) (fun ρ w1 hb => (run_spec w1).mono fun v w2 hbl ⟨x, hv, h1, h2⟩ => ⟨x, hv, Nat.le_trans (hb.at (S := fun _ => True) (s := w) (by simp)).size h2, fun j o hj => ?_, fun a b' oa ob y ha hb' h3 h4 => ?_⟩) fun x hx => ?_
  · cases j with
    | zero => simp only [List.getElem?_cons_zero, Option.some.injEq] at hj; subst hj; exact ⟨boxO_holds (by simp [maxLen]) h1, fun b h => by simp only [boxO_num, Option.some.injEq] at h; omega⟩
    | succ j => simp at hj
  · have g1 := (List.getElem?_eq_some_iff.1 ha).1
    have g2 := (List.getElem?_eq_some_iff.1 hb').1
    simp at g1 g2; omega
  refine WO.go 5 (ds := []) rfl ?_
  simp only [sx, ty, Bool.false_eq_true, Int.reduceEq, Int.reduceLT, Nat.reduceAdd, Nat.reduceSub, Nat.reduceMul, Nat.reduceLT, Nat.reduceLeDiff, Nat.reduceEqDiff, List.reduceReplicate, reduceIte, beq_self_eq_true, bne_self_eq_false, Int.reduceBEq, Int.reduceBNe, Bool.or_false, Bool.false_or, Bool.not_false, Bool.not_true, mbits, Int.reduceToNat, Int.reducePow, Int.toNat_natCast]
  with_reducible refine WO.nil ?_
  refine hK2 _ ?_; clear hK2
  refine W.seqK fun K3 hK3 => W.region ?_
  refine WO.go 2 (ds := []) rfl ?_
  simp only [sx, ty, Bool.false_eq_true, Int.reduceEq, Int.reduceLT, Nat.reduceAdd, Nat.reduceSub, Nat.reduceMul, Nat.reduceLT, Nat.reduceLeDiff, Nat.reduceEqDiff, List.reduceReplicate, reduceIte, beq_self_eq_true, bne_self_eq_false, Int.reduceBEq, Int.reduceBNe, Bool.or_false, Bool.false_or, Bool.not_false, Bool.not_true, mbits, Int.reduceToNat, Int.reducePow, Int.toNat_natCast]
  refine WO.callBoxO (k := 0) [.int .u64 (digF beginD b)] (.tuple #[]) (ds := []) rfl rfl rfl rfl (by kernel_rfl) rfl (by simp [maxLen]) (fun ρ w1 hb h9 => add_spec (Rp.keep hl ((hb.at (S := fun _ => True) (s := w) (by simp)).mono fun _ _ _ => trivial)) (fun y h1 h2 => by omega) h9) ?_
  simp only [setOwn]
  simp only [sx, ty, Bool.false_eq_true, Int.reduceEq, Int.reduceLT, Nat.reduceAdd, Nat.reduceSub, Nat.reduceMul, Nat.reduceLT, Nat.reduceLeDiff, Nat.reduceEqDiff, List.reduceReplicate, reduceIte, beq_self_eq_true, bne_self_eq_false, Int.reduceBEq, Int.reduceBNe, Bool.or_false, Bool.false_or, Bool.not_false, Bool.not_true, mbits, Int.reduceToNat, Int.reducePow, Int.toNat_natCast]
  with_reducible refine WO.nil ?_
  refine hK3 _ ?_; clear hK3
  refine W.seqK fun K4 hK4 => W.region ?_
  refine WO.go 1 (ds := []) rfl ?_
  simp only [sx, ty, Bool.false_eq_true, Int.reduceEq, Int.reduceLT, Nat.reduceAdd, Nat.reduceSub, Nat.reduceMul, Nat.reduceLT, Nat.reduceLeDiff, Nat.reduceEqDiff, List.reduceReplicate, reduceIte, beq_self_eq_true, bne_self_eq_false, Int.reduceBEq, Int.reduceBNe, Bool.or_false, Bool.false_or, Bool.not_false, Bool.not_true, mbits, Int.reduceToNat, Int.reducePow, Int.toNat_natCast]
  refine WO.call (.int .u64 (digF beginD b)) (ds := []) rfl rfl rfl rfl (by kernel_rfl) (fun ρ w1 hb => tell_spec (box_heap (k := 0) hb rfl)) ?_
  refine WO.go 1 (ds := []) rfl ?_
  simp only [sx, ty, Bool.false_eq_true, Int.reduceEq, Int.reduceLT, Nat.reduceAdd, Nat.reduceSub, Nat.reduceMul, Nat.reduceLT, Nat.reduceLeDiff, Nat.reduceEqDiff, List.reduceReplicate, reduceIte, beq_self_eq_true, bne_self_eq_false, Int.reduceBEq, Int.reduceBNe, Bool.or_false, Bool.false_or, Bool.not_false, Bool.not_true, mbits, Int.reduceToNat, Int.reducePow, Int.toNat_natCast]
  with_reducible refine WO.nil ?_
  refine hK4 _ ?_; clear hK4
  refine W.ret ⟨by simp, _, rfl, fun ρ w1 hb => ?_⟩
  simp only [den]
end Go.Proofs.Ytnbfdncmlbegmaa
