/-
  Codec: Put of both: walks.
-/
import Derived.Test.YtnbfdncmlbegmaaC1
set_option linter.unusedVariables false
set_option linter.unusedSimpArgs false
set_option maxHeartbeats 1000000
namespace Go.Proofs.Ytnbfdncmlbegmaa
open Go Go.SX Go.RowKit

/-- a block that came in, turned -/
def TurnO (w w' : World) (o1 o : SX.Own) : Prop := o.holds (fun _ => 0) 0 w' ∧ ∀ b, o.num (fun _ => 0) 0 = some b → o1.num (fun _ => 0) 0 = some b ∨ w.heap.size ≤ b
theorem turn_own {ρ : Nat → Nat} {σ : St} {w w0 : World} {k : Nat} {o o1 : SX.Own} (hb : Base ρ σ w) (hm : ((fun b => ¬ o1.num (fun _ => 0) 0 = some b), w0) ∈ σ.snaps) (hk : nth σ.own k = some o) (hf : freeO o = true) : TurnO w0 w o1 o := by
  rw [nth_eq] at hk
  refine ⟨freeO_holds hf (hb.own k o hk ρ (Agree.refl _ _)), fun b hn => ?_⟩
  by_cases h : o1.num (fun _ => 0) 0 = some b
  · exact .inl h
  · exact .inr ((hb.keep _ hm).2 k o b hk (by rw [freeO_num hf ρ (fun _ => 0) k 0]; exact hn) h)
/-- function 23 -/
theorem put_spec {w : World} {p : Option Addr} {c : Nat} {xs : List Int} {n : Int} (hown : (OB xs (p, c)).holds (fun _ => 0) 0 w) (hn : isI n) (hlen : xs.length ≤ 1000000) : GivesB Try.prog 23 #[.slice p xs.length c, .int .i64 n] w (fun b => (OB xs (p, c)).num (fun _ => 0) 0 = some b) fun r w' =>
    ∃ x : Option Addr × Nat, r = .slice x.1 (xs ++ oneF n).length x.2 ∧ TurnO w w' (OB xs (p, c)) (OB (xs ++ oneF n) x) := by
  refine GivesP.toB ?_
  refine givesP_of (OB xs (p, c)) [.val (.slice p xs.length c), .val (.int .i64 n)] 23 [.tmp 4] Try.func23 rfl rfl rfl (by simp) rfl rfl rfl hown ?_
  refine W.pure (ds := []) rfl fun K1 hK1 => ?_
  simp only [sx, ty, Bool.false_eq_true, Int.reduceEq, Int.reduceLT, Nat.reduceAdd, Nat.reduceSub, Nat.reduceMul, Nat.reduceLT, Nat.reduceLeDiff, Nat.reduceEqDiff, List.reduceReplicate, reduceIte, beq_self_eq_true, bne_self_eq_false, Int.reduceBEq, Int.reduceBNe, Bool.or_false, Bool.false_or, Bool.not_false, Bool.not_true, mbits, Int.reduceToNat, Int.reducePow, Int.toNat_natCast]; with_reducible refine hK1 _ ?_; clear hK1
  refine W.seqK fun K2 hK2 => W.region ?_
  refine WO.go 1 (ds := []) rfl ?_
  simp only [sx, ty, Bool.false_eq_true, Int.reduceEq, Int.reduceLT, Nat.reduceAdd, Nat.reduceSub, Nat.reduceMul, Nat.reduceLT, Nat.reduceLeDiff, Nat.reduceEqDiff, List.reduceReplicate, reduceIte, beq_self_eq_true, bne_self_eq_false, Int.reduceBEq, Int.reduceBNe, Bool.or_false, Bool.false_or, Bool.not_false, Bool.not_true, mbits, Int.reduceToNat, Int.reducePow, Int.toNat_natCast]
  refine WO.call (.int .u64 (zig n)) (ds := []) rfl rfl rfl rfl co33 (fun ρ w1 hb => number_spec w1 hn) ?_
  refine WO.go 1 (ds := []) rfl ?_
  simp only [sx, ty, Bool.false_eq_true, Int.reduceEq, Int.reduceLT, Nat.reduceAdd, Nat.reduceSub, Nat.reduceMul, Nat.reduceLT, Nat.reduceLeDiff, Nat.reduceEqDiff, List.reduceReplicate, reduceIte, beq_self_eq_true, bne_self_eq_false, Int.reduceBEq, Int.reduceBNe, Bool.or_false, Bool.false_or, Bool.not_false, Bool.not_true, mbits, Int.reduceToNat, Int.reducePow, Int.toNat_natCast]
  with_reducible refine WO.nil ?_
  refine hK2 _ ?_; clear hK2
  refine W.seqK fun K3 hK3 => ?_
  refine W.block ?_
  refine W.loopO (X := Nat × Int × List Int × Option Addr × Nat) [] (fun x => [(0, .val (.slice x.2.2.2.1 (xs ++ x.2.2.1).length x.2.2.2.2)), (5, .val (.int .u64 x.2.1))]) (fun x => [.slice 5 1 (.slice x.2.2.2.1 (xs ++ x.2.2.1).length x.2.2.2.2) (xs ++ x.2.2.1).length ((xs ++ x.2.2.1).map (.int .u8))]) (fun x => [((fun b => ¬ (OB xs (p, c)).num (fun _ => 0) 0 = some b), w)]) (fun x => LebI n x.1 x.2.1 x.2.2.1) (fun x => x.1) (9, zig n, [], p, c) ?_ ?_ ?_
  · exact ⟨rfl, by simp [getE, bnd, keepE], ⟨[], by simp [OB]⟩, by simp [Own.bnd, bndL, bnd, boxO], by simp⟩
  · skip
    exact LebI.start hn
  · rintro ⟨f, u, l, p3, c3⟩ hI
    simp only at hI
    have hu0 := hI.2.1
    have hu1 := hI.small
    have hl9 := hI.2.2.2
    simp only [sx, ty, Bool.false_eq_true, Int.reduceEq, Int.reduceLT, Nat.reduceAdd, Nat.reduceSub, Nat.reduceMul, Nat.reduceLT, Nat.reduceLeDiff, Nat.reduceEqDiff, List.reduceReplicate, reduceIte, sxk, beq_self_eq_true, bne_self_eq_false, Int.reduceBEq, Int.reduceBNe, Bool.or_false, Bool.false_or, Bool.not_false, Bool.not_true, mbits, Int.reduceToNat, Int.reducePow, Int.toNat_natCast]
    refine W.seqK fun K4 hK4 => ?_
    refine W.pure (ds := []) rfl fun K5 hK5 => ?_
    simp only [sx, ty, Bool.false_eq_true, Int.reduceEq, Int.reduceLT, Nat.reduceAdd, Nat.reduceSub, Nat.reduceMul, Nat.reduceLT, Nat.reduceLeDiff, Nat.reduceEqDiff, List.reduceReplicate, reduceIte, beq_self_eq_true, bne_self_eq_false, Int.reduceBEq, Int.reduceBNe, Bool.or_false, Bool.false_or, Bool.not_false, Bool.not_true, mbits, Int.reduceToNat, Int.reducePow, Int.toNat_natCast]; with_reducible refine hK5 _ ?_; clear hK5
    refine W.cond rfl rfl (fun hc => ?_) (fun hc => ?_)
    · skip
      have hu : ¬ u < 128 := by simp at hc; omega
      obtain ⟨g, rfl, hI2⟩ := hI.more hu
      have hb1 : IntKind.u8.wrap (BitVec.ofInt IntKind.u8.bits (IntKind.u8.wrap u) ||| BitVec.ofInt IntKind.u8.bits 128).toNat = u % 128 + 128 := by
        have h9 := or128 (v := IntKind.u8.wrap u) (by rw [u8_wrap]; unfold isB; omega)
        refine Eq.trans h9 ?_
        rw [u8_wrap]; omega
      have hstep : u.fdiv 128 = u / 128 := fdiv_nn (by decide)
      have hln : (xs ++ l).length = xs.length + l.length := List.length_append
      refine W.skip (hK4 _ ?_)
      refine W.seqK fun K6 hK6 => ?_
      refine W.block ?_
      refine W.region ?_
      refine WO.go 5 (ds := []) rfl ?_
      simp only [sx, ty, Bool.false_eq_true, Int.reduceEq, Int.reduceLT, Nat.reduceAdd, Nat.reduceSub, Nat.reduceMul, Nat.reduceLT, Nat.reduceLeDiff, Nat.reduceEqDiff, List.reduceReplicate, reduceIte, beq_self_eq_true, bne_self_eq_false, Int.reduceBEq, Int.reduceBNe, Bool.or_false, Bool.false_or, Bool.not_false, Bool.not_true, mbits, Int.reduceToNat, Int.reducePow, Int.toNat_natCast, hb1]
      refine WO.append (k := 0) (m := 1) [.int .u8 (u % 128 + 128)] (ds := []) rfl rfl rfl rfl rfl rfl rfl ek23 (news_own (k2 := 1) rfl fun _ => rfl) rfl (by simp [Value.oneCell']) (by rw [maxLen_eq]; omega) (by omega) fun p6 c6 => ?_
      refine WO.go 1 (ds := []) rfl ?_
      simp only [sx, ty, Bool.false_eq_true, Int.reduceEq, Int.reduceLT, Nat.reduceAdd, Nat.reduceSub, Nat.reduceMul, Nat.reduceLT, Nat.reduceLeDiff, Nat.reduceEqDiff, List.reduceReplicate, reduceIte, beq_self_eq_true, bne_self_eq_false, Int.reduceBEq, Int.reduceBNe, Bool.or_false, Bool.false_or, Bool.not_false, Bool.not_true, mbits, Int.reduceToNat, Int.reducePow, Int.toNat_natCast, hb1]
      with_reducible refine WO.nil ?_
      refine hK6 _ ?_
      refine W.region ?_
      refine WO.go 3 (ds := []) rfl ?_
      simp only [sx, ty, Bool.false_eq_true, Int.reduceEq, Int.reduceLT, Nat.reduceAdd, Nat.reduceSub, Nat.reduceMul, Nat.reduceLT, Nat.reduceLeDiff, Nat.reduceEqDiff, List.reduceReplicate, reduceIte, beq_self_eq_true, bne_self_eq_false, Int.reduceBEq, Int.reduceBNe, Bool.or_false, Bool.false_or, Bool.not_false, Bool.not_true, mbits, Int.reduceToNat, Int.reducePow, Int.toNat_natCast, hb1]
      with_reducible refine WO.nil ?_
      refine ⟨(g, u / 128, l ++ [u % 128 + 128], p6, c6), hI2, by simp only; omega, rfl, by simp [getE, bnd, keepE, hstep, Nat.add_assoc], ⟨[.cells 5 [.val (.int .u8 (u % 128 + 128))]], by simp [Nat.add_assoc]⟩, by simp [Own.bnd, bndL, bnd], by simp⟩
    · skip
      have hu : u < 128 := by simp at hc; omega
      have hfin : oneF n = l ++ [u] := by rw [hI.1, leb_last hu]
      have hb2 : IntKind.u8.wrap u = u := by rw [u8_wrap]; omega
      have hln : (xs ++ l).length = xs.length + l.length := List.length_append
      refine W.exit (hK3 _ ?_)
      refine W.seqK fun K7 hK7 => W.region ?_
      refine WO.go 4 (ds := []) rfl ?_
      simp only [sx, ty, Bool.false_eq_true, Int.reduceEq, Int.reduceLT, Nat.reduceAdd, Nat.reduceSub, Nat.reduceMul, Nat.reduceLT, Nat.reduceLeDiff, Nat.reduceEqDiff, List.reduceReplicate, reduceIte, beq_self_eq_true, bne_self_eq_false, Int.reduceBEq, Int.reduceBNe, Bool.or_false, Bool.false_or, Bool.not_false, Bool.not_true, mbits, Int.reduceToNat, Int.reducePow, Int.toNat_natCast, hb2]
      refine WO.append (k := 0) (m := 1) [.int .u8 u] (ds := []) rfl rfl rfl rfl rfl rfl rfl ek23 (news_own (k2 := 1) rfl fun _ => rfl) rfl (by simp [Value.oneCell']) (by rw [maxLen_eq]; omega) (by omega) fun p6 c6 => ?_
      refine WO.go 1 (ds := []) rfl ?_
      simp only [sx, ty, Bool.false_eq_true, Int.reduceEq, Int.reduceLT, Nat.reduceAdd, Nat.reduceSub, Nat.reduceMul, Nat.reduceLT, Nat.reduceLeDiff, Nat.reduceEqDiff, List.reduceReplicate, reduceIte, beq_self_eq_true, bne_self_eq_false, Int.reduceBEq, Int.reduceBNe, Bool.or_false, Bool.false_or, Bool.not_false, Bool.not_true, mbits, Int.reduceToNat, Int.reducePow, Int.toNat_natCast, hb2]
      with_reducible refine WO.nil ?_
      refine hK7 _ ?_; clear hK7
      refine W.ret ?_
      refine ⟨by simp, ?_⟩
      simp only [sx, ty, Bool.false_eq_true, Int.reduceEq, Int.reduceLT, Nat.reduceAdd, Nat.reduceSub, Nat.reduceMul, Nat.reduceLT, Nat.reduceLeDiff, Nat.reduceEqDiff, List.reduceReplicate, reduceIte, sxr, beq_self_eq_true, bne_self_eq_false, Int.reduceBEq, Int.reduceBNe, Bool.or_false, Bool.false_or, Bool.not_false, Bool.not_true, mbits, Int.reduceToNat, Int.reducePow, Int.toNat_natCast, hb2]
      intro ρ w1 hb
      rw [hfin]
      refine ⟨(p6, c6), by simp [den, Nat.add_assoc], ?_⟩
      have h9 := turn_own (w0 := w) (o1 := OB xs (p, c)) hb (by simp) (k := 0) rfl rfl
      have h8 : OB (xs ++ (l ++ [u])) (p6, c6) = .slice 5 1 (.slice p6 ((xs ++ l).length + 1) c6) ((xs ++ l).length + 1) ((xs ++ l).map (.int .u8) ++ [.int .u8 u]) := by simp [OB, Nat.add_assoc]
      rw [h8]; exact h9
end Go.Proofs.Ytnbfdncmlbegmaa
