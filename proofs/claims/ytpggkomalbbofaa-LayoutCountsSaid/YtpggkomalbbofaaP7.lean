/-
  Layout: where a page can end, one end after the other: the walk of an iterator.
-/
import Derived.Test.YtpggkomalbbofaaP6
set_option linter.unusedVariables false
set_option linter.unusedSimpArgs false
set_option maxHeartbeats 1000000
namespace Go.Proofs.Ytpggkomalbbofaa
open Go Go.SX Go.RowKit

theorem one_own {o o' : SX.Own} {k : Nat} (h : [o'][k]? = some o) : k = 0 ∧ o = o' := by
  cases k with
  | zero => exact ⟨rfl, (Option.some.inj h).symm⟩
  | succ k => simp at h
/-- function 34 -/
theorem ends1_iter {S : Nat → Prop} {w : World} {b1 b2 b3 : Nat} {p0 : Option Addr} {c0 from0 : Nat} {ws : List Int} {width : Int} {B : Nat → Prop} (h1 : At w ⟨b1, 0, none⟩ [.slice p0 ws.length c0]) (hb1l : b1 < w.heap.size) (h2 : At w ⟨b2, 0, none⟩ [.int .i64 (from0 : Int)]) (hb2l : b2 < w.heap.size)
    (h3 : w.heap[b3]? = some (.cells #[.int .i64 width] 3 (0, 0))) (hl : rInts.rd S w [.slice p0 ws.length c0] ws) (hS : ∀ b, S b → b < w.heap.size → ¬ B b ∧ b ≠ b3) (hb1 : ¬ B b1 ∧ b1 ≠ b3) (hb2' : ¬ B b2 ∧ b2 ≠ b3) (hb3 : ¬ B b3)
    (hv : ws.all (within 1 100000) = true) (hn : ws.length ≤ 4000) (hw : 1 ≤ width ∧ width ≤ 100000) (hf : from0 ≤ ws.length) :
    Iter Try.prog 34 #[.pointer (some ⟨b1, 0, none⟩), .pointer (some ⟨b2, 0, none⟩), .pointer (some ⟨b3, 0, none⟩)] (fitL width (ws.drop from0)) (fun k => .int .i64 ((from0 + k + 1 : Nat) : Int)) (fun b => b ∈ [b3]) B w := by
  intro ll J hst hY hJ0
  obtain ⟨frm, hfrm⟩ : ∃ frm : Int, frm = from0 := ⟨_, rfl⟩
  obtain ⟨sub, hsub⟩ : ∃ sub, sub = ws.drop from0 := ⟨_, rfl⟩
  have hsl : sub.length = ws.length - from0 := by rw [hsub]; simp
  have hsv : sub.all (within 1 100000) = true := by rw [hsub]; exact all_drop hv from0
  have hlS : (Rp.slice rInt).rd (fun b => ¬ B b ∧ ¬ b ∈ [b3]) w [.slice p0 ws.length c0] ws := Rp.mono _ hl fun b hb hlt => by simpa using hS b hb hlt
  obtain ⟨_, _, he1, hc1, hc2⟩ := Rp.slice_val hl
  obtain ⟨rfl, _, rfl⟩ := (Value.slice.injEq _ _ _ _ _ _).mp he1
  have hl2 : (Rp.slice rInt).rd (fun b => ¬ B b ∧ ¬ b ∈ [b3]) w [slcV rInt.sz p0 c0 from0 ws.length] sub := by
    have h9 := Rp.slc (l := from0) (h := ws.length) hlS (by omega) (by omega)
    rwa [List.take_of_length_le (by simp), ← hsub] at h9
  obtain ⟨p2, c2, he2, hc3, hc4⟩ := Rp.slice_val hl2
  rw [he2] at hl2
  rw [← hfrm] at h2
  rw [← hsub] at hY ⊢
  have hb1' : (fun b => ¬ B b ∧ ¬ b ∈ [b3]) b1 := by simpa using hb1
  have hb2 : (fun b => ¬ B b ∧ ¬ b ∈ [b3]) b2 := by simpa using hb2'
  refine iter_of (R := J (fitL width sub)) [(b3, 3, [.int .i64 width])] [.val (.func (.yield ll) #[] #[]), .val (.pointer (some ⟨b1, 0, none⟩)), .val (.pointer (some ⟨b2, 0, none⟩)), .val (.pointer (some ⟨b3, 0, none⟩))] 31 B Try.func34 rfl rfl rfl (by simp) rfl rfl (all_one ⟨by simp [maxLen], h3⟩) (by simp) ?_
  show W Try.prog _ _ ⟨31, initE 0 _, [boxO 3 b3 [.int .i64 width]], [((fun b => ¬ b ∈ [b3]), w), ((fun b => ¬ B b ∧ ¬ b ∈ [b3]), w)], []⟩
  refine W.seqK fun K1 hK1 => W.region ?_
  refine WO.load [.slice p0 ws.length c0] false (ds := []) rfl rfl rfl rfl rfl agg22 sz22 (.inr rfl) (fun ρ w1 hb => h1.frame ((hb.at (S := fun b => ¬ B b ∧ ¬ b ∈ [b3]) (s := w) (by simp [St.put, initE])).block _ hb1' hb1l)) ?_
  simp only [sx, ty, Bool.false_eq_true, Int.reduceEq, Int.reduceLT, Nat.reduceAdd, Nat.reduceSub, Nat.reduceMul, Nat.reduceLT, Nat.reduceLeDiff, Nat.reduceEqDiff, List.reduceReplicate, reduceIte, beq_self_eq_true, bne_self_eq_false, Int.reduceBEq, Int.reduceBNe, Bool.or_false, Bool.false_or, Bool.not_false, Bool.not_true]
  refine WO.load [.int .i64 frm] false (ds := []) rfl rfl rfl rfl rfl agg3 sz3 (.inr rfl) (fun ρ w1 hb => h2.frame ((hb.at (S := fun b => ¬ B b ∧ ¬ b ∈ [b3]) (s := w) (by simp [St.put, initE])).block _ hb2 hb2l)) ?_
  simp only [sx, ty, Bool.false_eq_true, Int.reduceEq, Int.reduceLT, Nat.reduceAdd, Nat.reduceSub, Nat.reduceMul, Nat.reduceLT, Nat.reduceLeDiff, Nat.reduceEqDiff, List.reduceReplicate, reduceIte, beq_self_eq_true, bne_self_eq_false, Int.reduceBEq, Int.reduceBNe, Bool.or_false, Bool.false_or, Bool.not_false, Bool.not_true]
  refine WO.slc (ds := []) rfl rfl rfl rfl rfl el22 rfl rfl (by simp [loS]; omega) (by simp [loS, hiS]; omega) (by simp [hiS]; omega) ?_
  rw [show slcV 1 p0 c0 (loS (some (IntKind.i64, frm))).toNat (hiS ws.length none).toNat = .slice p2 sub.length c2 from by rw [← he2]; simp [loS, hiS, hfrm]; rfl]
  refine WO.go 2 (ds := []) rfl ?_
  simp only [sx, ty, Bool.false_eq_true, Int.reduceEq, Int.reduceLT, Nat.reduceAdd, Nat.reduceSub, Nat.reduceMul, Nat.reduceLT, Nat.reduceLeDiff, Nat.reduceEqDiff, List.reduceReplicate, reduceIte, beq_self_eq_true, bne_self_eq_false, Int.reduceBEq, Int.reduceBNe, Bool.or_false, Bool.false_or, Bool.not_false, Bool.not_true]
  with_reducible refine WO.nil ?_
  refine hK1 _ ?_; clear hK1
  refine W.block ?_
  refine W.loopO (X := Nat × World) [0, 2, 3, 9, 10] (fun x9 => [(11, .val (.int .i64 x9.1))]) (fun x9 => [boxO 3 b3 [.int .i64 (width - preS sub x9.1)]]) (fun x9 => [((fun b => ¬ b ∈ [b3]), x9.2), ((fun b => ¬ B b ∧ ¬ b ∈ [b3]), w)]) (fun x9 => x9.1 ≤ fitL width sub ∧ J x9.1 x9.2) (fun x9 => sub.length - x9.1) (0, w) ?_ ?_ ?_
  · exact ⟨rfl, by simp [getE, bnd, keepE], ⟨[], by simp [preS]⟩, by simp [Own.bnd, bndL, bnd, boxO], by simp⟩
  · skip
    exact ⟨Nat.zero_le _, hJ0⟩
  · rintro ⟨i, sw⟩ ⟨hi, hJi⟩
    simp only at hi hJi
    have hfl := fitL_le width sub
    simp only [sx, ty, Bool.false_eq_true, Int.reduceEq, Int.reduceLT, Nat.reduceAdd, Nat.reduceSub, Nat.reduceMul, Nat.reduceLT, Nat.reduceLeDiff, Nat.reduceEqDiff, List.reduceReplicate, reduceIte, sxk, beq_self_eq_true, bne_self_eq_false, Int.reduceBEq, Int.reduceBNe, Bool.or_false, Bool.false_or, Bool.not_false, Bool.not_true]
    refine W.pure (ds := []) rfl fun K2 hK2 => ?_
    simp only [sx, ty, Bool.false_eq_true, Int.reduceEq, Int.reduceLT, Nat.reduceAdd, Nat.reduceSub, Nat.reduceMul, Nat.reduceLT, Nat.reduceLeDiff, Nat.reduceEqDiff, List.reduceReplicate, reduceIte, beq_self_eq_true, bne_self_eq_false, Int.reduceBEq, Int.reduceBNe, Bool.or_false, Bool.false_or, Bool.not_false, Bool.not_true]; with_reducible refine hK2 _ ?_; clear hK2
    refine W.seqK fun K3 hK3 => ?_
    refine W.cond rfl rfl (fun hc => ?_) (fun hc => ?_)
    · skip
      have hlt : i < sub.length := by simpa using hc
      have hmm := preS_mono hsv i (Nat.zero_le i) (by omega)
      have hwk := width_at hsv hlt
      have hpg := preS_get hlt
      have hz : preS sub 0 = 0 := rfl
      have hmi : i ≤ 4000 := by omega
      have hsubw : IntKind.i64.wrap (width - preS sub i - sub[i]) = width - preS sub (i + 1) := by rw [hpg, wrap_id (by omega) (by omega)]; omega
      have hwv : IntKind.i64.wrap (IntKind.i64.wrap (frm + (i : Int)) + 1) = ((from0 + i + 1 : Nat) : Int) := by rw [wrap_id (x := frm + (i : Int)) (by omega) (by omega), wrap_id (by omega) (by omega)]; omega
      refine W.skip (hK3 _ ?_)
      refine W.seqK fun K4 hK4 => ?_
      refine W.block ?_
      refine W.seqK fun K5 hK5 => W.region ?_
      refine WO.go 1 (ds := []) rfl ?_
      simp only [sx, ty, Bool.false_eq_true, Int.reduceEq, Int.reduceLT, Nat.reduceAdd, Nat.reduceSub, Nat.reduceMul, Nat.reduceLT, Nat.reduceLeDiff, Nat.reduceEqDiff, List.reduceReplicate, reduceIte, beq_self_eq_true, bne_self_eq_false, Int.reduceBEq, Int.reduceBNe, Bool.or_false, Bool.false_or, Bool.not_false, Bool.not_true]
      refine WO.elem (y := sub[i]) hl2 (by simp [St.put]) (ds := []) rfl rfl rfl (by simp [St.put]) (fun _ => rfl) rfl rfl rfl rfl rfl el22 agg3 sz3 (.inr rfl) (by omega) (getIdx sub hlt) fun p ces hces => ?_
      obtain rfl := rInt_open hces
      clear hces
      refine WO.go 2 (ds := []) rfl ?_
      simp only [sx, ty, Bool.false_eq_true, Int.reduceEq, Int.reduceLT, Nat.reduceAdd, Nat.reduceSub, Nat.reduceMul, Nat.reduceLT, Nat.reduceLeDiff, Nat.reduceEqDiff, List.reduceReplicate, reduceIte, beq_self_eq_true, bne_self_eq_false, Int.reduceBEq, Int.reduceBNe, Bool.or_false, Bool.false_or, Bool.not_false, Bool.not_true]
      with_reducible refine WO.nil ?_
      refine hK5 _ ?_; clear hK5
      refine W.seqK fun K6 hK6 => W.region ?_
      refine WO.loadBox (k := 0) (i := 0) (sz := 1) rfl (ds := []) rfl rfl rfl rfl rfl (by simp [Addr.add_mid]) (by simp) agg3 sz3 (.inr rfl) ?_
      simp only [List.set_cons_zero, List.drop_zero, List.take_succ_cons, List.take_zero, ofCells, Bool.false_eq_true, reduceIte, List.headD_cons]
      refine WO.go 2 (ds := []) rfl ?_
      simp only [sx, ty, Bool.false_eq_true, Int.reduceEq, Int.reduceLT, Nat.reduceAdd, Nat.reduceSub, Nat.reduceMul, Nat.reduceLT, Nat.reduceLeDiff, Nat.reduceEqDiff, List.reduceReplicate, reduceIte, beq_self_eq_true, bne_self_eq_false, Int.reduceBEq, Int.reduceBNe, Bool.or_false, Bool.false_or, Bool.not_false, Bool.not_true]
      refine WO.storeBox (k := 0) (i := 0) rfl (ds := []) rfl rfl rfl rfl rfl (by simp [Addr.add_mid]) (by simp) rfl rfl sz3 ?_
      simp only [hsubw]
      simp only [sx, ty, Bool.false_eq_true, Int.reduceEq, Int.reduceLT, Nat.reduceAdd, Nat.reduceSub, Nat.reduceMul, Nat.reduceLT, Nat.reduceLeDiff, Nat.reduceEqDiff, List.reduceReplicate, reduceIte, beq_self_eq_true, bne_self_eq_false, Int.reduceBEq, Int.reduceBNe, Bool.or_false, Bool.false_or, Bool.not_false, Bool.not_true]
      with_reducible refine WO.nil ?_
      refine hK6 _ ?_; clear hK6
      refine W.seqK fun K7 hK7 => ?_
      refine WI.region ?_
      refine WI.pre 3 ?_
      simp only [List.take_succ_cons, List.take_zero, List.drop_succ_cons, List.drop_zero, List.toList_toArray]
      refine WO.loadBox (k := 0) (i := 0) (sz := 1) rfl (ds := [some 19, some 20, some 21, some 22, some 23, some 24, some 25, some 26, some 27, some 28, some 29]) rfl rfl rfl rfl rfl (by simp [Addr.add_mid]) (by simp) agg3 sz3 (.inr rfl) ?_
      simp only [List.set_cons_zero, List.drop_zero, List.take_succ_cons, List.take_zero, ofCells, Bool.false_eq_true, reduceIte, List.headD_cons]
      simp only [sx, ty, Bool.false_eq_true, Int.reduceEq, Int.reduceLT, Nat.reduceAdd, Nat.reduceSub, Nat.reduceMul, Nat.reduceLT, Nat.reduceLeDiff, Nat.reduceEqDiff, List.reduceReplicate, reduceIte, beq_self_eq_true, bne_self_eq_false, Int.reduceBEq, Int.reduceBNe, Bool.or_false, Bool.false_or, Bool.not_false, Bool.not_true]
      refine WO.go 2 (ds := [some 19, some 20, some 21, some 22, some 23, some 24, some 25, some 26, some 27, some 28, some 29]) rfl ?_
      simp only [sx, ty, Bool.false_eq_true, Int.reduceEq, Int.reduceLT, Nat.reduceAdd, Nat.reduceSub, Nat.reduceMul, Nat.reduceLT, Nat.reduceLeDiff, Nat.reduceEqDiff, List.reduceReplicate, reduceIte, beq_self_eq_true, bne_self_eq_false, Int.reduceBEq, Int.reduceBNe, Bool.or_false, Bool.false_or, Bool.not_false, Bool.not_true]
      with_reducible refine WO.nil ?_
      refine ⟨rfl, ?_⟩
      refine WI.cases 21 _ rfl (fun hg21 => ?_) (fun hg21 => ?_)
      · have hlo : width < preS sub (i + 1) := by simp at hg21; omega
        have h9 : ¬ i < fitL width sub := fun h => by have := (fitL_lt width sub hsv i hlt).1 h; omega
        have hend : i = fitL width sub := by omega
        refine WI.pre 8 ?_
        simp only [List.take_succ_cons, List.take_zero, List.drop_succ_cons, List.drop_zero, List.toList_toArray]
        refine WO.go 8 (ds := [some 19, some 20, some 21, some 22, some 23, some 24, some 25, some 26, some 27, some 28, some 29]) rfl ?_
        simp only [sx, ty, Bool.false_eq_true, Int.reduceEq, Int.reduceLT, Nat.reduceAdd, Nat.reduceSub, Nat.reduceMul, Nat.reduceLT, Nat.reduceLeDiff, Nat.reduceEqDiff, List.reduceReplicate, reduceIte, Bool.false_eq_true, beq_self_eq_true, bne_self_eq_false, Int.reduceBEq, Int.reduceBNe, Bool.or_false, Bool.false_or, Bool.not_false, Bool.not_true]
        with_reducible refine WO.nil ?_
        refine ⟨rfl, WI.nil ?_⟩
        refine hK7 _ ?_; clear hK7
        refine W.cond rfl rfl (fun hc => ?_) (fun hc => ?_)
        rotate_left
        · skip
          simp at hc
        · skip
          refine W.ret ?_
          refine ⟨by simp, rfl, ?_⟩
          try simp only [sx, ty, Bool.false_eq_true, Int.reduceEq, Int.reduceLT, Nat.reduceAdd, Nat.reduceSub, Nat.reduceMul, Nat.reduceLT, Nat.reduceLeDiff, Nat.reduceEqDiff, List.reduceReplicate, reduceIte, sxr, beq_self_eq_true, bne_self_eq_false, Int.reduceBEq, Int.reduceBNe, Bool.or_false, Bool.false_or, Bool.not_false, Bool.not_true]
          intro ρ w1 hb
          have hJe : J (fitL width sub) sw := by rw [← hend]; exact hJi
          exact hst _ _ _ hJe (hb.at (S := fun b => ¬ b ∈ [b3]) (by simp))
      · have hhi : preS sub (i + 1) ≤ width := by simp at hg21; omega
        have hfit : i < fitL width sub := (fitL_lt width sub hsv i hlt).2 hhi
        refine WI.pre 5 ?_
        simp only [List.take_succ_cons, List.take_zero, List.drop_succ_cons, List.drop_zero, List.toList_toArray]
        refine WO.go 1 (ds := [some 19, some 20, some 21, some 22, some 23, some 24, some 25, some 26, some 27, some 28, some 29]) rfl ?_
        simp only [sx, ty, Bool.false_eq_true, Int.reduceEq, Int.reduceLT, Nat.reduceAdd, Nat.reduceSub, Nat.reduceMul, Nat.reduceLT, Nat.reduceLeDiff, Nat.reduceEqDiff, List.reduceReplicate, reduceIte, beq_self_eq_true, bne_self_eq_false, Int.reduceBEq, Int.reduceBNe, Bool.or_false, Bool.false_or, Bool.not_false, Bool.not_true]
        refine WO.load [.int .i64 frm] false (ds := [some 19, some 20, some 21, some 22, some 23, some 24, some 25, some 26, some 27, some 28, some 29]) rfl rfl rfl rfl rfl agg3 sz3 (.inr rfl) (fun ρ w1 hb => h2.frame ((hb.at (S := fun b => ¬ B b ∧ ¬ b ∈ [b3]) (s := w) (by simp [St.put])).block _ hb2 hb2l)) ?_
        simp only [sx, ty, Bool.false_eq_true, Int.reduceEq, Int.reduceLT, Nat.reduceAdd, Nat.reduceSub, Nat.reduceMul, Nat.reduceLT, Nat.reduceLeDiff, Nat.reduceEqDiff, List.reduceReplicate, reduceIte, beq_self_eq_true, bne_self_eq_false, Int.reduceBEq, Int.reduceBNe, Bool.or_false, Bool.false_or, Bool.not_false, Bool.not_true]
        refine WO.go 3 (ds := [some 19, some 20, some 21, some 22, some 23, some 24, some 25, some 26, some 27, some 28, some 29]) rfl ?_
        simp only [sx, ty, Bool.false_eq_true, Int.reduceEq, Int.reduceLT, Nat.reduceAdd, Nat.reduceSub, Nat.reduceMul, Nat.reduceLT, Nat.reduceLeDiff, Nat.reduceEqDiff, List.reduceReplicate, reduceIte, hwv, beq_self_eq_true, bne_self_eq_false, Int.reduceBEq, Int.reduceBNe, Bool.or_false, Bool.false_or, Bool.not_false, Bool.not_true]
        with_reducible refine WO.nil ?_
        refine ⟨rfl, ?_⟩
        refine WI.yield (B := B) (J' := J (i + 1)) [((fun b => ¬ B b ∧ ¬ b ∈ [b3]), w)] (fun b => b ∈ [b3]) (ds := [some 19, some 20, some 21, some 22, some 23, some 24, some 25, some 26, some 27, some 28, some 29]) rfl rfl rfl rfl rfl rfl (fun ρ w1 hb => hY i w1 hfit (hst i sw w1 hJi (hb.at (by simp [St.put])))) (fun p hp => ?_) (fun ρ k o b hk hn => ?_) fun s2 hJ2 => ?_
        · rw [List.mem_singleton] at hp; subst hp; exact ⟨by simp [St.put], fun b h _ => h.1⟩
        · have hk9 : k = 0 ∧ o = boxO 3 b3 [.int .i64 (width - preS sub (i + 1))] := one_own hk
          obtain ⟨rfl, rfl⟩ := hk9
          simp only [boxO_num, Option.some.injEq] at hn; subst hn; exact ⟨hb3, by simp⟩
        simp only [sx, ty, Bool.false_eq_true, Int.reduceEq, Int.reduceLT, Nat.reduceAdd, Nat.reduceSub, Nat.reduceMul, Nat.reduceLT, Nat.reduceLeDiff, Nat.reduceEqDiff, List.reduceReplicate, reduceIte, beq_self_eq_true, bne_self_eq_false, Int.reduceBEq, Int.reduceBNe, Bool.or_false, Bool.false_or, Bool.not_false, Bool.not_true]
        refine WI.pre 2 ?_
        simp only [List.take_succ_cons, List.take_zero, List.drop_succ_cons, List.drop_zero, List.toList_toArray]
        refine WO.go 2 (ds := [some 19, some 20, some 21, some 22, some 23, some 24, some 25, some 26, some 27, some 28, some 29]) rfl ?_
        simp only [sx, ty, Bool.false_eq_true, Int.reduceEq, Int.reduceLT, Nat.reduceAdd, Nat.reduceSub, Nat.reduceMul, Nat.reduceLT, Nat.reduceLeDiff, Nat.reduceEqDiff, List.reduceReplicate, reduceIte, Bool.false_eq_true, beq_self_eq_true, bne_self_eq_false, Int.reduceBEq, Int.reduceBNe, Bool.or_false, Bool.false_or, Bool.not_false, Bool.not_true]
        with_reducible refine WO.nil ?_
        refine ⟨rfl, WI.nil ?_⟩
        refine hK7 _ ?_; clear hK7
        refine W.cond rfl rfl (fun hc => ?_) (fun hc => ?_)
        · skip
          simp at hc
        · skip
          refine W.skip (hK4 _ ?_)
          refine W.region ?_
          refine WO.go 2 (ds := []) rfl ?_
          simp only [sx, ty, Bool.false_eq_true, Int.reduceEq, Int.reduceLT, Nat.reduceAdd, Nat.reduceSub, Nat.reduceMul, Nat.reduceLT, Nat.reduceLeDiff, Nat.reduceEqDiff, List.reduceReplicate, reduceIte, beq_self_eq_true, bne_self_eq_false, Int.reduceBEq, Int.reduceBNe, Bool.or_false, Bool.false_or, Bool.not_false, Bool.not_true]
          with_reducible refine WO.nil ?_
          refine ⟨(i + 1, s2), ?_, by first | omega | (simp; omega), rfl, by simp [getE, bnd, keepE, wrap_succ (show i + 1 ≤ 9223372036854775807 by omega)], ⟨_, rfl⟩, by simp [Own.bnd, bndL, bnd, boxO], by simp⟩
          exact ⟨hfit, hJ2⟩
    · skip
      have hJe : J (fitL width sub) sw := by
        have h9 : i = fitL width sub := by simp at hc; omega
        rw [← h9]; exact hJi
      refine W.exit ?_
      refine ⟨by simp, rfl, ?_⟩
      try simp only [sx, ty, Bool.false_eq_true, Int.reduceEq, Int.reduceLT, Nat.reduceAdd, Nat.reduceSub, Nat.reduceMul, Nat.reduceLT, Nat.reduceLeDiff, Nat.reduceEqDiff, List.reduceReplicate, reduceIte, sxr, beq_self_eq_true, bne_self_eq_false, Int.reduceBEq, Int.reduceBNe, Bool.or_false, Bool.false_or, Bool.not_false, Bool.not_true]
      intro ρ w1 hb
      exact hst _ _ _ hJe (hb.at (S := fun b => ¬ b ∈ [b3]) (by simp))
end Go.Proofs.Ytpggkomalbbofaa
