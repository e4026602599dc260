/-
  Codec: frames read (package): walks.
-/
import Derived.Test.YtnbfdncmlbegmaaC13
set_option linter.unusedVariables false
set_option linter.unusedSimpArgs false
set_option maxHeartbeats 1000000
namespace Go.Proofs.Ytnbfdncmlbegmaa
open Go Go.SX Go.RowKit

theorem wadd8 {n : Nat} (h : n ≤ 16777215) : IntKind.i64.wrap (((3 + n : Nat) : Int) + 8) = ((11 + n : Nat) : Int) := by rw [wrap_id (by omega) (by omega)]; omega
theorem Rp.recap {α : Type} {A : Rp α} {S : Nat → Prop} {w : World} {q : Option Addr} {n c c' : Nat} {xs : List α} (h : (Rp.slice A).rd S w [.slice q n c] xs) (h1 : n ≤ c') (h2 : c' ≤ 9223372036854775807) : (Rp.slice A).rd S w [.slice q n c'] xs := by
  obtain ⟨p', n', c9, hv, hn, hnc, hcm, hel⟩ := h
  simp only [List.cons.injEq, and_true, Value.slice.injEq] at hv
  obtain ⟨rfl, rfl, rfl⟩ := hv
  exact ⟨_, _, _, rfl, hn, h1, by rw [maxLen_eq]; exact h2, hel⟩
theorem slc3_eq {p p4 : Option Addr} {c c4 h m : Nat} (hc : 0 < c) (hh : 0 < h) (he : slcV 1 p c 0 h = .slice p4 m c4) : slcV 1 p h 0 h = .slice p4 m h := by
  unfold slcV at *
  rw [if_neg (by omega)] at *
  simp only [Value.slice.injEq, Nat.sub_zero] at *
  exact ⟨he.1, he.2.1, trivial⟩
/-- function 31 -/
theorem whole_spec {S : Nat → Prop} {w : World} {v : Value} {b : List Int} (hl : rBytes.rd S w [v] b) (hb8 : ∀ x, x ∈ b → isB x) : Gives Try.prog 31 #[v] w fun r w' =>
    ∃ x : Option Addr × Nat, r = .tuple #[.slice x.1 (WholeF b).1.length x.2, .int .i64 ((WholeF b).2 : Nat)] ∧ rInts.rd (fun b => w.heap.size ≤ b) w' [.slice x.1 (WholeF b).1.length x.2] (WholeF b).1 := by
  obtain ⟨p0, c0, rfl, hc1, hc2⟩ := Rp.slice_val hl
  have hl : (Rp.slice rByte).rd (fun _ => True) w _ b := Rp.any hl
  refine gives_of [.val (.slice p0 b.length c0)] 60 [.tmp 2, .tmp 3] Try.func31 rfl rfl rfl (by simp) rfl rfl ?_
  refine W.pure (ds := []) rfl fun K1 hK1 => ?_
  simp only [sx, ty, Bool.false_eq_true, Int.reduceEq, Int.reduceLT, Nat.reduceAdd, Nat.reduceSub, Nat.reduceMul, Nat.reduceLT, Nat.reduceLeDiff, Nat.reduceEqDiff, List.reduceReplicate, reduceIte, beq_self_eq_true, bne_self_eq_false, Int.reduceBEq, Int.reduceBNe, Bool.or_false, Bool.false_or, Bool.not_false, Bool.not_true, mbits, Int.reduceToNat, Int.reducePow, Int.toNat_natCast]; with_reducible refine hK1 _ ?_; clear hK1
  refine W.seqK fun K2 hK2 => ?_
  refine W.pure (ds := []) rfl fun K3 hK3 => ?_
  simp only [sx, ty, Bool.false_eq_true, Int.reduceEq, Int.reduceLT, Nat.reduceAdd, Nat.reduceSub, Nat.reduceMul, Nat.reduceLT, Nat.reduceLeDiff, Nat.reduceEqDiff, List.reduceReplicate, reduceIte, beq_self_eq_true, bne_self_eq_false, Int.reduceBEq, Int.reduceBNe, Bool.or_false, Bool.false_or, Bool.not_false, Bool.not_true, mbits, Int.reduceToNat, Int.reducePow, Int.toNat_natCast]; with_reducible refine hK3 _ ?_; clear hK3
  refine W.cond rfl rfl (fun hc => ?_) (fun hc => ?_)
  · skip
    have h11 : b.length < 11 := by simp at hc; omega
    refine W.pure (ds := []) rfl fun K4 hK4 => ?_
    simp only [sx, ty, Bool.false_eq_true, Int.reduceEq, Int.reduceLT, Nat.reduceAdd, Nat.reduceSub, Nat.reduceMul, Nat.reduceLT, Nat.reduceLeDiff, Nat.reduceEqDiff, List.reduceReplicate, reduceIte, beq_self_eq_true, bne_self_eq_false, Int.reduceBEq, Int.reduceBNe, Bool.or_false, Bool.false_or, Bool.not_false, Bool.not_true, mbits, Int.reduceToNat, Int.reducePow, Int.toNat_natCast]; with_reducible refine hK4 _ ?_; clear hK4
    refine W.ret ⟨by simp, _, rfl, fun ρ w1 hb => ?_⟩
    rw [WholeF_short h11]
    exact ⟨(none, 0), rfl, Rp.slice_nil (by omega)⟩
  · skip
    have h11 : ¬ b.length < 11 := by simp at hc; omega
    obtain ⟨x0, hg0⟩ : ∃ x, b[0]? = some x := ⟨_, List.getElem?_eq_getElem (by omega)⟩
    have hx0 := hb8 x0 (List.mem_of_getElem? hg0)
    obtain ⟨x1, hg1⟩ : ∃ x, b[1]? = some x := ⟨_, List.getElem?_eq_getElem (by omega)⟩
    have hx1 := hb8 x1 (List.mem_of_getElem? hg1)
    obtain ⟨x2, hg2⟩ : ∃ x, b[2]? = some x := ⟨_, List.getElem?_eq_getElem (by omega)⟩
    have hx2 := hb8 x2 (List.mem_of_getElem? hg2)
    have hn := lenN_code hg0 hg1 hg2 hx0 hx1 hx2
    have hns := lenN_small hb8 (by omega)
    obtain ⟨n, hnn⟩ : ∃ n, lenN b = n := ⟨_, rfl⟩
    rw [hnn] at hn hns
    have hw3 := wadd3 hns
    have hw8 := wadd8 hns
    refine W.skip (hK2 _ ?_)
    refine W.seqK fun K5 hK5 => ?_
    refine W.regionQ mixed (by kernel_rfl) ?_
    refine WQ.go 1 (ds := []) rfl ?_
    simp only [sx, ty, Bool.false_eq_true, Int.reduceEq, Int.reduceLT, Nat.reduceAdd, Nat.reduceSub, Nat.reduceMul, Nat.reduceLT, Nat.reduceLeDiff, Nat.reduceEqDiff, List.reduceReplicate, reduceIte, sxq, Bool.false_eq_true, beq_self_eq_true, bne_self_eq_false, Int.reduceBEq, Int.reduceBNe, Bool.or_false, Bool.false_or, Bool.not_false, Bool.not_true, mbits, Int.reduceToNat, Int.reducePow, Int.toNat_natCast, hn]
    refine WQ.elem (y := x0) hl (by simp [St.put]) (ds := []) rfl rfl rfl (by simp [St.put]) (fun _ => rfl) rfl rfl rfl rfl rfl el23 agg5 sz5 (.inr rfl) (by omega) (hg0) fun p ces hces => ?_
    obtain rfl := rByte_open hces
    clear hces
    refine WQ.go 3 (ds := []) rfl ?_
    simp only [sx, ty, Bool.false_eq_true, Int.reduceEq, Int.reduceLT, Nat.reduceAdd, Nat.reduceSub, Nat.reduceMul, Nat.reduceLT, Nat.reduceLeDiff, Nat.reduceEqDiff, List.reduceReplicate, reduceIte, sxq, Bool.false_eq_true, beq_self_eq_true, bne_self_eq_false, Int.reduceBEq, Int.reduceBNe, Bool.or_false, Bool.false_or, Bool.not_false, Bool.not_true, mbits, Int.reduceToNat, Int.reducePow, Int.toNat_natCast, hn]
    refine WQ.elem (y := x1) hl (by simp [St.put]) (ds := []) rfl rfl rfl (by simp [St.put]) (fun _ => rfl) rfl rfl rfl rfl rfl el23 agg5 sz5 (.inr rfl) (by omega) (hg1) fun p ces hces => ?_
    obtain rfl := rByte_open hces
    clear hces
    refine WQ.go 4 (ds := []) rfl ?_
    simp only [sx, ty, Bool.false_eq_true, Int.reduceEq, Int.reduceLT, Nat.reduceAdd, Nat.reduceSub, Nat.reduceMul, Nat.reduceLT, Nat.reduceLeDiff, Nat.reduceEqDiff, List.reduceReplicate, reduceIte, sxq, Bool.false_eq_true, beq_self_eq_true, bne_self_eq_false, Int.reduceBEq, Int.reduceBNe, Bool.or_false, Bool.false_or, Bool.not_false, Bool.not_true, mbits, Int.reduceToNat, Int.reducePow, Int.toNat_natCast, hn]
    refine WQ.elem (y := x2) hl (by simp [St.put]) (ds := []) rfl rfl rfl (by simp [St.put]) (fun _ => rfl) rfl rfl rfl rfl rfl el23 agg5 sz5 (.inr rfl) (by omega) (hg2) fun p ces hces => ?_
    obtain rfl := rByte_open hces
    clear hces
    refine WQ.go 3 (ds := []) rfl ?_
    simp only [sx, ty, Bool.false_eq_true, Int.reduceEq, Int.reduceLT, Nat.reduceAdd, Nat.reduceSub, Nat.reduceMul, Nat.reduceLT, Nat.reduceLeDiff, Nat.reduceEqDiff, List.reduceReplicate, reduceIte, sxq, Bool.false_eq_true, beq_self_eq_true, bne_self_eq_false, Int.reduceBEq, Int.reduceBNe, Bool.or_false, Bool.false_or, Bool.not_false, Bool.not_true, mbits, Int.reduceToNat, Int.reducePow, Int.toNat_natCast, hn]
    with_reducible refine WQ.nil ?_
    refine hK5 _ ?_; clear hK5
    refine W.pure (ds := []) rfl fun K6 hK6 => ?_
    simp only [sx, ty, Bool.false_eq_true, Int.reduceEq, Int.reduceLT, Nat.reduceAdd, Nat.reduceSub, Nat.reduceMul, Nat.reduceLT, Nat.reduceLeDiff, Nat.reduceEqDiff, List.reduceReplicate, reduceIte, beq_self_eq_true, bne_self_eq_false, Int.reduceBEq, Int.reduceBNe, Bool.or_false, Bool.false_or, Bool.not_false, Bool.not_true, mbits, Int.reduceToNat, Int.reducePow, Int.toNat_natCast, hn, hw3]; with_reducible refine hK6 _ ?_; clear hK6
    refine W.seqK fun K7 hK7 => ?_
    refine W.pure (ds := []) rfl fun K8 hK8 => ?_
    simp only [sx, ty, Bool.false_eq_true, Int.reduceEq, Int.reduceLT, Nat.reduceAdd, Nat.reduceSub, Nat.reduceMul, Nat.reduceLT, Nat.reduceLeDiff, Nat.reduceEqDiff, List.reduceReplicate, reduceIte, beq_self_eq_true, bne_self_eq_false, Int.reduceBEq, Int.reduceBNe, Bool.or_false, Bool.false_or, Bool.not_false, Bool.not_true, mbits, Int.reduceToNat, Int.reducePow, Int.toNat_natCast, hn, hw3, hw8]; with_reducible refine hK8 _ ?_; clear hK8
    refine W.cond rfl rfl (fun hc => ?_) (fun hc => ?_)
    · skip
      have hcut : b.length < lenN b + 11 := by rw [hnn]; simp at hc; omega
      refine W.pure (ds := []) rfl fun K9 hK9 => ?_
      simp only [sx, ty, Bool.false_eq_true, Int.reduceEq, Int.reduceLT, Nat.reduceAdd, Nat.reduceSub, Nat.reduceMul, Nat.reduceLT, Nat.reduceLeDiff, Nat.reduceEqDiff, List.reduceReplicate, reduceIte, beq_self_eq_true, bne_self_eq_false, Int.reduceBEq, Int.reduceBNe, Bool.or_false, Bool.false_or, Bool.not_false, Bool.not_true, mbits, Int.reduceToNat, Int.reducePow, Int.toNat_natCast, hn, hw3, hw8]; with_reducible refine hK9 _ ?_; clear hK9
      refine W.ret ⟨by simp, _, rfl, fun ρ w1 hb => ?_⟩
      rw [WholeF_cut h11 hcut]
      exact ⟨(none, 0), rfl, Rp.slice_nil (by omega)⟩
    · skip
      have hcut : ¬ b.length < lenN b + 11 := by rw [hnn]; simp at hc; omega
      have hcn : n + 11 ≤ b.length := by omega
      obtain ⟨p3, c3, he3, hl3⟩ := Rp.sub (l := 3 + n) (h := 11 + n) hl (by omega) (by omega)
      rw [sub_eq (m := 8) (by omega)] at he3 hl3
      obtain ⟨p4, c4, he4, hl4⟩ := Rp.sub (l := 0) (h := 3 + n) hl (by omega) (by omega)
      rw [sub_eq (m := 3 + n) (by omega), List.drop_zero] at he4 hl4
      have h4l : (b.take (3 + n)).length = 3 + n := by rw [List.length_take]; omega
      have he4b := slc3_eq (by omega) (by omega) he4
      have hl4b := Rp.recap (c' := 3 + n) hl4 (by omega) (by omega)
      obtain ⟨p5, c5, he5, hl5⟩ := Rp.dropS (l := 3) hl4b (by omega)
      have h5e : (b.take (3 + n)).drop 3 = ((b.drop 3).take n) := by rw [List.drop_take]; congr 1; omega
      rw [h5e] at he5 hl5
      have h3l : ((b.drop (3 + n)).take 8).length = 8 := by rw [List.length_take, List.length_drop]; omega
      obtain h9 | ⟨a3, olds, ha3, hnl, hSD, hzD, holD, hatD, hrdD⟩ := Rp.slice_cells hl3
      · rw [h9] at h3l; simp at h3l
      have hE := bytes_cells (by rw [holD]; exact Nat.mul_one _) hrdD
      have hatE : At w a3 (((b.drop (3 + n)).take 8).map (Value.int .u8)) := by rw [← hE]; exact hatD
      clear hE
      subst ha3
      refine W.skip (hK7 _ ?_)
      refine W.seqK fun K10 hK10 => W.region ?_
      refine WO.go 3 (ds := []) rfl ?_
      simp only [sx, ty, Bool.false_eq_true, Int.reduceEq, Int.reduceLT, Nat.reduceAdd, Nat.reduceSub, Nat.reduceMul, Nat.reduceLT, Nat.reduceLeDiff, Nat.reduceEqDiff, List.reduceReplicate, reduceIte, beq_self_eq_true, bne_self_eq_false, Int.reduceBEq, Int.reduceBNe, Bool.or_false, Bool.false_or, Bool.not_false, Bool.not_true, mbits, Int.reduceToNat, Int.reducePow, Int.toNat_natCast, hn, hw3, hw8]
      refine WO.q (ds := []) rfl rfl rfl (QR.slc3 rfl rfl rfl rfl el23 (by omega) (by omega)) ?_
      rw [show slcV 1 p0 (((3 + n : Nat) : Int)).toNat 0 (((3 + n : Nat) : Int)).toNat = .slice p4 (b.take (3 + n)).length (3 + n) from he4b]
      refine WO.go 1 (ds := []) rfl ?_
      simp only [sx, ty, Bool.false_eq_true, Int.reduceEq, Int.reduceLT, Nat.reduceAdd, Nat.reduceSub, Nat.reduceMul, Nat.reduceLT, Nat.reduceLeDiff, Nat.reduceEqDiff, List.reduceReplicate, reduceIte, beq_self_eq_true, bne_self_eq_false, Int.reduceBEq, Int.reduceBNe, Bool.or_false, Bool.false_or, Bool.not_false, Bool.not_true, mbits, Int.reduceToNat, Int.reducePow, Int.toNat_natCast, hn, hw3, hw8]
      with_reducible refine WO.nil ?_
      refine hK10 _ ?_; clear hK10
      refine W.seqK fun K11 hK11 => ?_
      refine W.seqK fun K12 hK12 => ?_
      refine W.regionQ mixed (by kernel_rfl) ?_
      refine WQ.go 1 (ds := []) rfl ?_
      simp only [sx, ty, Bool.false_eq_true, Int.reduceEq, Int.reduceLT, Nat.reduceAdd, Nat.reduceSub, Nat.reduceMul, Nat.reduceLT, Nat.reduceLeDiff, Nat.reduceEqDiff, List.reduceReplicate, reduceIte, sxq, Bool.false_eq_true, beq_self_eq_true, bne_self_eq_false, Int.reduceBEq, Int.reduceBNe, Bool.or_false, Bool.false_or, Bool.not_false, Bool.not_true, mbits, Int.reduceToNat, Int.reducePow, Int.toNat_natCast, hn, hw3, hw8, hw8]
      refine WQ.call (.agg #[.int .u8 (byteF (digF beginD (b.take (3 + n))) 0), .int .u8 (byteF (digF beginD (b.take (3 + n))) 1), .int .u8 (byteF (digF beginD (b.take (3 + n))) 2), .int .u8 (byteF (digF beginD (b.take (3 + n))) 3), .int .u8 (byteF (digF beginD (b.take (3 + n))) 4), .int .u8 (byteF (digF beginD (b.take (3 + n))) 5), .int .u8 (byteF (digF beginD (b.take (3 + n))) 6), .int .u8 (byteF (digF beginD (b.take (3 + n))) 7)]) (ds := []) rfl rfl rfl rfl co25 (fun ρ w1 hb => sum8_spec (Rp.now hl4b (hb.first (by simp)))) ?_
      refine WQ.go 4 (ds := []) rfl ?_
      simp only [sx, ty, Bool.false_eq_true, Int.reduceEq, Int.reduceLT, Nat.reduceAdd, Nat.reduceSub, Nat.reduceMul, Nat.reduceLT, Nat.reduceLeDiff, Nat.reduceEqDiff, List.reduceReplicate, reduceIte, sxq, Bool.false_eq_true, beq_self_eq_true, bne_self_eq_false, Int.reduceBEq, Int.reduceBNe, Bool.or_false, Bool.false_or, Bool.not_false, Bool.not_true, mbits, Int.reduceToNat, Int.reducePow, Int.toNat_natCast, hn, hw3, hw8, hw8]
      refine WQ.slc (ds := []) rfl rfl rfl rfl rfl el23 rfl rfl (by simp [loS] <;> omega) (by simp [loS, hiS] <;> omega) (by simp [hiS] <;> omega) ?_
      rw [show slcV 1 p0 c0 (loS (some (IntKind.i64, ((3 + n : Nat) : Int)))).toNat (hiS b.length (some (IntKind.i64, ((11 + n : Nat) : Int)))).toNat = .slice (some a3) ((b.drop (3 + n)).take 8).length c3 from he3]
      simp only [sx, ty, Bool.false_eq_true, Int.reduceEq, Int.reduceLT, Nat.reduceAdd, Nat.reduceSub, Nat.reduceMul, Nat.reduceLT, Nat.reduceLeDiff, Nat.reduceEqDiff, List.reduceReplicate, reduceIte, beq_self_eq_true, bne_self_eq_false, Int.reduceBEq, Int.reduceBNe, Bool.or_false, Bool.false_or, Bool.not_false, Bool.not_true, mbits, Int.reduceToNat, Int.reducePow, Int.toNat_natCast, hn, hw3, hw8, hw8]
      refine WQ.q (ds := []) rfl rfl rfl (QR.toArr rfl rfl ar48 (by omega)) ?_
      simp only [sx, ty, Bool.false_eq_true, Int.reduceEq, Int.reduceLT, Nat.reduceAdd, Nat.reduceSub, Nat.reduceMul, Nat.reduceLT, Nat.reduceLeDiff, Nat.reduceEqDiff, List.reduceReplicate, reduceIte, beq_self_eq_true, bne_self_eq_false, Int.reduceBEq, Int.reduceBNe, Bool.or_false, Bool.false_or, Bool.not_false, Bool.not_true, mbits, Int.reduceToNat, Int.reducePow, Int.toNat_natCast, hn, hw3, hw8, hw8]
      refine WQ.q (ds := []) rfl rfl rfl (QR.load (((b.drop (3 + n)).take 8).map (Value.int .u8)) true rfl rfl agg48 (by rw [List.length_map, h3l]; exact sz48) (.inl rfl) (fun ρ w1 hb => hatE.now (S := fun _ => True) hb (by simp [St.put]) trivial hzD)) ?_
      simp only [sx, ty, Bool.false_eq_true, Int.reduceEq, Int.reduceLT, Nat.reduceAdd, Nat.reduceSub, Nat.reduceMul, Nat.reduceLT, Nat.reduceLeDiff, Nat.reduceEqDiff, List.reduceReplicate, reduceIte, beq_self_eq_true, bne_self_eq_false, Int.reduceBEq, Int.reduceBNe, Bool.or_false, Bool.false_or, Bool.not_false, Bool.not_true, mbits, Int.reduceToNat, Int.reducePow, Int.toNat_natCast, hn, hw3, hw8, hw8]
      refine WQ.q (ds := []) rfl rfl rfl (QR.arrCmp (bigE (digF beginD (b.take (3 + n)))) ((b.drop (3 + n)).take 8) (r := !(bigE (digF beginD (b.take (3 + n))) == ((b.drop (3 + n)).take 8))) rfl ⟨_, rfl, fun _ => rfl⟩ ⟨_, rfl, fun _ => rfl⟩ ia48 (by simp [bigE, preB_len]) h3l rfl) ?_
      simp only [sx, ty, Bool.false_eq_true, Int.reduceEq, Int.reduceLT, Nat.reduceAdd, Nat.reduceSub, Nat.reduceMul, Nat.reduceLT, Nat.reduceLeDiff, Nat.reduceEqDiff, List.reduceReplicate, reduceIte, beq_self_eq_true, bne_self_eq_false, Int.reduceBEq, Int.reduceBNe, Bool.or_false, Bool.false_or, Bool.not_false, Bool.not_true, mbits, Int.reduceToNat, Int.reducePow, Int.toNat_natCast, hn, hw3, hw8, hw8]
      with_reducible refine WQ.nil ?_
      refine hK12 _ ?_; clear hK12
      refine W.cond rfl rfl (fun hc => ?_) (fun hc => ?_)
      · skip
        have hs : ¬ ((b.drop (3 + n)).take 8) = bigE (digF beginD (b.take (3 + n))) := fun h => by rw [h] at hc; simp at hc
        rw [← hnn] at hs
        refine W.pure (ds := []) rfl fun K13 hK13 => ?_
        simp only [sx, ty, Bool.false_eq_true, Int.reduceEq, Int.reduceLT, Nat.reduceAdd, Nat.reduceSub, Nat.reduceMul, Nat.reduceLT, Nat.reduceLeDiff, Nat.reduceEqDiff, List.reduceReplicate, reduceIte, beq_self_eq_true, bne_self_eq_false, Int.reduceBEq, Int.reduceBNe, Bool.or_false, Bool.false_or, Bool.not_false, Bool.not_true, mbits, Int.reduceToNat, Int.reducePow, Int.toNat_natCast, hn, hw3, hw8, hw8]; with_reducible refine hK13 _ ?_; clear hK13
        refine W.ret ⟨by simp, _, rfl, fun ρ w1 hb => ?_⟩
        rw [WholeF_sum h11 hcut hs]
        exact ⟨(none, 0), rfl, Rp.slice_nil (by omega)⟩
      · skip
        have hs : ((b.drop (3 + n)).take 8) = bigE (digF beginD (b.take (3 + n))) := by simp at hc; exact hc.symm
        rw [← hnn] at hs
        refine W.skip (hK11 _ ?_)
        refine W.seqK fun K14 hK14 => W.region ?_
        refine WO.go 1 (ds := []) rfl ?_
        simp only [sx, ty, Bool.false_eq_true, Int.reduceEq, Int.reduceLT, Nat.reduceAdd, Nat.reduceSub, Nat.reduceMul, Nat.reduceLT, Nat.reduceLeDiff, Nat.reduceEqDiff, List.reduceReplicate, reduceIte, beq_self_eq_true, bne_self_eq_false, Int.reduceBEq, Int.reduceBNe, Bool.or_false, Bool.false_or, Bool.not_false, Bool.not_true, mbits, Int.reduceToNat, Int.reducePow, Int.toNat_natCast, hn, hw3, hw8, hw8]
        refine WO.slc (ds := []) rfl rfl rfl rfl rfl el23 rfl rfl (by simp [loS] <;> omega) (by simp [loS, hiS] <;> omega) (by simp [hiS] <;> omega) ?_
        rw [show slcV 1 p4 (3 + n) (loS (some (IntKind.i64, 3))).toNat (hiS (b.take (3 + n)).length none).toNat = .slice p5 ((b.drop 3).take n).length c5 from he5]
        simp only [sx, ty, Bool.false_eq_true, Int.reduceEq, Int.reduceLT, Nat.reduceAdd, Nat.reduceSub, Nat.reduceMul, Nat.reduceLT, Nat.reduceLeDiff, Nat.reduceEqDiff, List.reduceReplicate, reduceIte, beq_self_eq_true, bne_self_eq_false, Int.reduceBEq, Int.reduceBNe, Bool.or_false, Bool.false_or, Bool.not_false, Bool.not_true, mbits, Int.reduceToNat, Int.reducePow, Int.toNat_natCast, hn, hw3, hw8, hw8]
        refine WO.callM (fun x : Option Addr × Nat => .tuple #[.slice x.1 (GetF ((b.drop 3).take n)).1.length x.2, .int .i64 (GetF ((b.drop 3).take n)).2]) (fun lo x s9 => w.heap.size ≤ lo ∧ rInts.rd (fun b => lo ≤ b) s9 [.slice x.1 (GetF ((b.drop 3).take n)).1.length x.2] (GetF ((b.drop 3).take n)).1) (ds := []) rfl rfl rfl rfl co15 (fun ρ w1 hb => Gives.mono (Get_spec (Rp.keep hl5 (hb.at (by simp))) (fun x hx => hb8 x (List.mem_of_mem_drop (List.mem_of_mem_take hx)))) fun _ _ _ ⟨x, h1, h2⟩ => ⟨x, h1, (hb.at (S := fun _ => True) (s := w) (by simp)).size, h2⟩) fun x lo hr2s ⟨hr2lo, hr2⟩ => ?_
        obtain ⟨hr2p, hr2c⟩ := x
        simp only at hr2
        refine WO.go 5 (ds := []) rfl ?_
        simp only [sx, ty, Bool.false_eq_true, Int.reduceEq, Int.reduceLT, Nat.reduceAdd, Nat.reduceSub, Nat.reduceMul, Nat.reduceLT, Nat.reduceLeDiff, Nat.reduceEqDiff, List.reduceReplicate, reduceIte, beq_self_eq_true, bne_self_eq_false, Int.reduceBEq, Int.reduceBNe, Bool.or_false, Bool.false_or, Bool.not_false, Bool.not_true, mbits, Int.reduceToNat, Int.reducePow, Int.toNat_natCast, hn, hw3, hw8, hw8]
        with_reducible refine WO.nil ?_
        refine hK14 _ ?_; clear hK14
        refine W.seqK fun K15 hK15 => ?_
        refine W.pure (ds := []) rfl fun K16 hK16 => ?_
        simp only [sx, ty, Bool.false_eq_true, Int.reduceEq, Int.reduceLT, Nat.reduceAdd, Nat.reduceSub, Nat.reduceMul, Nat.reduceLT, Nat.reduceLeDiff, Nat.reduceEqDiff, List.reduceReplicate, reduceIte, beq_self_eq_true, bne_self_eq_false, Int.reduceBEq, Int.reduceBNe, Bool.or_false, Bool.false_or, Bool.not_false, Bool.not_true, mbits, Int.reduceToNat, Int.reducePow, Int.toNat_natCast, hn, hw3, hw8, hw8]; with_reducible refine hK16 _ ?_; clear hK16
        refine W.cond rfl rfl (fun hc => ?_) (fun hc => ?_)
        · skip
          have hge : getF ((b.drop 3).take n) = none := by
            cases h9 : getF ((b.drop 3).take n) with
            | none => rfl
            | some l => rw [GetF_some h9] at hc; simp at hc
          rw [← hnn] at hge
          refine W.pure (ds := []) rfl fun K17 hK17 => ?_
          simp only [sx, ty, Bool.false_eq_true, Int.reduceEq, Int.reduceLT, Nat.reduceAdd, Nat.reduceSub, Nat.reduceMul, Nat.reduceLT, Nat.reduceLeDiff, Nat.reduceEqDiff, List.reduceReplicate, reduceIte, beq_self_eq_true, bne_self_eq_false, Int.reduceBEq, Int.reduceBNe, Bool.or_false, Bool.false_or, Bool.not_false, Bool.not_true, mbits, Int.reduceToNat, Int.reducePow, Int.toNat_natCast, hn, hw3, hw8, hw8]; with_reducible refine hK17 _ ?_; clear hK17
          refine W.ret ⟨by simp, _, rfl, fun ρ w1 hb => ?_⟩
          rw [WholeF_bad h11 hcut hs hge]
          exact ⟨(none, 0), rfl, Rp.slice_nil (by omega)⟩
        · skip
          obtain ⟨l, hge⟩ : ∃ l, getF ((b.drop 3).take n) = some l := by
            cases h9 : getF ((b.drop 3).take n) with
            | none => rw [GetF_none h9] at hc; simp at hc
            | some l => exact ⟨l, rfl⟩
          rw [GetF_some hge] at hr2
          refine W.skip (hK15 _ ?_)
          refine W.pure (ds := []) rfl fun K18 hK18 => ?_
          simp only [sx, ty, Bool.false_eq_true, Int.reduceEq, Int.reduceLT, Nat.reduceAdd, Nat.reduceSub, Nat.reduceMul, Nat.reduceLT, Nat.reduceLeDiff, Nat.reduceEqDiff, List.reduceReplicate, reduceIte, beq_self_eq_true, bne_self_eq_false, Int.reduceBEq, Int.reduceBNe, Bool.or_false, Bool.false_or, Bool.not_false, Bool.not_true, mbits, Int.reduceToNat, Int.reducePow, Int.toNat_natCast, hn, hw3, hw8, hw8, hw8]; with_reducible refine hK18 _ ?_; clear hK18
          refine W.ret ⟨by simp, _, rfl, fun ρ w1 hb => ?_⟩
          rw [← hnn] at hge
          rw [WholeF_ok h11 hcut hs hge, hnn]
          rw [hnn] at hge
          exact ⟨(hr2p, hr2c), by simp only [den, denL, GetF_some hge, Nat.add_comm], Rp.mono _ (Rp.keep hr2 (hb.at (by simp))) (fun b h _ => Nat.le_trans hr2lo h)⟩
/-- function 18 -/
theorem Frames_spec {S : Nat → Prop} {w : World} {v : Value} {b : List Int} (hl : rBytes.rd S w [v] b) (hb8 : ∀ x, x ∈ b → isB x) : Gives Try.prog 18 #[v] w fun r w' =>
    ∃ x : Option Addr × Nat, r = .tuple #[.slice x.1 (FramesF b).1.length x.2, .int .i64 ((FramesF b).2.1 : Nat), .int .i64 (FramesF b).2.2] ∧ rLists.rd (fun b => w.heap.size ≤ b) w' [.slice x.1 (FramesF b).1.length x.2] (FramesF b).1 := by
  obtain ⟨p, c, rfl, hc1, hc2⟩ := Rp.slice_val hl
  have hl : (Rp.slice rByte).rd (fun _ => True) w _ b := Rp.any hl
  refine gives_of [.val (.slice p b.length c)] 30 [.tmp 2, .tmp 3, .tmp 4] Try.func18 rfl rfl rfl (by simp) rfl rfl ?_
  refine W.pure (ds := []) rfl fun K1 hK1 => ?_
  simp only [sx, ty, Bool.false_eq_true, Int.reduceEq, Int.reduceLT, Nat.reduceAdd, Nat.reduceSub, Nat.reduceMul, Nat.reduceLT, Nat.reduceLeDiff, Nat.reduceEqDiff, List.reduceReplicate, reduceIte, beq_self_eq_true, bne_self_eq_false, Int.reduceBEq, Int.reduceBNe, Bool.or_false, Bool.false_or, Bool.not_false, Bool.not_true, mbits, Int.reduceToNat, Int.reducePow, Int.toNat_natCast]; with_reducible refine hK1 _ ?_; clear hK1
  refine W.seqK fun K2 hK2 => ?_
  refine W.pure (ds := []) rfl fun K3 hK3 => ?_
  simp only [sx, ty, Bool.false_eq_true, Int.reduceEq, Int.reduceLT, Nat.reduceAdd, Nat.reduceSub, Nat.reduceMul, Nat.reduceLT, Nat.reduceLeDiff, Nat.reduceEqDiff, List.reduceReplicate, reduceIte, beq_self_eq_true, bne_self_eq_false, Int.reduceBEq, Int.reduceBNe, Bool.or_false, Bool.false_or, Bool.not_false, Bool.not_true, mbits, Int.reduceToNat, Int.reducePow, Int.toNat_natCast]; with_reducible refine hK3 _ ?_; clear hK3
  refine W.cond rfl rfl (fun hc => ?_) (fun hc => ?_)
  · skip
    have h0 : 200000 < b.length := by simp at hc; omega
    refine W.pure (ds := []) rfl fun K4 hK4 => ?_
    simp only [sx, ty, Bool.false_eq_true, Int.reduceEq, Int.reduceLT, Nat.reduceAdd, Nat.reduceSub, Nat.reduceMul, Nat.reduceLT, Nat.reduceLeDiff, Nat.reduceEqDiff, List.reduceReplicate, reduceIte, beq_self_eq_true, bne_self_eq_false, Int.reduceBEq, Int.reduceBNe, Bool.or_false, Bool.false_or, Bool.not_false, Bool.not_true, mbits, Int.reduceToNat, Int.reducePow, Int.toNat_natCast]; with_reducible refine hK4 _ ?_; clear hK4
    refine W.ret ⟨by simp, _, rfl, fun ρ w1 hb => ?_⟩
    rw [FramesF_long h0]
    exact ⟨(none, 0), rfl, Rp.slice_nil (by omega)⟩
  · skip
    have h0 : ¬ 200000 < b.length := by simp at hc; omega
    refine W.skip (hK2 _ ?_)
    refine W.pure (ds := []) rfl fun K5 hK5 => ?_
    simp only [sx, ty, Bool.false_eq_true, Int.reduceEq, Int.reduceLT, Nat.reduceAdd, Nat.reduceSub, Nat.reduceMul, Nat.reduceLT, Nat.reduceLeDiff, Nat.reduceEqDiff, List.reduceReplicate, reduceIte, beq_self_eq_true, bne_self_eq_false, Int.reduceBEq, Int.reduceBNe, Bool.or_false, Bool.false_or, Bool.not_false, Bool.not_true, mbits, Int.reduceToNat, Int.reducePow, Int.toNat_natCast]; with_reducible refine hK5 _ ?_; clear hK5
    refine W.pure (ds := []) rfl fun K6 hK6 => ?_
    simp only [sx, ty, Bool.false_eq_true, Int.reduceEq, Int.reduceLT, Nat.reduceAdd, Nat.reduceSub, Nat.reduceMul, Nat.reduceLT, Nat.reduceLeDiff, Nat.reduceEqDiff, List.reduceReplicate, reduceIte, beq_self_eq_true, bne_self_eq_false, Int.reduceBEq, Int.reduceBNe, Bool.or_false, Bool.false_or, Bool.not_false, Bool.not_true, mbits, Int.reduceToNat, Int.reducePow, Int.toNat_natCast]; with_reducible refine hK6 _ ?_; clear hK6
    refine W.block ?_
    refine W.ownNil 22 1 ?_
    refine W.snapE (S := fun _ => True) (s := w) (fun _ => False) (by simp [St.pushO]) (fun _ h => h.elim) ?_
    simp only [sx, ty, Bool.false_eq_true, Int.reduceEq, Int.reduceLT, Nat.reduceAdd, Nat.reduceSub, Nat.reduceMul, Nat.reduceLT, Nat.reduceLeDiff, Nat.reduceEqDiff, List.reduceReplicate, reduceIte, St.pushO, St.snap, List.nil_append]
    refine W.loopO (X := Nat × Nat × List (List Int) × List Value × Option Addr × Nat × (Nat → Prop) × World) [0] (fun x => [(5, .val (.slice x.2.2.2.2.1 x.2.2.1.length x.2.2.2.2.2.1)), (6, .val (.int .i64 x.2.1))]) (fun x => [.slice 22 1 (.slice x.2.2.2.2.1 x.2.2.1.length x.2.2.2.2.2.1) x.2.2.1.length x.2.2.2.1]) (fun x => [(x.2.2.2.2.2.2.1, x.2.2.2.2.2.2.2), ((fun _ => True), w)]) (fun x => FrI b x.1 x.2.1 x.2.2.1 ∧ RowsL x.2.2.2.2.2.2.1 x.2.2.2.2.2.2.2 x.2.2.1 x.2.2.2.1 ∧ (∀ b, x.2.2.2.2.2.2.1 b → w.heap.size ≤ b)) (fun x => x.1) (b.length, 0, [], [], none, 0, (fun _ => False), w) ?_ ?_ ?_
    · exact ⟨rfl, by simp [getE, bnd, keepE], ⟨[], by simp⟩, by simp [Own.bnd, bndL, bnd, boxO], by simp⟩
    · skip
      exact ⟨FrI.start b, ⟨rfl, fun j l h => by simp at h⟩, fun b h => h.elim⟩
    · rintro ⟨f, a, ls, vs, p3, c3, S4, s4⟩ ⟨hI, hR, hnew⟩
      simp only at hI hR hnew
      have hal := hI.al
      have hll := hI.ll
      simp only [sx, ty, Bool.false_eq_true, Int.reduceEq, Int.reduceLT, Nat.reduceAdd, Nat.reduceSub, Nat.reduceMul, Nat.reduceLT, Nat.reduceLeDiff, Nat.reduceEqDiff, List.reduceReplicate, reduceIte, sxk, beq_self_eq_true, bne_self_eq_false, Int.reduceBEq, Int.reduceBNe, Bool.or_false, Bool.false_or, Bool.not_false, Bool.not_true, mbits, Int.reduceToNat, Int.reducePow, Int.toNat_natCast]
      refine W.block ?_
      refine W.seqK fun K7 hK7 => W.region ?_
      refine WO.go 2 (ds := []) rfl ?_
      simp only [sx, ty, Bool.false_eq_true, Int.reduceEq, Int.reduceLT, Nat.reduceAdd, Nat.reduceSub, Nat.reduceMul, Nat.reduceLT, Nat.reduceLeDiff, Nat.reduceEqDiff, List.reduceReplicate, reduceIte, beq_self_eq_true, bne_self_eq_false, Int.reduceBEq, Int.reduceBNe, Bool.or_false, Bool.false_or, Bool.not_false, Bool.not_true, mbits, Int.reduceToNat, Int.reducePow, Int.toNat_natCast]
      obtain ⟨p2, c2, he2, hl2⟩ := Rp.dropS (l := a) hl hal
      refine WO.slc (ds := []) rfl rfl rfl rfl rfl el23 rfl rfl (by simp [loS] <;> omega) (by simp [loS, hiS] <;> omega) (by simp [hiS] <;> omega) ?_
      rw [show slcV 1 p c (loS (some (IntKind.i64, (a : Int)))).toNat (hiS b.length none).toNat = .slice p2 (b.drop a).length c2 from he2]
      simp only [sx, ty, Bool.false_eq_true, Int.reduceEq, Int.reduceLT, Nat.reduceAdd, Nat.reduceSub, Nat.reduceMul, Nat.reduceLT, Nat.reduceLeDiff, Nat.reduceEqDiff, List.reduceReplicate, reduceIte, beq_self_eq_true, bne_self_eq_false, Int.reduceBEq, Int.reduceBNe, Bool.or_false, Bool.false_or, Bool.not_false, Bool.not_true, mbits, Int.reduceToNat, Int.reducePow, Int.toNat_natCast]
      refine WO.callM (fun x : Option Addr × Nat => .tuple #[.slice x.1 (WholeF (b.drop a)).1.length x.2, .int .i64 ((WholeF (b.drop a)).2 : Nat)]) (fun lo x s9 => w.heap.size ≤ lo ∧ rInts.rd (fun b => lo ≤ b) s9 [.slice x.1 (WholeF (b.drop a)).1.length x.2] (WholeF (b.drop a)).1) (ds := []) rfl rfl rfl rfl co31 (fun ρ w1 hb => Gives.mono (whole_spec (Rp.now hl2 (hb.at (S := fun _ => True) (s := w) (by simp))) (fun x hx => hb8 x (List.mem_of_mem_drop hx))) fun _ _ _ ⟨x, h1, h2⟩ => ⟨x, h1, (hb.at (S := fun _ => True) (s := w) (by simp)).size, h2⟩) fun x lo hr1s ⟨hr1lo, hr1⟩ => ?_
      obtain ⟨hr1p, hr1c⟩ := x
      simp only at hr1
      refine WO.go 5 (ds := []) rfl ?_
      simp only [sx, ty, Bool.false_eq_true, Int.reduceEq, Int.reduceLT, Nat.reduceAdd, Nat.reduceSub, Nat.reduceMul, Nat.reduceLT, Nat.reduceLeDiff, Nat.reduceEqDiff, List.reduceReplicate, reduceIte, beq_self_eq_true, bne_self_eq_false, Int.reduceBEq, Int.reduceBNe, Bool.or_false, Bool.false_or, Bool.not_false, Bool.not_true, mbits, Int.reduceToNat, Int.reducePow, Int.toNat_natCast]
      with_reducible refine WO.nil ?_
      refine hK7 _ ?_; clear hK7
      refine W.seqK fun K8 hK8 => ?_
      refine W.pure (ds := []) rfl fun K9 hK9 => ?_
      simp only [sx, ty, Bool.false_eq_true, Int.reduceEq, Int.reduceLT, Nat.reduceAdd, Nat.reduceSub, Nat.reduceMul, Nat.reduceLT, Nat.reduceLeDiff, Nat.reduceEqDiff, List.reduceReplicate, reduceIte, beq_self_eq_true, bne_self_eq_false, Int.reduceBEq, Int.reduceBNe, Bool.or_false, Bool.false_or, Bool.not_false, Bool.not_true, mbits, Int.reduceToNat, Int.reducePow, Int.toNat_natCast]; with_reducible refine hK9 _ ?_; clear hK9
      refine W.cond rfl rfl (fun hc => ?_) (fun hc => ?_)
      · skip
        have hz : (WholeF (b.drop a)).2 = 0 := by simp at hc; omega
        refine W.pure (ds := []) rfl fun K10 hK10 => ?_
        simp only [sx, ty, Bool.false_eq_true, Int.reduceEq, Int.reduceLT, Nat.reduceAdd, Nat.reduceSub, Nat.reduceMul, Nat.reduceLT, Nat.reduceLeDiff, Nat.reduceEqDiff, List.reduceReplicate, reduceIte, beq_self_eq_true, bne_self_eq_false, Int.reduceBEq, Int.reduceBNe, Bool.or_false, Bool.false_or, Bool.not_false, Bool.not_true, mbits, Int.reduceToNat, Int.reducePow, Int.toNat_natCast]; with_reducible refine hK10 _ ?_; clear hK10
        refine W.ret ⟨by simp, _, rfl, fun ρ w1 hb => ?_⟩
        rw [FramesF_ok h0, hI.stop hz]
        exact ⟨(p3, c3), by simp only [den, denL], hR.list hb rfl (by simp) (by simp) hnew⟩
      · skip
        have hz : ¬ (WholeF (b.drop a)).2 = 0 := by simp at hc; omega
        obtain ⟨g, hg, hI2⟩ := hI.more hz
        have hal2 := hI2.al
        refine W.skip (hK8 _ ?_)
        refine W.region ?_
        refine WO.go 3 (ds := []) rfl ?_
        simp only [sx, ty, Bool.false_eq_true, Int.reduceEq, Int.reduceLT, Nat.reduceAdd, Nat.reduceSub, Nat.reduceMul, Nat.reduceLT, Nat.reduceLeDiff, Nat.reduceEqDiff, List.reduceReplicate, reduceIte, beq_self_eq_true, bne_self_eq_false, Int.reduceBEq, Int.reduceBNe, Bool.or_false, Bool.false_or, Bool.not_false, Bool.not_true, mbits, Int.reduceToNat, Int.reducePow, Int.toNat_natCast]
        refine WO.append (k := 0) (m := 1) [.slice hr1p (WholeF (b.drop a)).1.length hr1c] (ds := []) rfl rfl rfl rfl rfl rfl rfl ek32 (news_own (k2 := 1) rfl fun _ => rfl) rfl (by simp [Value.oneCell']) (by rw [maxLen_eq]; omega) (by omega) fun p6 c6 => ?_
        refine WO.go 5 (ds := []) rfl ?_
        simp only [sx, ty, Bool.false_eq_true, Int.reduceEq, Int.reduceLT, Nat.reduceAdd, Nat.reduceSub, Nat.reduceMul, Nat.reduceLT, Nat.reduceLeDiff, Nat.reduceEqDiff, List.reduceReplicate, reduceIte, beq_self_eq_true, bne_self_eq_false, Int.reduceBEq, Int.reduceBNe, Bool.or_false, Bool.false_or, Bool.not_false, Bool.not_true, mbits, Int.reduceToNat, Int.reducePow, Int.toNat_natCast]
        refine WO.snapK [] (fun S s => RowsL S s (ls ++ [(WholeF (b.drop a)).1]) (vs ++ [.slice hr1p (WholeF (b.drop a)).1.length hr1c]) ∧ ∀ b, S b → w.heap.size ≤ b) (fun ρ w1 hb => hR.more hb (by simp) (by simp) hnew hr1lo hr1) (fun S5 s5 hS5 => ?_)
        simp only [sx, ty, Bool.false_eq_true, Int.reduceEq, Int.reduceLT, Nat.reduceAdd, Nat.reduceSub, Nat.reduceMul, Nat.reduceLT, Nat.reduceLeDiff, Nat.reduceEqDiff, List.reduceReplicate, reduceIte, sxd]
        with_reducible refine WO.nil ?_
        refine ⟨(g, a + (WholeF (b.drop a)).2, ls ++ [(WholeF (b.drop a)).1], vs ++ [.slice hr1p (WholeF (b.drop a)).1.length hr1c], p6, c6, S5, s5), ⟨hI2, hS5⟩, by simp only; omega, rfl, by simp [getE, bnd, keepE, wrap_id (x := (a : Int) + ((WholeF (b.drop a)).2 : Nat)) (by omega) (by omega)], ⟨[.cells 22 [.val (.slice hr1p (WholeF (b.drop a)).1.length hr1c)]], by simp⟩, by simp [Own.bnd, bndL, bnd], by simp⟩
end Go.Proofs.Ytnbfdncmlbegmaa
