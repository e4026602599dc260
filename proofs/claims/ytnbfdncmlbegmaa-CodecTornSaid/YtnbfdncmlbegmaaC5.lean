/-
  Codec: an integer read, Get of the reference: walks.
-/
import Derived.Test.YtnbfdncmlbegmaaC4
set_option linter.unusedVariables false
set_option linter.unusedSimpArgs false
set_option maxHeartbeats 1000000
namespace Go.Proofs.Ytnbfdncmlbegmaa
open Go Go.SX Go.RowKit

theorem drop_get {b : List Int} {i : Nat} {c : Int} (h : b[i]? = some c) : b.drop i = c :: b.drop (i + 1) := by
  obtain ⟨h1, h2⟩ := List.getElem?_eq_some_iff.1 h
  rw [List.drop_eq_getElem_cons h1, h2]
/-- a loop that reads a number -/
structure ReadI (b : List Int) (i : Nat) (u : Int) : Prop where
  i9 : i ≤ 9
  il : i ≤ b.length
  u0 : 0 ≤ u
  u1 : u < 2 ^ (7 * i)
  eq : readG b 0 0 = readG (b.drop i) i u
theorem ReadI.start (b : List Int) : ReadI b 0 0 := ⟨by omega, by omega, by omega, by decide, rfl⟩
theorem pow7 {i : Nat} (h : i ≤ 9) : (2 : Int) ^ (7 * i) ≤ 9223372036854775808 := by
  have : (2 : Nat) ^ (7 * i) ≤ 2 ^ 63 := Nat.pow_le_pow_right (by decide) (by omega)
  have h3 : (2 : Nat) ^ 63 = 9223372036854775808 := by decide
  rw [show ((2 : Int) ^ (7 * i)) = ((2 ^ (7 * i) : Nat) : Int) by simp]; omega
theorem pow7' {i : Nat} (h : i ≤ 8) : (2 : Int) ^ (7 * i) ≤ 72057594037927936 := by
  have : (2 : Nat) ^ (7 * i) ≤ 2 ^ 56 := Nat.pow_le_pow_right (by decide) (by omega)
  have h3 : (2 : Nat) ^ 56 = 72057594037927936 := by decide
  rw [show ((2 : Int) ^ (7 * i)) = ((2 ^ (7 * i) : Nat) : Int) by simp]; omega
theorem ReadI.small {b : List Int} {i : Nat} {u c : Int} (h : ReadI b i u) (hb : isB c) (hc : ¬ (i = 9 ∧ 1 < c)) : u + c % 128 * 2 ^ (7 * i) < 18446744073709551616 := by
  have h1 := h.u1
  have hp : (0 : Int) < 2 ^ (7 * i) := Int.pow_pos (by decide)
  unfold isB at hb
  have h9 := h.i9
  rcases Nat.lt_or_ge i 9 with h8 | h8
  · have h2 := pow7' (i := i) (by omega)
    have h3 : c % 128 * 2 ^ (7 * i) ≤ 127 * 2 ^ (7 * i) := Int.mul_le_mul_of_nonneg_right (by omega) (by omega)
    omega
  · obtain rfl : i = 9 := by omega
    have h2 : c % 128 ≤ 1 := by omega
    have h3 : c % 128 * 2 ^ (7 * 9) ≤ 1 * 2 ^ (7 * 9) := Int.mul_le_mul_of_nonneg_right h2 (by omega)
    have h4 : (2 : Int) ^ (7 * 9) = 9223372036854775808 := by decide
    omega
theorem ReadI.none0 {b : List Int} {i : Nat} {u : Int} (h : ReadI b i u) (hl : b.length ≤ i) : readG b 0 0 = none := by
  rw [h.eq, List.drop_eq_nil_of_le hl]; rfl
theorem ReadI.none9 {b : List Int} {i : Nat} {u c : Int} (h : ReadI b i u) (hg : b[i]? = some c) (hc : i = 9 ∧ 1 < c) : readG b 0 0 = none := by
  rw [h.eq, drop_get hg, readG, if_pos (.inr hc)]
theorem ReadI.more {b : List Int} {i : Nat} {u c : Int} (h : ReadI b i u) (hg : b[i]? = some c) (hb : isB c) (hc : ¬ (i = 9 ∧ 1 < c)) (h128 : 128 ≤ c) : ReadI b (i + 1) (u + c % 128 * 2 ^ (7 * i)) := by
  have h1 := h.u1; have h0 := h.u0
  have h9 := h.i9
  have hp : (0 : Int) < 2 ^ (7 * i) := Int.pow_pos (by decide)
  have hcp : 0 ≤ c % 128 * 2 ^ (7 * i) := Int.mul_nonneg (by omega) (by omega)
  refine ⟨by omega, (List.getElem?_eq_some_iff.1 hg).1, by omega, ?_, ?_⟩
  · have h3 : c % 128 * 2 ^ (7 * i) ≤ 127 * 2 ^ (7 * i) := Int.mul_le_mul_of_nonneg_right (by omega) (by omega)
    rw [show 7 * (i + 1) = 7 * i + 7 by omega, Int.pow_add, show (2 : Int) ^ 7 = 128 by decide]
    omega
  · rw [h.eq, drop_get hg]
    conv => lhs; unfold readG
    rw [if_neg (by omega), if_pos (by omega)]
theorem ReadI.zero {b : List Int} {i : Nat} {u c : Int} (h : ReadI b i u) (hg : b[i]? = some c) (hc : ¬ (i = 9 ∧ 1 < c)) (h0 : c = 0 ∧ 0 < i) : readG b 0 0 = none := by
  have h9 := h.i9
  rw [h.eq, drop_get hg, readG, if_neg (by omega), if_neg (by omega), if_pos h0]
theorem ReadI.last {b : List Int} {i : Nat} {u c : Int} (h : ReadI b i u) (hg : b[i]? = some c) (hc : ¬ (i = 9 ∧ 1 < c)) (h128 : ¬ 128 ≤ c) (h0 : ¬ (c = 0 ∧ 0 < i)) : readG b 0 0 = some (u + c % 128 * 2 ^ (7 * i), i + 1) := by
  have h9 := h.i9
  rw [h.eq, drop_get hg, readG, if_neg (by omega), if_neg (by omega), if_neg h0]
/-- what the reference's read answers -/
def readR (b : List Int) : Int × Nat := match readF b with
  | none => (0, 0)
  | some x => x
theorem readR_none {b : List Int} (h : readG b 0 0 = none) : readR b = (0, 0) := by unfold readR readF; rw [h]; rfl
theorem readR_some {b : List Int} {u : Int} {k : Nat} (h : readG b 0 0 = some (u, k)) : readR b = (unzig u, k) := by unfold readR readF; rw [h]; rfl
theorem sh7 {i : Nat} (h : i ≤ 9) : IntKind.u64.wrap (7 * IntKind.u64.wrap (i : Int)) = ((7 * i : Nat) : Int) := by rw [u64_wrap, u64_wrap]; omega
theorem sh7min {i : Nat} (h : i ≤ 9) : min (7 * i) IntKind.u64.bits = 7 * i := by show min (7 * i) 64 = _; omega
theorem sh7neg {i : Nat} : ¬ ((7 * i : Nat) : Int) < 0 := by omega
theorem orStep {b : List Int} {i : Nat} {u c : Int} (h : ReadI b i u) (hb : isB c) (hc : ¬ (i = 9 ∧ 1 < c)) : IntKind.u64.wrap (BitVec.ofInt IntKind.u64.bits u ||| BitVec.ofInt IntKind.u64.bits (IntKind.u64.wrap (IntKind.u64.wrap (c.tmod 128) * 2 ^ (7 * i)))).toNat = u + c % 128 * 2 ^ (7 * i) := by
  have hs := h.small hb hc
  have hp : (0 : Int) < 2 ^ (7 * i) := Int.pow_pos (by decide)
  have hcp : 0 ≤ c % 128 * 2 ^ (7 * i) := Int.mul_nonneg (by omega) (by omega)
  have h0 := h.u0
  unfold isB at hb
  have h9 : IntKind.u64.wrap (c.tmod 128) = c % 128 := by rw [tmod_nn hb.1, u64_wrap]; omega
  rw [h9, u64_wrap (_ * _), Int.emod_eq_of_lt hcp (by omega)]
  exact or_add h0 h.u1 (by omega) hs
theorem pos_read {u : Int} (h0 : 0 ≤ u) (h1 : u < 18446744073709551616) (h : ¬ u % 2 = 1) : IntKind.i64.wrap (IntKind.u64.wrap (u.tdiv 2)) = unzig u := by
  rw [tdiv_nn h0, u64_wrap, show u / 2 % 18446744073709551616 = u / 2 by omega, wrap_id (by omega) (by omega)]; unfold unzig; rw [if_neg h]
theorem neg_read {u : Int} (h0 : 0 ≤ u) (h1 : u < 18446744073709551616) (h : u % 2 = 1) : IntKind.i64.wrap (IntKind.i64.wrap (0 - IntKind.i64.wrap (IntKind.u64.wrap (u.tdiv 2))) - 1) = unzig u := by
  rw [tdiv_nn h0, u64_wrap, show u / 2 % 18446744073709551616 = u / 2 by omega, wrap_id (x := u / 2) (by omega) (by omega), wrap_id (x := 0 - _) (by omega) (by omega), wrap_id (by omega) (by omega)]; unfold unzig; rw [if_pos h]; omega
theorem mod2 {u : Int} (h0 : 0 ≤ u) (h1 : u < 18446744073709551616) : u.tmod 2 = u % 2 := tmod_nn h0
/-- function 30 -/
theorem read_spec {S : Nat → Prop} {w : World} {v : Value} {b : List Int} (hl : rBytes.rd S w [v] b) (hb8 : ∀ x, x ∈ b → isB x) : Gives Try.prog 30 #[v] w fun r _ => r = .tuple #[.int .i64 (readR b).1, .int .i64 (readR b).2] := by
  obtain ⟨p, c, rfl, hc1, hc2⟩ := Rp.slice_val hl
  have hl : (Rp.slice rByte).rd (fun _ => True) w _ b := Rp.any hl
  refine gives_of [.val (.slice p b.length c)] 66 [.tmp 2, .tmp 3] Try.func30 rfl rfl rfl (by simp) rfl rfl ?_
  refine W.pure (ds := []) rfl fun K1 hK1 => ?_
  simp only [sx, ty, Bool.false_eq_true, Int.reduceEq, Int.reduceLT, Nat.reduceAdd, Nat.reduceSub, Nat.reduceMul, Nat.reduceLT, Nat.reduceLeDiff, Nat.reduceEqDiff, List.reduceReplicate, reduceIte, beq_self_eq_true, bne_self_eq_false, Int.reduceBEq, Int.reduceBNe, Bool.or_false, Bool.false_or, Bool.not_false, Bool.not_true, mbits, Int.reduceToNat, Int.reducePow, Int.toNat_natCast]; with_reducible refine hK1 _ ?_; clear hK1
  refine W.pure (ds := []) rfl fun K2 hK2 => ?_
  simp only [sx, ty, Bool.false_eq_true, Int.reduceEq, Int.reduceLT, Nat.reduceAdd, Nat.reduceSub, Nat.reduceMul, Nat.reduceLT, Nat.reduceLeDiff, Nat.reduceEqDiff, List.reduceReplicate, reduceIte, beq_self_eq_true, bne_self_eq_false, Int.reduceBEq, Int.reduceBNe, Bool.or_false, Bool.false_or, Bool.not_false, Bool.not_true, mbits, Int.reduceToNat, Int.reducePow, Int.toNat_natCast]; with_reducible refine hK2 _ ?_; clear hK2
  refine W.seqK fun K3 hK3 => ?_
  refine W.pure (ds := []) rfl fun K4 hK4 => ?_
  simp only [sx, ty, Bool.false_eq_true, Int.reduceEq, Int.reduceLT, Nat.reduceAdd, Nat.reduceSub, Nat.reduceMul, Nat.reduceLT, Nat.reduceLeDiff, Nat.reduceEqDiff, List.reduceReplicate, reduceIte, beq_self_eq_true, bne_self_eq_false, Int.reduceBEq, Int.reduceBNe, Bool.or_false, Bool.false_or, Bool.not_false, Bool.not_true, mbits, Int.reduceToNat, Int.reducePow, Int.toNat_natCast]; with_reducible refine hK4 _ ?_; clear hK4
  refine W.block ?_
  refine W.loopK (X := Nat × Int) [0] (fun x => [(4, .val (.int .u64 x.2)), (5, .val (.int .i64 x.1))]) (fun x => ReadI b x.1 x.2) (fun x => b.length - x.1) (0, 0) ?_ ?_ ?_
  · exact ⟨rfl, by simp [getE, bnd, keepE], ⟨[], by simp⟩, by simp [Own.bnd, bndL, bnd, boxO], by simp⟩
  · skip
    exact ReadI.start b
  · rintro ⟨i, u⟩ hI
    simp only at hI
    have hi9 := hI.i9
    simp only [sx, ty, Bool.false_eq_true, Int.reduceEq, Int.reduceLT, Nat.reduceAdd, Nat.reduceSub, Nat.reduceMul, Nat.reduceLT, Nat.reduceLeDiff, Nat.reduceEqDiff, List.reduceReplicate, reduceIte, sxk, beq_self_eq_true, bne_self_eq_false, Int.reduceBEq, Int.reduceBNe, Bool.or_false, Bool.false_or, Bool.not_false, Bool.not_true, mbits, Int.reduceToNat, Int.reducePow, Int.toNat_natCast]
    refine W.seqK fun K5 hK5 => ?_
    refine W.join 13 (.val (.bool (decide (i < b.length)))) [0, 4, 5] (W.region ?_) ?_
    · skip
      refine WO.go 5 (ds := [some 6, some 7, some 8, some 9, some 10, some 11, some 12, some 13]) rfl ?_
      simp only [sx, ty, Bool.false_eq_true, Int.reduceEq, Int.reduceLT, Nat.reduceAdd, Nat.reduceSub, Nat.reduceMul, Nat.reduceLT, Nat.reduceLeDiff, Nat.reduceEqDiff, List.reduceReplicate, reduceIte, beq_self_eq_true, bne_self_eq_false, Int.reduceBEq, Int.reduceBNe, Bool.or_false, Bool.false_or, Bool.not_false, Bool.not_true, mbits, Int.reduceToNat, Int.reducePow, Int.toNat_natCast]
      refine WO.cases 10 _ rfl (fun hg10 => ?_) (fun hg10 => ?_)
      · skip
        refine WO.go 3 (ds := [some 6, some 7, some 8, some 9, some 10, some 11, some 12, some 13]) rfl ?_
        simp only [sx, ty, Bool.false_eq_true, Int.reduceEq, Int.reduceLT, Nat.reduceAdd, Nat.reduceSub, Nat.reduceMul, Nat.reduceLT, Nat.reduceLeDiff, Nat.reduceEqDiff, List.reduceReplicate, reduceIte, beq_self_eq_true, bne_self_eq_false, Int.reduceBEq, Int.reduceBNe, Bool.or_false, Bool.false_or, Bool.not_false, Bool.not_true, mbits, Int.reduceToNat, Int.reducePow, Int.toNat_natCast]
        with_reducible refine WO.nil ?_
        refine ⟨rfl, ?_, ⟨_, rfl⟩, by simp [Own.bnd, bndL, bnd, boxO], by simp⟩
        try rw [hg10]
        simp [getE, bnd, keepE]
        try (simp at hg10; omega)
      · skip
        refine WO.go 3 (ds := [some 6, some 7, some 8, some 9, some 10, some 11, some 12, some 13]) rfl ?_
        simp only [sx, ty, Bool.false_eq_true, Int.reduceEq, Int.reduceLT, Nat.reduceAdd, Nat.reduceSub, Nat.reduceMul, Nat.reduceLT, Nat.reduceLeDiff, Nat.reduceEqDiff, List.reduceReplicate, reduceIte, beq_self_eq_true, bne_self_eq_false, Int.reduceBEq, Int.reduceBNe, Bool.or_false, Bool.false_or, Bool.not_false, Bool.not_true, mbits, Int.reduceToNat, Int.reducePow, Int.toNat_natCast]
        with_reducible refine WO.nil ?_
        refine ⟨rfl, ?_, ⟨_, rfl⟩, by simp [Own.bnd, bndL, bnd, boxO], by simp⟩
        try rw [hg10]
        simp [getE, bnd, keepE]
        try (simp at hg10; omega)
    · simp only [sx, ty, Bool.false_eq_true, Int.reduceEq, Int.reduceLT, Nat.reduceAdd, Nat.reduceSub, Nat.reduceMul, Nat.reduceLT, Nat.reduceLeDiff, Nat.reduceEqDiff, List.reduceReplicate, reduceIte, sxk, beq_self_eq_true, bne_self_eq_false, Int.reduceBEq, Int.reduceBNe, Bool.or_false, Bool.false_or, Bool.not_false, Bool.not_true, mbits, Int.reduceToNat, Int.reducePow, Int.toNat_natCast]
      refine W.cond rfl rfl (fun hc => ?_) (fun hc => ?_)
      · skip
        have hlt : i < b.length := by simpa using hc
        obtain ⟨c, hget⟩ : ∃ c, b[i]? = some c := ⟨_, List.getElem?_eq_getElem hlt⟩
        have hcb : isB c := hb8 c (List.mem_of_getElem? hget)
        refine W.skip (hK5 _ ?_)
        refine W.seqK fun K7 hK7 => ?_
        refine W.block ?_
        refine W.seqK fun K8 hK8 => ?_
        refine W.join 24 (.val (.bool (decide (i = 9 ∧ 1 < c)))) [0, 4, 5] (W.region ?_) ?_
        · skip
          refine WO.go 3 (ds := [some 16, some 17, some 18, some 19, some 20, some 21, some 22, some 23, some 24]) rfl ?_
          simp only [sx, ty, Bool.false_eq_true, Int.reduceEq, Int.reduceLT, Nat.reduceAdd, Nat.reduceSub, Nat.reduceMul, Nat.reduceLT, Nat.reduceLeDiff, Nat.reduceEqDiff, List.reduceReplicate, reduceIte, beq_self_eq_true, bne_self_eq_false, Int.reduceBEq, Int.reduceBNe, Bool.or_false, Bool.false_or, Bool.not_false, Bool.not_true, mbits, Int.reduceToNat, Int.reducePow, Int.toNat_natCast]
          refine WO.cases 18 _ rfl (fun hg18 => ?_) (fun hg18 => ?_)
          · skip
            refine WO.go 2 (ds := [some 16, some 17, some 18, some 19, some 20, some 21, some 22, some 23, some 24]) rfl ?_
            simp only [sx, ty, Bool.false_eq_true, Int.reduceEq, Int.reduceLT, Nat.reduceAdd, Nat.reduceSub, Nat.reduceMul, Nat.reduceLT, Nat.reduceLeDiff, Nat.reduceEqDiff, List.reduceReplicate, reduceIte, beq_self_eq_true, bne_self_eq_false, Int.reduceBEq, Int.reduceBNe, Bool.or_false, Bool.false_or, Bool.not_false, Bool.not_true, mbits, Int.reduceToNat, Int.reducePow, Int.toNat_natCast]
            refine WO.elem (y := c) hl (by simp [St.put]) (ds := [some 16, some 17, some 18, some 19, some 20, some 21, some 22, some 23, some 24]) rfl rfl rfl (by simp [St.put]) (fun _ => rfl) rfl rfl rfl rfl rfl el23 agg5 sz5 (.inr rfl) (by omega) (hget) fun p ces hces => ?_
            obtain rfl := rByte_open hces
            clear hces
            refine WO.go 2 (ds := [some 16, some 17, some 18, some 19, some 20, some 21, some 22, some 23, some 24]) rfl ?_
            simp only [sx, ty, Bool.false_eq_true, Int.reduceEq, Int.reduceLT, Nat.reduceAdd, Nat.reduceSub, Nat.reduceMul, Nat.reduceLT, Nat.reduceLeDiff, Nat.reduceEqDiff, List.reduceReplicate, reduceIte, beq_self_eq_true, bne_self_eq_false, Int.reduceBEq, Int.reduceBNe, Bool.or_false, Bool.false_or, Bool.not_false, Bool.not_true, mbits, Int.reduceToNat, Int.reducePow, Int.toNat_natCast]
            with_reducible refine WO.nil ?_
            refine ⟨rfl, ?_, ⟨_, rfl⟩, by simp [Own.bnd, bndL, bnd, boxO], by simp⟩
            try rw [hg18]
            simp [getE, bnd, keepE]
            try (simp at hg18; omega)
          · skip
            refine WO.go 6 (ds := [some 16, some 17, some 18, some 19, some 20, some 21, some 22, some 23, some 24]) rfl ?_
            simp only [sx, ty, Bool.false_eq_true, Int.reduceEq, Int.reduceLT, Nat.reduceAdd, Nat.reduceSub, Nat.reduceMul, Nat.reduceLT, Nat.reduceLeDiff, Nat.reduceEqDiff, List.reduceReplicate, reduceIte, beq_self_eq_true, bne_self_eq_false, Int.reduceBEq, Int.reduceBNe, Bool.or_false, Bool.false_or, Bool.not_false, Bool.not_true, mbits, Int.reduceToNat, Int.reducePow, Int.toNat_natCast]
            with_reducible refine WO.nil ?_
            refine ⟨rfl, ?_, ⟨_, rfl⟩, by simp [Own.bnd, bndL, bnd, boxO], by simp⟩
            try rw [hg18]
            simp [getE, bnd, keepE]
            try (simp at hg18; omega)
        · simp only [sx, ty, Bool.false_eq_true, Int.reduceEq, Int.reduceLT, Nat.reduceAdd, Nat.reduceSub, Nat.reduceMul, Nat.reduceLT, Nat.reduceLeDiff, Nat.reduceEqDiff, List.reduceReplicate, reduceIte, sxk, beq_self_eq_true, bne_self_eq_false, Int.reduceBEq, Int.reduceBNe, Bool.or_false, Bool.false_or, Bool.not_false, Bool.not_true, mbits, Int.reduceToNat, Int.reducePow, Int.toNat_natCast]
          refine W.cond rfl rfl (fun hc => ?_) (fun hc => ?_)
          · skip
            have h9 : i = 9 ∧ 1 < c := by simpa using hc
            refine W.pure (ds := []) rfl fun K10 hK10 => ?_
            simp only [sx, ty, Bool.false_eq_true, Int.reduceEq, Int.reduceLT, Nat.reduceAdd, Nat.reduceSub, Nat.reduceMul, Nat.reduceLT, Nat.reduceLeDiff, Nat.reduceEqDiff, List.reduceReplicate, reduceIte, beq_self_eq_true, bne_self_eq_false, Int.reduceBEq, Int.reduceBNe, Bool.or_false, Bool.false_or, Bool.not_false, Bool.not_true, mbits, Int.reduceToNat, Int.reducePow, Int.toNat_natCast]; with_reducible refine hK10 _ ?_; clear hK10
            refine W.ret ⟨by simp, _, rfl, fun ρ w1 hb => ?_⟩
            simp only [den, denL]
            rw [readR_none (hI.none9 hget h9)]
            rfl
          · skip
            have h9 : ¬ (i = 9 ∧ 1 < c) := by simpa using hc
            have hor := orStep hI hcb h9
            have hv0 : 0 ≤ u + c % 128 * 2 ^ (7 * i) := by
              have := hI.u0
              have hp : (0 : Int) < 2 ^ (7 * i) := Int.pow_pos (by decide)
              have hcp : 0 ≤ c % 128 * 2 ^ (7 * i) := Int.mul_nonneg (by omega) (by omega)
              omega
            have hv1 := hI.small hcb h9
            refine W.skip (hK8 _ ?_)
            refine W.seqK fun K11 hK11 => W.region ?_
            refine WO.go 3 (ds := []) rfl ?_
            simp only [sx, ty, Bool.false_eq_true, Int.reduceEq, Int.reduceLT, Nat.reduceAdd, Nat.reduceSub, Nat.reduceMul, Nat.reduceLT, Nat.reduceLeDiff, Nat.reduceEqDiff, List.reduceReplicate, reduceIte, beq_self_eq_true, bne_self_eq_false, Int.reduceBEq, Int.reduceBNe, Bool.or_false, Bool.false_or, Bool.not_false, Bool.not_true, mbits, Int.reduceToNat, Int.reducePow, Int.toNat_natCast, hor]
            refine WO.elem (y := c) hl (by simp [St.put]) (ds := []) rfl rfl rfl (by simp [St.put]) (fun _ => rfl) rfl rfl rfl rfl rfl el23 agg5 sz5 (.inr rfl) (by omega) (hget) fun p ces hces => ?_
            obtain rfl := rByte_open hces
            clear hces
            refine WO.go 5 (ds := []) rfl ?_
            simp only [sx, ty, Bool.false_eq_true, Int.reduceEq, Int.reduceLT, Nat.reduceAdd, Nat.reduceSub, Nat.reduceMul, Nat.reduceLT, Nat.reduceLeDiff, Nat.reduceEqDiff, List.reduceReplicate, reduceIte, beq_self_eq_true, bne_self_eq_false, Int.reduceBEq, Int.reduceBNe, Bool.or_false, Bool.false_or, Bool.not_false, Bool.not_true, mbits, Int.reduceToNat, Int.reducePow, Int.toNat_natCast, hor]
            refine WO.go 1 (ds := []) rfl ?_
            simp only [sx, ty, Bool.false_eq_true, Int.reduceEq, Int.reduceLT, Nat.reduceAdd, Nat.reduceSub, Nat.reduceMul, Nat.reduceLT, Nat.reduceLeDiff, Nat.reduceEqDiff, List.reduceReplicate, reduceIte, beq_self_eq_true, bne_self_eq_false, Int.reduceBEq, Int.reduceBNe, Bool.or_false, Bool.false_or, Bool.not_false, Bool.not_true, mbits, Int.reduceToNat, Int.reducePow, Int.toNat_natCast, hor, sh7 hi9, sh7neg, sh7min hi9, Int.toNat_natCast, hor]
            refine WO.go 2 (ds := []) rfl ?_
            simp only [sx, ty, Bool.false_eq_true, Int.reduceEq, Int.reduceLT, Nat.reduceAdd, Nat.reduceSub, Nat.reduceMul, Nat.reduceLT, Nat.reduceLeDiff, Nat.reduceEqDiff, List.reduceReplicate, reduceIte, beq_self_eq_true, bne_self_eq_false, Int.reduceBEq, Int.reduceBNe, Bool.or_false, Bool.false_or, Bool.not_false, Bool.not_true, mbits, Int.reduceToNat, Int.reducePow, Int.toNat_natCast, hor]
            with_reducible refine WO.nil ?_
            refine hK11 _ ?_; clear hK11
            refine W.seqK fun K12 hK12 => ?_
            refine W.seqK fun K13 hK13 => W.region ?_
            refine WO.go 2 (ds := []) rfl ?_
            simp only [sx, ty, Bool.false_eq_true, Int.reduceEq, Int.reduceLT, Nat.reduceAdd, Nat.reduceSub, Nat.reduceMul, Nat.reduceLT, Nat.reduceLeDiff, Nat.reduceEqDiff, List.reduceReplicate, reduceIte, beq_self_eq_true, bne_self_eq_false, Int.reduceBEq, Int.reduceBNe, Bool.or_false, Bool.false_or, Bool.not_false, Bool.not_true, mbits, Int.reduceToNat, Int.reducePow, Int.toNat_natCast, hor]
            refine WO.elem (y := c) hl (by simp [St.put]) (ds := []) rfl rfl rfl (by simp [St.put]) (fun _ => rfl) rfl rfl rfl rfl rfl el23 agg5 sz5 (.inr rfl) (by omega) (hget) fun p ces hces => ?_
            obtain rfl := rByte_open hces
            clear hces
            refine WO.go 1 (ds := []) rfl ?_
            simp only [sx, ty, Bool.false_eq_true, Int.reduceEq, Int.reduceLT, Nat.reduceAdd, Nat.reduceSub, Nat.reduceMul, Nat.reduceLT, Nat.reduceLeDiff, Nat.reduceEqDiff, List.reduceReplicate, reduceIte, beq_self_eq_true, bne_self_eq_false, Int.reduceBEq, Int.reduceBNe, Bool.or_false, Bool.false_or, Bool.not_false, Bool.not_true, mbits, Int.reduceToNat, Int.reducePow, Int.toNat_natCast, hor]
            with_reducible refine WO.nil ?_
            refine hK13 _ ?_; clear hK13
            refine W.cond rfl rfl (fun hc => ?_) (fun hc => ?_)
            · skip
              have h128 : 128 ≤ c := by simpa using hc
              refine W.exit (hK7 _ ?_)
              refine W.region ?_
              refine WO.go 3 (ds := []) rfl ?_
              simp only [sx, ty, Bool.false_eq_true, Int.reduceEq, Int.reduceLT, Nat.reduceAdd, Nat.reduceSub, Nat.reduceMul, Nat.reduceLT, Nat.reduceLeDiff, Nat.reduceEqDiff, List.reduceReplicate, reduceIte, beq_self_eq_true, bne_self_eq_false, Int.reduceBEq, Int.reduceBNe, Bool.or_false, Bool.false_or, Bool.not_false, Bool.not_true, mbits, Int.reduceToNat, Int.reducePow, Int.toNat_natCast, hor]
              with_reducible refine WO.nil ?_
              refine ⟨(i + 1, u + c % 128 * 2 ^ (7 * i)), ?_, by first | omega | (simp; omega), rfl, by simp [getE, bnd, keepE, wrap_succ (show i + 1 ≤ 9223372036854775807 by omega)], ⟨_, rfl⟩, by simp [Own.bnd, bndL, bnd, boxO], by simp⟩
              exact hI.more hget hcb h9 h128
            · skip
              have h128 : ¬ 128 ≤ c := by simpa using hc
              refine W.skip (hK12 _ ?_)
              refine W.seqK fun K14 hK14 => ?_
              refine W.join 50 (.val (.bool (decide (c = 0 ∧ 0 < i)))) [4, 5] (W.region ?_) ?_
              · skip
                refine WO.go 3 (ds := [some 42, some 43, some 44, some 45, some 46, some 47, some 48, some 49, some 50]) rfl ?_
                simp only [sx, ty, Bool.false_eq_true, Int.reduceEq, Int.reduceLT, Nat.reduceAdd, Nat.reduceSub, Nat.reduceMul, Nat.reduceLT, Nat.reduceLeDiff, Nat.reduceEqDiff, List.reduceReplicate, reduceIte, beq_self_eq_true, bne_self_eq_false, Int.reduceBEq, Int.reduceBNe, Bool.or_false, Bool.false_or, Bool.not_false, Bool.not_true, mbits, Int.reduceToNat, Int.reducePow, Int.toNat_natCast, hor]
                refine WO.cases 44 _ rfl (fun hg44 => ?_) (fun hg44 => ?_)
                · skip
                  refine WO.go 2 (ds := [some 42, some 43, some 44, some 45, some 46, some 47, some 48, some 49, some 50]) rfl ?_
                  simp only [sx, ty, Bool.false_eq_true, Int.reduceEq, Int.reduceLT, Nat.reduceAdd, Nat.reduceSub, Nat.reduceMul, Nat.reduceLT, Nat.reduceLeDiff, Nat.reduceEqDiff, List.reduceReplicate, reduceIte, beq_self_eq_true, bne_self_eq_false, Int.reduceBEq, Int.reduceBNe, Bool.or_false, Bool.false_or, Bool.not_false, Bool.not_true, mbits, Int.reduceToNat, Int.reducePow, Int.toNat_natCast, hor]
                  refine WO.elem (y := c) hl (by simp [St.put]) (ds := [some 42, some 43, some 44, some 45, some 46, some 47, some 48, some 49, some 50]) rfl rfl rfl (by simp [St.put]) (fun _ => rfl) rfl rfl rfl rfl rfl el23 agg5 sz5 (.inr rfl) (by omega) (hget) fun p ces hces => ?_
                  obtain rfl := rByte_open hces
                  clear hces
                  refine WO.go 2 (ds := [some 42, some 43, some 44, some 45, some 46, some 47, some 48, some 49, some 50]) rfl ?_
                  simp only [sx, ty, Bool.false_eq_true, Int.reduceEq, Int.reduceLT, Nat.reduceAdd, Nat.reduceSub, Nat.reduceMul, Nat.reduceLT, Nat.reduceLeDiff, Nat.reduceEqDiff, List.reduceReplicate, reduceIte, beq_self_eq_true, bne_self_eq_false, Int.reduceBEq, Int.reduceBNe, Bool.or_false, Bool.false_or, Bool.not_false, Bool.not_true, mbits, Int.reduceToNat, Int.reducePow, Int.toNat_natCast, hor]
                  with_reducible refine WO.nil ?_
                  refine ⟨rfl, ?_, ⟨_, rfl⟩, by simp [Own.bnd, bndL, bnd, boxO], by simp⟩
                  try rw [hg44]
                  simp [getE, bnd, keepE]
                  try (have h4 : 0 < i := by simpa using hg44)
                  try simp [h4]
                  try rfl
                  try (simp at hg44; intro; omega)
                · skip
                  refine WO.go 6 (ds := [some 42, some 43, some 44, some 45, some 46, some 47, some 48, some 49, some 50]) rfl ?_
                  simp only [sx, ty, Bool.false_eq_true, Int.reduceEq, Int.reduceLT, Nat.reduceAdd, Nat.reduceSub, Nat.reduceMul, Nat.reduceLT, Nat.reduceLeDiff, Nat.reduceEqDiff, List.reduceReplicate, reduceIte, beq_self_eq_true, bne_self_eq_false, Int.reduceBEq, Int.reduceBNe, Bool.or_false, Bool.false_or, Bool.not_false, Bool.not_true, mbits, Int.reduceToNat, Int.reducePow, Int.toNat_natCast, hor]
                  with_reducible refine WO.nil ?_
                  refine ⟨rfl, ?_, ⟨_, rfl⟩, by simp [Own.bnd, bndL, bnd, boxO], by simp⟩
                  try rw [hg44]
                  simp [getE, bnd, keepE]
                  try (have h4 : 0 < i := by simpa using hg44)
                  try simp [h4]
                  try rfl
                  try (simp at hg44; intro; omega)
              · simp only [sx, ty, Bool.false_eq_true, Int.reduceEq, Int.reduceLT, Nat.reduceAdd, Nat.reduceSub, Nat.reduceMul, Nat.reduceLT, Nat.reduceLeDiff, Nat.reduceEqDiff, List.reduceReplicate, reduceIte, sxk, beq_self_eq_true, bne_self_eq_false, Int.reduceBEq, Int.reduceBNe, Bool.or_false, Bool.false_or, Bool.not_false, Bool.not_true, mbits, Int.reduceToNat, Int.reducePow, Int.toNat_natCast, hor]
                refine W.cond rfl rfl (fun hc => ?_) (fun hc => ?_)
                · skip
                  have h0 : c = 0 ∧ 0 < i := by simpa using hc
                  refine W.pure (ds := []) rfl fun K16 hK16 => ?_
                  simp only [sx, ty, Bool.false_eq_true, Int.reduceEq, Int.reduceLT, Nat.reduceAdd, Nat.reduceSub, Nat.reduceMul, Nat.reduceLT, Nat.reduceLeDiff, Nat.reduceEqDiff, List.reduceReplicate, reduceIte, beq_self_eq_true, bne_self_eq_false, Int.reduceBEq, Int.reduceBNe, Bool.or_false, Bool.false_or, Bool.not_false, Bool.not_true, mbits, Int.reduceToNat, Int.reducePow, Int.toNat_natCast, hor]; with_reducible refine hK16 _ ?_; clear hK16
                  refine W.ret ⟨by simp, _, rfl, fun ρ w1 hb => ?_⟩
                  simp only [den, denL]
                  rw [readR_none (hI.zero hget h9 h0)]
                  rfl
                · skip
                  have h0 : ¬ (c = 0 ∧ 0 < i) := by simpa using hc
                  have hrd := readR_some (hI.last hget h9 h128 h0)
                  refine W.skip (hK14 _ ?_)
                  refine W.seqK fun K17 hK17 => ?_
                  refine W.pure (ds := []) rfl fun K18 hK18 => ?_
                  simp only [sx, ty, Bool.false_eq_true, Int.reduceEq, Int.reduceLT, Nat.reduceAdd, Nat.reduceSub, Nat.reduceMul, Nat.reduceLT, Nat.reduceLeDiff, Nat.reduceEqDiff, List.reduceReplicate, reduceIte, beq_self_eq_true, bne_self_eq_false, Int.reduceBEq, Int.reduceBNe, Bool.or_false, Bool.false_or, Bool.not_false, Bool.not_true, mbits, Int.reduceToNat, Int.reducePow, Int.toNat_natCast, hor]; with_reducible refine hK18 _ ?_; clear hK18
                  refine W.cond rfl rfl (fun hc => ?_) (fun hc => ?_)
                  · skip
                    have hodd : (u + c % 128 * 2 ^ (7 * i)) % 2 = 1 := by rw [← mod2 hv0 hv1]; simpa using hc
                    refine W.pure (ds := []) rfl fun K19 hK19 => ?_
                    simp only [sx, ty, Bool.false_eq_true, Int.reduceEq, Int.reduceLT, Nat.reduceAdd, Nat.reduceSub, Nat.reduceMul, Nat.reduceLT, Nat.reduceLeDiff, Nat.reduceEqDiff, List.reduceReplicate, reduceIte, beq_self_eq_true, bne_self_eq_false, Int.reduceBEq, Int.reduceBNe, Bool.or_false, Bool.false_or, Bool.not_false, Bool.not_true, mbits, Int.reduceToNat, Int.reducePow, Int.toNat_natCast, hor]; with_reducible refine hK19 _ ?_; clear hK19
                    refine W.ret ⟨by simp, _, rfl, fun ρ w1 hb => ?_⟩
                    simp only [den, denL]
                    rw [hrd, neg_read hv0 hv1 hodd, wrap_succ (by omega)]
                  · skip
                    have hodd : ¬ (u + c % 128 * 2 ^ (7 * i)) % 2 = 1 := by rw [← mod2 hv0 hv1]; simpa using hc
                    refine W.skip (hK17 _ ?_)
                    refine W.pure (ds := []) rfl fun K20 hK20 => ?_
                    simp only [sx, ty, Bool.false_eq_true, Int.reduceEq, Int.reduceLT, Nat.reduceAdd, Nat.reduceSub, Nat.reduceMul, Nat.reduceLT, Nat.reduceLeDiff, Nat.reduceEqDiff, List.reduceReplicate, reduceIte, beq_self_eq_true, bne_self_eq_false, Int.reduceBEq, Int.reduceBNe, Bool.or_false, Bool.false_or, Bool.not_false, Bool.not_true, mbits, Int.reduceToNat, Int.reducePow, Int.toNat_natCast, hor]; with_reducible refine hK20 _ ?_; clear hK20
                    refine W.ret ⟨by simp, _, rfl, fun ρ w1 hb => ?_⟩
                    simp only [den, denL]
                    rw [hrd, pos_read hv0 hv1 hodd, wrap_succ (by omega)]
      · skip
        have hge : b.length ≤ i := by simpa using hc
        refine W.exit (hK3 _ ?_)
        refine W.pure (ds := []) rfl fun K21 hK21 => ?_
        simp only [sx, ty, Bool.false_eq_true, Int.reduceEq, Int.reduceLT, Nat.reduceAdd, Nat.reduceSub, Nat.reduceMul, Nat.reduceLT, Nat.reduceLeDiff, Nat.reduceEqDiff, List.reduceReplicate, reduceIte, beq_self_eq_true, bne_self_eq_false, Int.reduceBEq, Int.reduceBNe, Bool.or_false, Bool.false_or, Bool.not_false, Bool.not_true, mbits, Int.reduceToNat, Int.reducePow, Int.toNat_natCast]; with_reducible refine hK21 _ ?_; clear hK21
        refine W.ret ⟨by simp, _, rfl, fun ρ w1 hb => ?_⟩
        simp only [den, denL]
        rw [readR_none (hI.none0 hge)]
        rfl

theorem readG_len : ∀ (b : List Int) (i : Nat) (u : Int) {v : Int} {k : Nat}, readG b i u = some (v, k) → i < k ∧ k ≤ i + b.length
  | [], _, _, _, _, h => by cases h
  | c :: b, i, u, v, k, h => by
    unfold readG at h
    split at h
    · cases h
    · split at h
      · have := readG_len b _ _ h
        simp only [List.length_cons]; omega
      · split at h
        · cases h
        · simp only [Option.some.injEq, Prod.mk.injEq] at h
          simp only [List.length_cons]; omega
theorem readF_len {b : List Int} {v : Int} {k : Nat} (h : readF b = some (v, k)) : 0 < k ∧ k ≤ b.length := by
  unfold readF at h
  cases hr : readG b 0 0 with
  | none => rw [hr] at h; cases h
  | some x =>
    rw [hr] at h
    simp only [Option.map_some, Option.some.injEq, Prod.mk.injEq] at h
    have := readG_len b 0 0 (v := x.1) (k := x.2) hr
    omega
theorem readG_lt : ∀ (b : List Int) (i : Nat) (u : Int) {v : Int} {k : Nat}, (∀ x, x ∈ b → isB x) → 0 ≤ u → u < 2 ^ (7 * i) → readG b i u = some (v, k) → 0 ≤ v ∧ v < 18446744073709551616
  | [], _, _, _, _, _, _, _, h => by cases h
  | c :: b, i, u, v, k, hb, h0, h1, h => by
    unfold readG at h
    split at h
    · cases h
    · rename_i h9
      have hi9 : i ≤ 9 := by omega
      have hI : ReadI (List.replicate i 0 ++ c :: b) i u → 0 ≤ v ∧ v < 18446744073709551616 → 0 ≤ v ∧ v < 18446744073709551616 := fun _ h => h
      have hc := hb c List.mem_cons_self
      have hp : (0 : Int) < 2 ^ (7 * i) := Int.pow_pos (by decide)
      unfold isB at hc
      have hcp : 0 ≤ c % 128 * 2 ^ (7 * i) := Int.mul_nonneg (by omega) (by omega)
      have h3 : c % 128 * 2 ^ (7 * i) ≤ 127 * 2 ^ (7 * i) := Int.mul_le_mul_of_nonneg_right (by omega) (by omega)
      split at h
      · refine readG_lt b (i + 1) _ (fun x hx => hb x (List.mem_cons_of_mem _ hx)) (by omega) ?_ h
        rw [show 7 * (i + 1) = 7 * i + 7 by omega, Int.pow_add, show (2 : Int) ^ 7 = 128 by decide]
        omega
      · split at h
        · cases h
        · simp only [Option.some.injEq, Prod.mk.injEq] at h
          rcases Nat.lt_or_ge i 9 with h8 | h8
          · have h2 := pow7' (i := i) (by omega)
            omega
          · obtain rfl : i = 9 := by omega
            have h2 : c % 128 ≤ 1 := by omega
            have h3 : c % 128 * 2 ^ (7 * 9) ≤ 1 * 2 ^ (7 * 9) := Int.mul_le_mul_of_nonneg_right h2 (by omega)
            have h4 : (2 : Int) ^ (7 * 9) = 9223372036854775808 := by decide
            omega
theorem readF_isI {b : List Int} {v : Int} {k : Nat} (hb : ∀ x, x ∈ b → isB x) (h : readF b = some (v, k)) : isI v := by
  unfold readF at h
  cases hr : readG b 0 0 with
  | none => rw [hr] at h; cases h
  | some x =>
    rw [hr] at h
    simp only [Option.map_some, Option.some.injEq, Prod.mk.injEq] at h
    have := readG_lt b 0 0 (v := x.1) (k := x.2) hb (by omega) (by decide) hr
    rw [← h.1]; exact unzig_isI this.1 this.2
theorem readR_cases (b : List Int) : (readF b = none ∧ readR b = (0, 0)) ∨ (readF b = some (readR b) ∧ 0 < (readR b).2 ∧ (readR b).2 ≤ b.length) := by
  unfold readR
  cases h : readF b with
  | none => exact .inl ⟨rfl, rfl⟩
  | some x => exact .inr ⟨rfl, readF_len (v := x.1) (k := x.2) h⟩
theorem GetF_bad {b : List Int} {n : Int} {k : Nat} (h : readR b = (n, k)) (hc : k = 0 ∨ n < 0 ∨ 4000 < n) : GetF b = ([], 7) := by
  unfold GetF getF
  rcases readR_cases b with ⟨h1, h2⟩ | ⟨h1, h2, h3⟩
  · rw [h1]
  · rw [h1, h] at *
    have h4 : n < 0 ∨ 4000 < n := by simp at h2; omega
    simp only [if_pos h4]
/-- what is read so far, and what is to come -/
structure GetI (b : List Int) (N : Nat) (i at' : Nat) (l : List Int) : Prop where
  il : i ≤ N
  al : at' ≤ b.length
  ll : l.length = i
  ok : ∀ x, x ∈ l → isI x
  eq : getF b = match (getN (N - i) (b.drop at')).map fun x => (l ++ x.1, x.2) with
    | some (l, []) => some l
    | _ => none
theorem GetI.start {b : List Int} {n : Int} {k : Nat} (h : readR b = (n, k)) (hc : ¬ (k = 0 ∨ n < 0 ∨ 4000 < n)) : GetI b n.toNat 0 k [] := by
  rcases readR_cases b with ⟨h1, h2⟩ | ⟨h1, h2, h3⟩
  · rw [h] at h2; simp at h2; omega
  · rw [h] at h1 h2 h3
    refine ⟨by omega, h3, rfl, fun x hx => (by cases hx), ?_⟩
    unfold getF
    rw [h1]
    simp only [if_neg (show ¬ (n < 0 ∨ 4000 < n) by omega), Nat.sub_zero]
    cases getN n.toNat (b.drop k) with
    | none => rfl
    | some x => obtain ⟨x, y⟩ := x; cases y <;> rfl
theorem GetI.none {b : List Int} {N i a : Nat} {l : List Int} (h : GetI b N i a l) (hi : i < N) (hr : (readR (b.drop a)).2 = 0) : GetF b = ([], 7) := by
  rcases readR_cases (b.drop a) with ⟨h1, h2⟩ | ⟨h1, h2, h3⟩
  · unfold GetF
    rw [h.eq, show N - i = (N - i - 1) + 1 by omega, getN, h1]; rfl
  · omega
theorem GetI.more {b : List Int} {N i a : Nat} {l : List Int} (hb : ∀ x, x ∈ b → isB x) (h : GetI b N i a l) (hi : i < N) (hr : ¬ (readR (b.drop a)).2 = 0) : GetI b N (i + 1) (a + (readR (b.drop a)).2) (l ++ [(readR (b.drop a)).1]) := by
  rcases readR_cases (b.drop a) with ⟨h1, h2⟩ | ⟨h1, h2, h3⟩
  · rw [h2] at hr; exact absurd rfl hr
  · have hal := h.al
    refine ⟨by omega, by simp at h3; omega, by simp [h.ll], fun x hx => ?_, ?_⟩
    · rcases List.mem_append.1 hx with hx | hx
      · exact h.ok x hx
      · simp only [List.mem_singleton] at hx
        subst hx
        exact readF_isI (b := b.drop a) (k := (readR (b.drop a)).2) (fun x hx => hb x (List.mem_of_mem_drop hx)) h1
    · rw [h.eq, show N - i = (N - (i + 1)) + 1 by omega, getN, h1]
      simp only [List.drop_drop]
      cases getN (N - (i + 1)) (b.drop (a + (readR (b.drop a)).2)) with
      | none => rfl
      | some x => simp
theorem GetI.tail {b : List Int} {N a : Nat} {l : List Int} (h : GetI b N N a l) (hr : a ≠ b.length) : GetF b = ([], 7) := by
  unfold GetF
  rw [h.eq, Nat.sub_self]
  have hal := h.al
  cases hd : b.drop a with
  | nil => rw [List.drop_eq_nil_iff] at hd; omega
  | cons x y => rfl
theorem GetI.done {b : List Int} {N a : Nat} {l : List Int} (h : GetI b N N a l) (hr : a = b.length) : GetF b = (l, 0) := by
  unfold GetF
  rw [h.eq, Nat.sub_self, hr, List.drop_length]
  simp [getN]
def OI (l : List Int) (x : Option Addr × Nat) : SX.Own := .slice 3 1 (.slice x.1 l.length x.2) l.length (l.map (.int .i64))
theorem OI_rd {w w' : World} {l : List Int} {x : Option Addr × Nat} (h : NewO w w' (OI l x)) : rInts.rd (fun b => w.heap.size ≤ b) w' [.slice x.1 l.length x.2] l := by
  have hb : Base (fun _ => 0) ⟨0, [], [OI l x], [], []⟩ w' := ⟨fun k o hk ρ' _ => by
      cases k with
      | zero => simp only [List.getElem?_cons_zero, Option.some.injEq] at hk; subst hk; exact freeO_holds rfl h.1
      | succ k => simp at hk, fun i j oi oj b hi hj _ _ => by
      have h1 := (List.getElem?_eq_some_iff.1 hi).1
      have h2 := (List.getElem?_eq_some_iff.1 hj).1
      simp at h1 h2; omega, fun p hp => by cases hp⟩
  exact own_slice (A := rInt) (k := 0) (xs := l.map (.int .i64)) hb rfl rfl (fun b hb' => h.2 b hb') (ints_read l)
theorem Rp.sub {α : Type} {A : Rp α} {S : Nat → Prop} {w : World} {p : Option Addr} {n c l h : Nat} {xs : List α} (hr : (Rp.slice A).rd S w [.slice p n c] xs) (h1 : l ≤ h) (h2 : h ≤ n) :
    ∃ p2 c2, slcV A.sz p c l h = .slice p2 ((xs.drop l).take (h - l)).length c2 ∧ (Rp.slice A).rd S w [.slice p2 ((xs.drop l).take (h - l)).length c2] ((xs.drop l).take (h - l)) := by
  have h9 := Rp.slc hr h1 h2
  obtain ⟨p2, c2, he, hq⟩ := Rp.slice_val h9
  rw [he] at h9
  exact ⟨p2, c2, he, h9⟩
theorem Rp.dropS {α : Type} {A : Rp α} {S : Nat → Prop} {w : World} {p : Option Addr} {c l : Nat} {xs : List α} (hr : (Rp.slice A).rd S w [.slice p xs.length c] xs) (h1 : l ≤ xs.length) :
    ∃ p2 c2, slcV A.sz p c l xs.length = .slice p2 (xs.drop l).length c2 ∧ (Rp.slice A).rd S w [.slice p2 (xs.drop l).length c2] (xs.drop l) := by
  have h9 := Rp.sub hr h1 (Nat.le_refl _)
  rwa [List.take_of_length_le (by simp)] at h9
/-- function 16 -/
theorem rGet_spec {S : Nat → Prop} {w : World} {v : Value} {b : List Int} (hl : rBytes.rd S w [v] b) (hb8 : ∀ x, x ∈ b → isB x) : Gives Try.prog 16 #[v] w fun r w' =>
    ∃ x : Option Addr × Nat, r = .tuple #[.slice x.1 (GetF b).1.length x.2, .int .i64 (GetF b).2] ∧ rInts.rd (fun b => w.heap.size ≤ b) w' [.slice x.1 (GetF b).1.length x.2] (GetF b).1 := by
  obtain ⟨p, c, rfl, hc1, hc2⟩ := Rp.slice_val hl
  have hl : (Rp.slice rByte).rd (fun _ => True) w _ b := Rp.any hl
  obtain ⟨n, k, hRe⟩ : ∃ n k, readR b = (n, k) := ⟨_, _, rfl⟩
  have hR1 : (readR b).1 = n := by rw [hRe]
  have hR2 : (readR b).2 = k := by rw [hRe]
  have hrc : ∀ w1, (Rp.slice rByte).rd (fun _ => True) w1 [.slice p b.length c] b → Gives Try.prog 30 #[.slice p b.length c] w1 fun r _ => r = .tuple #[.int .i64 n, .int .i64 k] := fun w1 h => by rw [← hR1, ← hR2]; exact read_spec h hb8
  refine gives_of [.val (.slice p b.length c)] 51 [.tmp 2, .tmp 3] Try.func16 rfl rfl rfl (by simp) rfl rfl ?_
  refine W.pure (ds := []) rfl fun K1 hK1 => ?_
  simp only [sx, ty, Bool.false_eq_true, Int.reduceEq, Int.reduceLT, Nat.reduceAdd, Nat.reduceSub, Nat.reduceMul, Nat.reduceLT, Nat.reduceLeDiff, Nat.reduceEqDiff, List.reduceReplicate, reduceIte, beq_self_eq_true, bne_self_eq_false, Int.reduceBEq, Int.reduceBNe, Bool.or_false, Bool.false_or, Bool.not_false, Bool.not_true, mbits, Int.reduceToNat, Int.reducePow, Int.toNat_natCast]; with_reducible refine hK1 _ ?_; clear hK1
  refine W.seqK fun K2 hK2 => W.region ?_
  refine WO.go 1 (ds := []) rfl ?_
  simp only [sx, ty, Bool.false_eq_true, Int.reduceEq, Int.reduceLT, Nat.reduceAdd, Nat.reduceSub, Nat.reduceMul, Nat.reduceLT, Nat.reduceLeDiff, Nat.reduceEqDiff, List.reduceReplicate, reduceIte, beq_self_eq_true, bne_self_eq_false, Int.reduceBEq, Int.reduceBNe, Bool.or_false, Bool.false_or, Bool.not_false, Bool.not_true, mbits, Int.reduceToNat, Int.reducePow, Int.toNat_natCast]
  refine WO.call (.tuple #[.int .i64 n, .int .i64 k]) (ds := []) rfl rfl rfl rfl co30 (fun ρ w1 hb => hrc w1 (Rp.now hl (hb.first (by simp)))) ?_
  refine WO.go 5 (ds := []) rfl ?_
  simp only [sx, ty, Bool.false_eq_true, Int.reduceEq, Int.reduceLT, Nat.reduceAdd, Nat.reduceSub, Nat.reduceMul, Nat.reduceLT, Nat.reduceLeDiff, Nat.reduceEqDiff, List.reduceReplicate, reduceIte, beq_self_eq_true, bne_self_eq_false, Int.reduceBEq, Int.reduceBNe, Bool.or_false, Bool.false_or, Bool.not_false, Bool.not_true, mbits, Int.reduceToNat, Int.reducePow, Int.toNat_natCast]
  with_reducible refine WO.nil ?_
  refine hK2 _ ?_; clear hK2
  refine W.seqK fun K3 hK3 => ?_
  refine W.join 24 (.val (.bool (decide (k = 0 ∨ n < 0 ∨ 4000 < n)))) [0, 4, 5] (W.region ?_) ?_
  · skip
    refine WO.go 3 (ds := [some 15, some 16, some 17, some 18, some 19, some 20, some 21, some 22, some 23, some 24]) rfl ?_
    simp only [sx, ty, Bool.false_eq_true, Int.reduceEq, Int.reduceLT, Nat.reduceAdd, Nat.reduceSub, Nat.reduceMul, Nat.reduceLT, Nat.reduceLeDiff, Nat.reduceEqDiff, List.reduceReplicate, reduceIte, beq_self_eq_true, bne_self_eq_false, Int.reduceBEq, Int.reduceBNe, Bool.or_false, Bool.false_or, Bool.not_false, Bool.not_true, mbits, Int.reduceToNat, Int.reducePow, Int.toNat_natCast]
    refine WO.cases 17 _ rfl (fun hg17 => ?_) (fun hg17 => ?_)
    · skip
      refine WO.go 7 (ds := [some 15, some 16, some 17, some 18, some 19, some 20, some 21, some 22, some 23, some 24]) rfl ?_
      simp only [sx, ty, Bool.false_eq_true, Int.reduceEq, Int.reduceLT, Nat.reduceAdd, Nat.reduceSub, Nat.reduceMul, Nat.reduceLT, Nat.reduceLeDiff, Nat.reduceEqDiff, List.reduceReplicate, reduceIte, beq_self_eq_true, bne_self_eq_false, Int.reduceBEq, Int.reduceBNe, Bool.or_false, Bool.false_or, Bool.not_false, Bool.not_true, mbits, Int.reduceToNat, Int.reducePow, Int.toNat_natCast]
      with_reducible refine WO.nil ?_
      refine ⟨rfl, ?_, ⟨_, rfl⟩, by simp [Own.bnd, bndL, bnd, boxO], by simp⟩
      try rw [hg17]
      try rw [hg21]
      simp [getE, bnd, keepE]
      try (simp_all; try omega)
    · skip
      refine WO.go 4 (ds := [some 15, some 16, some 17, some 18, some 19, some 20, some 21, some 22, some 23, some 24]) rfl ?_
      simp only [sx, ty, Bool.false_eq_true, Int.reduceEq, Int.reduceLT, Nat.reduceAdd, Nat.reduceSub, Nat.reduceMul, Nat.reduceLT, Nat.reduceLeDiff, Nat.reduceEqDiff, List.reduceReplicate, reduceIte, beq_self_eq_true, bne_self_eq_false, Int.reduceBEq, Int.reduceBNe, Bool.or_false, Bool.false_or, Bool.not_false, Bool.not_true, mbits, Int.reduceToNat, Int.reducePow, Int.toNat_natCast]
      refine WO.cases 21 _ rfl (fun hg21 => ?_) (fun hg21 => ?_)
      · skip
        refine WO.go 3 (ds := [some 15, some 16, some 17, some 18, some 19, some 20, some 21, some 22, some 23, some 24]) rfl ?_
        simp only [sx, ty, Bool.false_eq_true, Int.reduceEq, Int.reduceLT, Nat.reduceAdd, Nat.reduceSub, Nat.reduceMul, Nat.reduceLT, Nat.reduceLeDiff, Nat.reduceEqDiff, List.reduceReplicate, reduceIte, beq_self_eq_true, bne_self_eq_false, Int.reduceBEq, Int.reduceBNe, Bool.or_false, Bool.false_or, Bool.not_false, Bool.not_true, mbits, Int.reduceToNat, Int.reducePow, Int.toNat_natCast]
        with_reducible refine WO.nil ?_
        refine ⟨rfl, ?_, ⟨_, rfl⟩, by simp [Own.bnd, bndL, bnd, boxO], by simp⟩
        try rw [hg17]
        try rw [hg21]
        simp [getE, bnd, keepE]
        try (simp_all; try omega)
      · skip
        refine WO.go 3 (ds := [some 15, some 16, some 17, some 18, some 19, some 20, some 21, some 22, some 23, some 24]) rfl ?_
        simp only [sx, ty, Bool.false_eq_true, Int.reduceEq, Int.reduceLT, Nat.reduceAdd, Nat.reduceSub, Nat.reduceMul, Nat.reduceLT, Nat.reduceLeDiff, Nat.reduceEqDiff, List.reduceReplicate, reduceIte, beq_self_eq_true, bne_self_eq_false, Int.reduceBEq, Int.reduceBNe, Bool.or_false, Bool.false_or, Bool.not_false, Bool.not_true, mbits, Int.reduceToNat, Int.reducePow, Int.toNat_natCast]
        with_reducible refine WO.nil ?_
        refine ⟨rfl, ?_, ⟨_, rfl⟩, by simp [Own.bnd, bndL, bnd, boxO], by simp⟩
        try rw [hg17]
        try rw [hg21]
        simp [getE, bnd, keepE]
        try (simp_all; try omega)
  · simp only [sx, ty, Bool.false_eq_true, Int.reduceEq, Int.reduceLT, Nat.reduceAdd, Nat.reduceSub, Nat.reduceMul, Nat.reduceLT, Nat.reduceLeDiff, Nat.reduceEqDiff, List.reduceReplicate, reduceIte, sxk, beq_self_eq_true, bne_self_eq_false, Int.reduceBEq, Int.reduceBNe, Bool.or_false, Bool.false_or, Bool.not_false, Bool.not_true, mbits, Int.reduceToNat, Int.reducePow, Int.toNat_natCast]
    refine W.cond rfl rfl (fun hc => ?_) (fun hc => ?_)
    · skip
      have h0 : k = 0 ∨ n < 0 ∨ 4000 < n := by simpa using hc
      rw [GetF_bad hRe h0]
      refine W.pure (ds := []) rfl fun K5 hK5 => ?_
      simp only [sx, ty, Bool.false_eq_true, Int.reduceEq, Int.reduceLT, Nat.reduceAdd, Nat.reduceSub, Nat.reduceMul, Nat.reduceLT, Nat.reduceLeDiff, Nat.reduceEqDiff, List.reduceReplicate, reduceIte, beq_self_eq_true, bne_self_eq_false, Int.reduceBEq, Int.reduceBNe, Bool.or_false, Bool.false_or, Bool.not_false, Bool.not_true, mbits, Int.reduceToNat, Int.reducePow, Int.toNat_natCast]; with_reducible refine hK5 _ ?_; clear hK5
      refine W.ret ⟨by simp, _, rfl, fun ρ w1 hb => ?_⟩
      exact ⟨(none, 0), rfl, Rp.slice_nil (by omega)⟩
    · skip
      have h0 : ¬ (k = 0 ∨ n < 0 ∨ 4000 < n) := by simpa using hc
      refine W.skip (hK3 _ ?_)
      refine W.pure (ds := []) rfl fun K6 hK6 => ?_
      simp only [sx, ty, Bool.false_eq_true, Int.reduceEq, Int.reduceLT, Nat.reduceAdd, Nat.reduceSub, Nat.reduceMul, Nat.reduceLT, Nat.reduceLeDiff, Nat.reduceEqDiff, List.reduceReplicate, reduceIte, beq_self_eq_true, bne_self_eq_false, Int.reduceBEq, Int.reduceBNe, Bool.or_false, Bool.false_or, Bool.not_false, Bool.not_true, mbits, Int.reduceToNat, Int.reducePow, Int.toNat_natCast]; with_reducible refine hK6 _ ?_; clear hK6
      refine W.seqK fun K7 hK7 => ?_
      refine W.pure (ds := []) rfl fun K8 hK8 => ?_
      simp only [sx, ty, Bool.false_eq_true, Int.reduceEq, Int.reduceLT, Nat.reduceAdd, Nat.reduceSub, Nat.reduceMul, Nat.reduceLT, Nat.reduceLeDiff, Nat.reduceEqDiff, List.reduceReplicate, reduceIte, beq_self_eq_true, bne_self_eq_false, Int.reduceBEq, Int.reduceBNe, Bool.or_false, Bool.false_or, Bool.not_false, Bool.not_true, mbits, Int.reduceToNat, Int.reducePow, Int.toNat_natCast]; with_reducible refine hK8 _ ?_; clear hK8
      refine W.block ?_
      refine W.ownNil 3 1 ?_
      simp only [sx, ty, Bool.false_eq_true, Int.reduceEq, Int.reduceLT, Nat.reduceAdd, Nat.reduceSub, Nat.reduceMul, Nat.reduceLT, Nat.reduceLeDiff, Nat.reduceEqDiff, List.reduceReplicate, reduceIte]
      refine W.loopO (X := Nat × Nat × List Int × Option Addr × Nat) [0, 4] (fun x => [(5, .val (.int .i64 x.2.1)), (6, .val (.slice x.2.2.2.1 x.2.2.1.length x.2.2.2.2)), (7, .val (.int .i64 x.1))]) (fun x => [OI x.2.2.1 x.2.2.2]) (fun x => [((fun _ => True), w)]) (fun x => GetI b n.toNat x.1 x.2.1 x.2.2.1) (fun x => n.toNat - x.1) (0, k, [], none, 0) ?_ ?_ ?_
      · exact ⟨rfl, by simp [getE, bnd, keepE], ⟨[], by simp [OI]⟩, by simp [Own.bnd, bndL, bnd, boxO, OI], by simp⟩
      · skip
        exact GetI.start hRe h0
      · rintro ⟨i, a, l, p3, c3⟩ hI
        simp only at hI
        have hal := hI.al
        have hil := hI.il
        have hll := hI.ll
        simp only [sx, ty, Bool.false_eq_true, Int.reduceEq, Int.reduceLT, Nat.reduceAdd, Nat.reduceSub, Nat.reduceMul, Nat.reduceLT, Nat.reduceLeDiff, Nat.reduceEqDiff, List.reduceReplicate, reduceIte, sxk, beq_self_eq_true, bne_self_eq_false, Int.reduceBEq, Int.reduceBNe, Bool.or_false, Bool.false_or, Bool.not_false, Bool.not_true, mbits, Int.reduceToNat, Int.reducePow, Int.toNat_natCast]
        refine W.seqK fun K9 hK9 => ?_
        refine W.pure (ds := []) rfl fun K10 hK10 => ?_
        simp only [sx, ty, Bool.false_eq_true, Int.reduceEq, Int.reduceLT, Nat.reduceAdd, Nat.reduceSub, Nat.reduceMul, Nat.reduceLT, Nat.reduceLeDiff, Nat.reduceEqDiff, List.reduceReplicate, reduceIte, beq_self_eq_true, bne_self_eq_false, Int.reduceBEq, Int.reduceBNe, Bool.or_false, Bool.false_or, Bool.not_false, Bool.not_true, mbits, Int.reduceToNat, Int.reducePow, Int.toNat_natCast]; with_reducible refine hK10 _ ?_; clear hK10
        refine W.cond rfl rfl (fun hc => ?_) (fun hc => ?_)
        · skip
          have hlt : i < n.toNat := by simp at hc; omega
          refine W.skip (hK9 _ ?_)
          refine W.seqK fun K11 hK11 => ?_
          refine W.block ?_
          refine W.seqK fun K12 hK12 => W.region ?_
          refine WO.go 2 (ds := []) rfl ?_
          simp only [sx, ty, Bool.false_eq_true, Int.reduceEq, Int.reduceLT, Nat.reduceAdd, Nat.reduceSub, Nat.reduceMul, Nat.reduceLT, Nat.reduceLeDiff, Nat.reduceEqDiff, List.reduceReplicate, reduceIte, beq_self_eq_true, bne_self_eq_false, Int.reduceBEq, Int.reduceBNe, Bool.or_false, Bool.false_or, Bool.not_false, Bool.not_true, mbits, Int.reduceToNat, Int.reducePow, Int.toNat_natCast]
          obtain ⟨p2, c2, he2, hl2⟩ := Rp.dropS (l := a) hl hal
          refine WO.slc (ds := []) rfl rfl rfl rfl rfl el23 rfl rfl (by simp [loS]) (by simp [loS, hiS]; omega) (by simp [hiS]; omega) ?_
          rw [show slcV 1 p c (loS (some (IntKind.i64, (a : Int)))).toNat (hiS b.length none).toNat = .slice p2 (b.drop a).length c2 from he2]
          simp only [sx, ty, Bool.false_eq_true, Int.reduceEq, Int.reduceLT, Nat.reduceAdd, Nat.reduceSub, Nat.reduceMul, Nat.reduceLT, Nat.reduceLeDiff, Nat.reduceEqDiff, List.reduceReplicate, reduceIte, beq_self_eq_true, bne_self_eq_false, Int.reduceBEq, Int.reduceBNe, Bool.or_false, Bool.false_or, Bool.not_false, Bool.not_true, mbits, Int.reduceToNat, Int.reducePow, Int.toNat_natCast]
          refine WO.call (.tuple #[.int .i64 (readR (b.drop a)).1, .int .i64 (readR (b.drop a)).2]) (ds := []) rfl rfl rfl rfl co30 (fun ρ w1 hb => read_spec (Rp.now hl2 (hb.first (by simp))) fun x hx => hb8 x (List.mem_of_mem_drop hx)) ?_
          refine WO.go 5 (ds := []) rfl ?_
          simp only [sx, ty, Bool.false_eq_true, Int.reduceEq, Int.reduceLT, Nat.reduceAdd, Nat.reduceSub, Nat.reduceMul, Nat.reduceLT, Nat.reduceLeDiff, Nat.reduceEqDiff, List.reduceReplicate, reduceIte, beq_self_eq_true, bne_self_eq_false, Int.reduceBEq, Int.reduceBNe, Bool.or_false, Bool.false_or, Bool.not_false, Bool.not_true, mbits, Int.reduceToNat, Int.reducePow, Int.toNat_natCast]
          with_reducible refine WO.nil ?_
          refine hK12 _ ?_; clear hK12
          refine W.seqK fun K13 hK13 => ?_
          refine W.pure (ds := []) rfl fun K14 hK14 => ?_
          simp only [sx, ty, Bool.false_eq_true, Int.reduceEq, Int.reduceLT, Nat.reduceAdd, Nat.reduceSub, Nat.reduceMul, Nat.reduceLT, Nat.reduceLeDiff, Nat.reduceEqDiff, List.reduceReplicate, reduceIte, beq_self_eq_true, bne_self_eq_false, Int.reduceBEq, Int.reduceBNe, Bool.or_false, Bool.false_or, Bool.not_false, Bool.not_true, mbits, Int.reduceToNat, Int.reducePow, Int.toNat_natCast]; with_reducible refine hK14 _ ?_; clear hK14
          refine W.cond rfl rfl (fun hc => ?_) (fun hc => ?_)
          · skip
            have hz : (readR (b.drop a)).2 = 0 := by simp at hc; omega
            rw [hI.none hlt hz]
            refine W.pure (ds := []) rfl fun K15 hK15 => ?_
            simp only [sx, ty, Bool.false_eq_true, Int.reduceEq, Int.reduceLT, Nat.reduceAdd, Nat.reduceSub, Nat.reduceMul, Nat.reduceLT, Nat.reduceLeDiff, Nat.reduceEqDiff, List.reduceReplicate, reduceIte, beq_self_eq_true, bne_self_eq_false, Int.reduceBEq, Int.reduceBNe, Bool.or_false, Bool.false_or, Bool.not_false, Bool.not_true, mbits, Int.reduceToNat, Int.reducePow, Int.toNat_natCast]; with_reducible refine hK15 _ ?_; clear hK15
            refine W.ret ⟨by simp, _, rfl, fun ρ w1 hb => ?_⟩
            exact ⟨(none, 0), rfl, Rp.slice_nil (by omega)⟩
          · skip
            have hz : ¬ (readR (b.drop a)).2 = 0 := by simp at hc; omega
            have hI2 := hI.more hb8 hlt hz
            have hal2 := hI2.al
            refine W.skip (hK13 _ ?_)
            refine W.seqK fun K16 hK16 => W.region ?_
            refine WO.go 3 (ds := []) rfl ?_
            simp only [sx, ty, Bool.false_eq_true, Int.reduceEq, Int.reduceLT, Nat.reduceAdd, Nat.reduceSub, Nat.reduceMul, Nat.reduceLT, Nat.reduceLeDiff, Nat.reduceEqDiff, List.reduceReplicate, reduceIte, beq_self_eq_true, bne_self_eq_false, Int.reduceBEq, Int.reduceBNe, Bool.or_false, Bool.false_or, Bool.not_false, Bool.not_true, mbits, Int.reduceToNat, Int.reducePow, Int.toNat_natCast]
            refine WO.append (k := 0) (m := 1) [.int .i64 (readR (b.drop a)).1] (ds := []) rfl rfl rfl rfl rfl rfl rfl ek22 (news_own (k2 := 1) rfl fun _ => rfl) rfl (by simp [Value.oneCell']) (by rw [maxLen_eq]; omega) (by omega) fun p6 c6 => ?_
            refine WO.go 1 (ds := []) rfl ?_
            simp only [sx, ty, Bool.false_eq_true, Int.reduceEq, Int.reduceLT, Nat.reduceAdd, Nat.reduceSub, Nat.reduceMul, Nat.reduceLT, Nat.reduceLeDiff, Nat.reduceEqDiff, List.reduceReplicate, reduceIte, beq_self_eq_true, bne_self_eq_false, Int.reduceBEq, Int.reduceBNe, Bool.or_false, Bool.false_or, Bool.not_false, Bool.not_true, mbits, Int.reduceToNat, Int.reducePow, Int.toNat_natCast]
            with_reducible refine WO.nil ?_
            refine hK16 _ ?_; clear hK16
            refine W.region ?_
            refine WO.go 4 (ds := []) rfl ?_
            simp only [sx, ty, Bool.false_eq_true, Int.reduceEq, Int.reduceLT, Nat.reduceAdd, Nat.reduceSub, Nat.reduceMul, Nat.reduceLT, Nat.reduceLeDiff, Nat.reduceEqDiff, List.reduceReplicate, reduceIte, beq_self_eq_true, bne_self_eq_false, Int.reduceBEq, Int.reduceBNe, Bool.or_false, Bool.false_or, Bool.not_false, Bool.not_true, mbits, Int.reduceToNat, Int.reducePow, Int.toNat_natCast]
            with_reducible refine WO.nil ?_
            refine hK11 _ ?_
            refine W.region ?_
            refine WO.go 3 (ds := []) rfl ?_
            simp only [sx, ty, Bool.false_eq_true, Int.reduceEq, Int.reduceLT, Nat.reduceAdd, Nat.reduceSub, Nat.reduceMul, Nat.reduceLT, Nat.reduceLeDiff, Nat.reduceEqDiff, List.reduceReplicate, reduceIte, beq_self_eq_true, bne_self_eq_false, Int.reduceBEq, Int.reduceBNe, Bool.or_false, Bool.false_or, Bool.not_false, Bool.not_true, mbits, Int.reduceToNat, Int.reducePow, Int.toNat_natCast]
            with_reducible refine WO.nil ?_
            refine ⟨(i + 1, a + (readR (b.drop a)).2, l ++ [(readR (b.drop a)).1], p6, c6), hI2, by simp only; omega, rfl, by simp [getE, bnd, keepE, wrap_succ (show i + 1 ≤ 9223372036854775807 by omega), wrap_id (x := (a : Int) + (readR (b.drop a)).2) (by omega) (by omega)], ⟨[.cells 3 [.val (.int .i64 (readR (b.drop a)).1)]], by simp [OI]⟩, by simp [Own.bnd, bndL, bnd, OI], by simp⟩
        · skip
          obtain rfl : i = n.toNat := Nat.le_antisymm hil (by simp at hc; omega)
          refine W.exit (hK7 _ ?_)
          refine W.seqK fun K17 hK17 => ?_
          refine W.pure (ds := []) rfl fun K18 hK18 => ?_
          simp only [sx, ty, Bool.false_eq_true, Int.reduceEq, Int.reduceLT, Nat.reduceAdd, Nat.reduceSub, Nat.reduceMul, Nat.reduceLT, Nat.reduceLeDiff, Nat.reduceEqDiff, List.reduceReplicate, reduceIte, beq_self_eq_true, bne_self_eq_false, Int.reduceBEq, Int.reduceBNe, Bool.or_false, Bool.false_or, Bool.not_false, Bool.not_true, mbits, Int.reduceToNat, Int.reducePow, Int.toNat_natCast]; with_reducible refine hK18 _ ?_; clear hK18
          refine W.cond rfl rfl (fun hc => ?_) (fun hc => ?_)
          · skip
            have hne : a ≠ b.length := by simp at hc; omega
            rw [hI.tail hne]
            refine W.pure (ds := []) rfl fun K19 hK19 => ?_
            simp only [sx, ty, Bool.false_eq_true, Int.reduceEq, Int.reduceLT, Nat.reduceAdd, Nat.reduceSub, Nat.reduceMul, Nat.reduceLT, Nat.reduceLeDiff, Nat.reduceEqDiff, List.reduceReplicate, reduceIte, beq_self_eq_true, bne_self_eq_false, Int.reduceBEq, Int.reduceBNe, Bool.or_false, Bool.false_or, Bool.not_false, Bool.not_true, mbits, Int.reduceToNat, Int.reducePow, Int.toNat_natCast]; with_reducible refine hK19 _ ?_; clear hK19
            refine W.ret ⟨by simp, _, rfl, fun ρ w1 hb => ?_⟩
            exact ⟨(none, 0), rfl, Rp.slice_nil (by omega)⟩
          · skip
            have hne : a = b.length := by simp at hc; omega
            refine W.skip (hK17 _ ?_)
            refine W.pure (ds := []) rfl fun K20 hK20 => ?_
            simp only [sx, ty, Bool.false_eq_true, Int.reduceEq, Int.reduceLT, Nat.reduceAdd, Nat.reduceSub, Nat.reduceMul, Nat.reduceLT, Nat.reduceLeDiff, Nat.reduceEqDiff, List.reduceReplicate, reduceIte, beq_self_eq_true, bne_self_eq_false, Int.reduceBEq, Int.reduceBNe, Bool.or_false, Bool.false_or, Bool.not_false, Bool.not_true, mbits, Int.reduceToNat, Int.reducePow, Int.toNat_natCast]; with_reducible refine hK20 _ ?_; clear hK20
            refine W.ret ⟨by simp, _, rfl, fun ρ w1 hb => ?_⟩
            rw [hI.done hne]
            exact ⟨(p3, c3), rfl, OI_rd (new_own (w0 := w) (o := OI l (p3, c3)) hb (by simp) (k := 0) rfl rfl)⟩
end Go.Proofs.Ytnbfdncmlbegmaa
