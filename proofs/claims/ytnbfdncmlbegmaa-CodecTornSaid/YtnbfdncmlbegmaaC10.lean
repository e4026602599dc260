/-
  Codec: next: walk.
-/
import Derived.Test.YtnbfdncmlbegmaaC9
set_option linter.unusedVariables false
set_option linter.unusedSimpArgs false
set_option maxHeartbeats 1000000
namespace Go.Proofs.Ytnbfdncmlbegmaa
open Go Go.SX Go.RowKit

def brokenE : List PanicEntry := [{ v := .iface 65 (.agg #[]), recovered := false }]
def rdO (rb : Nat) (x : Option Addr × Nat) (l : List Int) : SX.Own := boxO 57 rb [.slice x.1 l.length x.2]
theorem sh7i {i : Nat} (h : i ≤ 9) : IntKind.i64.wrap (7 * (i : Int)) = ((7 * i : Nat) : Int) := by rw [wrap_id (by omega) (by omega)]; omega
theorem and127' {c : Int} (h : isB c) : IntKind.u8.wrap (BitVec.ofInt IntKind.u8.bits c &&& BitVec.ofInt IntKind.u8.bits 127).toNat = c % 128 := and127 h
theorem orStep' {b : List Int} {i : Nat} {u c : Int} (h : ReadI b i u) (hb : isB c) (hc : ¬ (i = 9 ∧ 1 < c)) : IntKind.u64.wrap (BitVec.ofInt IntKind.u64.bits u ||| BitVec.ofInt IntKind.u64.bits (IntKind.u64.wrap (IntKind.u64.wrap (c % 128) * 2 ^ (7 * i)))).toNat = u + c % 128 * 2 ^ (7 * i) := by
  have h9 := orStep h hb hc
  unfold isB at hb
  rwa [tmod_nn hb.1] at h9
theorem readF_none {b : List Int} (h : readG b 0 0 = none) : readF b = none := by unfold readF; rw [h]; rfl
theorem readF_some {b : List Int} {u : Int} {k : Nat} (h : readG b 0 0 = some (u, k)) : readF b = some (unzig u, k) := by unfold readF; rw [h]; rfl
theorem unzig_code' {u : Int} (h0 : 0 ≤ u) (h1 : u < 18446744073709551616) : IntKind.i64.wrap (BitVec.ofInt IntKind.i64.bits (IntKind.i64.wrap (u.fdiv 2)) ^^^ BitVec.ofInt IntKind.i64.bits (IntKind.i64.wrap (0 - IntKind.i64.wrap (IntKind.u64.wrap (BitVec.ofInt IntKind.u64.bits u &&& BitVec.ofInt IntKind.u64.bits 1).toNat)))).toNat = unzig u := by
  rw [show IntKind.u64.wrap (BitVec.ofInt IntKind.u64.bits u &&& BitVec.ofInt IntKind.u64.bits 1).toNat = u % 2 from and1 h0 h1]
  exact unzig_code h0 h1
/-- function 29 -/
theorem next_spec {S : Nat → Prop} {w : World} {rb : Nat} {p0 : Option Addr} {c0 : Nat} {b : List Int} (hl : rBytes.rd S w [.slice p0 b.length c0] b) (hS : ∀ x, S x → x < w.heap.size → ¬ x = rb) (hb8 : ∀ x, x ∈ b → isB x) (hbx : w.heap[rb]? = some (.cells #[.slice p0 b.length c0] 57 (0, 0))) :
    GivesP Try.prog 29 #[.pointer (some ⟨rb, 0, none⟩)] w (fun y => (rdO rb (p0, c0) b).num (fun _ => 0) 0 = some y)
      (fun r w' => ∃ x : Int × Nat × Option Addr × Nat, r = .int .i64 x.1 ∧ (readF b = some (x.1, x.2.1) ∧ x.2.1 ≤ b.length ∧ slcV 1 p0 c0 x.2.1 b.length = .slice x.2.2.1 (b.drop x.2.1).length x.2.2.2) ∧ (rdO rb x.2.2 (b.drop x.2.1)).holds (fun _ => 0) 0 w' ∧ ∀ y, (rdO rb x.2.2 (b.drop x.2.1)).num (fun _ => 0) 0 = some y → (rdO rb (p0, c0) b).num (fun _ => 0) 0 = some y ∨ w.heap.size ≤ y)
      (fun ch w' => (readF b = none ∧ ch = brokenE) ∧ (rdO rb (p0, c0) b).holds (fun _ => 0) 0 w' ∧ ∀ y, (rdO rb (p0, c0) b).num (fun _ => 0) 0 = some y → (rdO rb (p0, c0) b).num (fun _ => 0) 0 = some y ∨ w.heap.size ≤ y) := by
  obtain ⟨_, _, he0, hc1, hc2⟩ := Rp.slice_val hl
  obtain ⟨rfl, _, rfl⟩ := (Value.slice.injEq _ _ _ _ _ _).mp he0
  have hl0 := hl
  have hl : (Rp.slice rByte).rd (fun y => ¬ (boxO 57 rb [.slice p0 b.length c0]).num (fun _ => 0) 0 = some y) w _ b := Rp.mono _ hl fun x h1 h2 h3 => hS x h1 h2 (Option.some.inj h3).symm
  refine givesP_of (boxO 57 rb [.slice p0 b.length c0]) [.val (.pointer (some ⟨rb, 0, none⟩))] 67 [.tmp 2] Try.func29 rfl rfl rfl (by simp) rfl rfl rfl (boxO_holds (by simp [maxLen]) hbx) ?_
  refine W.pure (ds := []) rfl fun K1 hK1 => ?_
  simp only [sx, ty, Bool.false_eq_true, Int.reduceEq, Int.reduceLT, Nat.reduceAdd, Nat.reduceSub, Nat.reduceMul, Nat.reduceLT, Nat.reduceLeDiff, Nat.reduceEqDiff, List.reduceReplicate, reduceIte, beq_self_eq_true, bne_self_eq_false, Int.reduceBEq, Int.reduceBNe, Bool.or_false, Bool.false_or, Bool.not_false, Bool.not_true, mbits, Int.reduceToNat, Int.reducePow, Int.toNat_natCast]; with_reducible refine hK1 _ ?_; clear hK1
  refine W.pure (ds := []) rfl fun K2 hK2 => ?_
  simp only [sx, ty, Bool.false_eq_true, Int.reduceEq, Int.reduceLT, Nat.reduceAdd, Nat.reduceSub, Nat.reduceMul, Nat.reduceLT, Nat.reduceLeDiff, Nat.reduceEqDiff, List.reduceReplicate, reduceIte, beq_self_eq_true, bne_self_eq_false, Int.reduceBEq, Int.reduceBNe, Bool.or_false, Bool.false_or, Bool.not_false, Bool.not_true, mbits, Int.reduceToNat, Int.reducePow, Int.toNat_natCast]; with_reducible refine hK2 _ ?_; clear hK2
  refine W.seqK fun K3 hK3 => ?_
  refine W.seqK fun K4 hK4 => W.region ?_
  refine WO.go 1 (ds := []) rfl ?_
  simp only [sx, ty, Bool.false_eq_true, Int.reduceEq, Int.reduceLT, Nat.reduceAdd, Nat.reduceSub, Nat.reduceMul, Nat.reduceLT, Nat.reduceLeDiff, Nat.reduceEqDiff, List.reduceReplicate, reduceIte, beq_self_eq_true, bne_self_eq_false, Int.reduceBEq, Int.reduceBNe, Bool.or_false, Bool.false_or, Bool.not_false, Bool.not_true, mbits, Int.reduceToNat, Int.reducePow, Int.toNat_natCast]
  refine WO.q (ds := []) rfl rfl rfl (QR.nilCheck rfl rfl) ?_
  refine WO.go 1 (ds := []) rfl ?_
  simp only [sx, ty, Bool.false_eq_true, Int.reduceEq, Int.reduceLT, Nat.reduceAdd, Nat.reduceSub, Nat.reduceMul, Nat.reduceLT, Nat.reduceLeDiff, Nat.reduceEqDiff, List.reduceReplicate, reduceIte, beq_self_eq_true, bne_self_eq_false, Int.reduceBEq, Int.reduceBNe, Bool.or_false, Bool.false_or, Bool.not_false, Bool.not_true, mbits, Int.reduceToNat, Int.reducePow, Int.toNat_natCast]
  refine WO.loadBox (k := 0) (i := 0) (sz := 1) (xs := [.slice p0 b.length c0]) (T := 57) (b := rb) rfl (ds := []) rfl rfl rfl rfl rfl (by simp [Addr.add_mid]) (by simp) agg23 sz23 (.inr rfl) ?_
  simp only [List.drop_succ_cons, List.drop_zero, List.take_succ_cons, List.take_zero, ofCells, Bool.false_eq_true, if_false, List.headD_cons]
  refine WO.go 2 (ds := []) rfl ?_
  simp only [sx, ty, Bool.false_eq_true, Int.reduceEq, Int.reduceLT, Nat.reduceAdd, Nat.reduceSub, Nat.reduceMul, Nat.reduceLT, Nat.reduceLeDiff, Nat.reduceEqDiff, List.reduceReplicate, reduceIte, beq_self_eq_true, bne_self_eq_false, Int.reduceBEq, Int.reduceBNe, Bool.or_false, Bool.false_or, Bool.not_false, Bool.not_true, mbits, Int.reduceToNat, Int.reducePow, Int.toNat_natCast]
  with_reducible refine WO.nil ?_
  refine hK4 _ ?_; clear hK4
  refine W.block ?_
  refine W.loopK (X := Nat × Int) [0, 9, 10] (fun x => [(2, .val (.int .i64 0)), (3, .val (.int .u64 x.2)), (11, .val (.int .i64 x.1))]) (fun x => ReadI b x.1 x.2) (fun x => b.length - x.1) (0, 0) ?_ ?_ ?_
  · exact ⟨rfl, by simp [getE, bnd, keepE], ⟨[], by simp⟩, by simp [Own.bnd, bndL, bnd, boxO], by simp⟩
  · skip
    exact ReadI.start b
  · rintro ⟨i, u⟩ hI
    simp only at hI
    have hi9 := hI.i9
    simp only [sx, ty, Bool.false_eq_true, Int.reduceEq, Int.reduceLT, Nat.reduceAdd, Nat.reduceSub, Nat.reduceMul, Nat.reduceLT, Nat.reduceLeDiff, Nat.reduceEqDiff, List.reduceReplicate, reduceIte, sxk, beq_self_eq_true, bne_self_eq_false, Int.reduceBEq, Int.reduceBNe, Bool.or_false, Bool.false_or, Bool.not_false, Bool.not_true, mbits, Int.reduceToNat, Int.reducePow, Int.toNat_natCast]
    refine W.pure (ds := []) rfl fun K5 hK5 => ?_
    simp only [sx, ty, Bool.false_eq_true, Int.reduceEq, Int.reduceLT, Nat.reduceAdd, Nat.reduceSub, Nat.reduceMul, Nat.reduceLT, Nat.reduceLeDiff, Nat.reduceEqDiff, List.reduceReplicate, reduceIte, beq_self_eq_true, bne_self_eq_false, Int.reduceBEq, Int.reduceBNe, Bool.or_false, Bool.false_or, Bool.not_false, Bool.not_true, mbits, Int.reduceToNat, Int.reducePow, Int.toNat_natCast]; with_reducible refine hK5 _ ?_; clear hK5
    refine W.seqK fun K6 hK6 => ?_
    refine W.cond rfl rfl (fun hc => ?_) (fun hc => ?_)
    · skip
      have hlt : i < b.length := by simpa using hc
      obtain ⟨c1, hget⟩ : ∃ c, b[i]? = some c := ⟨_, List.getElem?_eq_getElem hlt⟩
      have hcb : isB c1 := hb8 c1 (List.mem_of_getElem? hget)
      refine W.skip (hK6 _ ?_)
      refine W.seqK fun K7 hK7 => ?_
      refine W.block ?_
      refine W.seqK fun K8 hK8 => W.region ?_
      refine WO.go 1 (ds := []) rfl ?_
      simp only [sx, ty, Bool.false_eq_true, Int.reduceEq, Int.reduceLT, Nat.reduceAdd, Nat.reduceSub, Nat.reduceMul, Nat.reduceLT, Nat.reduceLeDiff, Nat.reduceEqDiff, List.reduceReplicate, reduceIte, beq_self_eq_true, bne_self_eq_false, Int.reduceBEq, Int.reduceBNe, Bool.or_false, Bool.false_or, Bool.not_false, Bool.not_true, mbits, Int.reduceToNat, Int.reducePow, Int.toNat_natCast]
      refine WO.elem (y := c1) hl (by simp [St.put]) (ds := []) rfl rfl rfl (by simp [St.put]) (fun _ => rfl) rfl rfl rfl rfl rfl el23 agg5 sz5 (.inr rfl) (by omega) (hget) fun p ces hces => ?_
      obtain rfl := rByte_open hces
      clear hces
      refine WO.go 2 (ds := []) rfl ?_
      simp only [sx, ty, Bool.false_eq_true, Int.reduceEq, Int.reduceLT, Nat.reduceAdd, Nat.reduceSub, Nat.reduceMul, Nat.reduceLT, Nat.reduceLeDiff, Nat.reduceEqDiff, List.reduceReplicate, reduceIte, beq_self_eq_true, bne_self_eq_false, Int.reduceBEq, Int.reduceBNe, Bool.or_false, Bool.false_or, Bool.not_false, Bool.not_true, mbits, Int.reduceToNat, Int.reducePow, Int.toNat_natCast]
      with_reducible refine WO.nil ?_
      refine hK8 _ ?_; clear hK8
      refine W.seqK fun K9 hK9 => ?_
      refine W.join 25 (.val (.bool (decide (i = 9 ∧ 1 < c1)))) [0, 2, 3, 4, 5, 9, 10, 11] (W.region ?_) ?_
      · skip
        refine WO.go 3 (ds := [some 16, some 17, some 18, some 19, some 20, some 21, some 22, some 23, some 24, some 25]) rfl ?_
        simp only [sx, ty, Bool.false_eq_true, Int.reduceEq, Int.reduceLT, Nat.reduceAdd, Nat.reduceSub, Nat.reduceMul, Nat.reduceLT, Nat.reduceLeDiff, Nat.reduceEqDiff, List.reduceReplicate, reduceIte, beq_self_eq_true, bne_self_eq_false, Int.reduceBEq, Int.reduceBNe, Bool.or_false, Bool.false_or, Bool.not_false, Bool.not_true, mbits, Int.reduceToNat, Int.reducePow, Int.toNat_natCast]
        refine WO.cases 18 _ rfl (fun hg18 => ?_) (fun hg18 => ?_)
        · skip
          refine WO.go 4 (ds := [some 16, some 17, some 18, some 19, some 20, some 21, some 22, some 23, some 24, some 25]) rfl ?_
          simp only [sx, ty, Bool.false_eq_true, Int.reduceEq, Int.reduceLT, Nat.reduceAdd, Nat.reduceSub, Nat.reduceMul, Nat.reduceLT, Nat.reduceLeDiff, Nat.reduceEqDiff, List.reduceReplicate, reduceIte, beq_self_eq_true, bne_self_eq_false, Int.reduceBEq, Int.reduceBNe, Bool.or_false, Bool.false_or, Bool.not_false, Bool.not_true, mbits, Int.reduceToNat, Int.reducePow, Int.toNat_natCast]
          refine WO.cases 22 _ rfl (fun hg22 => ?_) (fun hg22 => ?_)
          · skip
            refine WO.go 3 (ds := [some 16, some 17, some 18, some 19, some 20, some 21, some 22, some 23, some 24, some 25]) rfl ?_
            simp only [sx, ty, Bool.false_eq_true, Int.reduceEq, Int.reduceLT, Nat.reduceAdd, Nat.reduceSub, Nat.reduceMul, Nat.reduceLT, Nat.reduceLeDiff, Nat.reduceEqDiff, List.reduceReplicate, reduceIte, beq_self_eq_true, bne_self_eq_false, Int.reduceBEq, Int.reduceBNe, Bool.or_false, Bool.false_or, Bool.not_false, Bool.not_true, mbits, Int.reduceToNat, Int.reducePow, Int.toNat_natCast]
            with_reducible refine WO.nil ?_
            refine ⟨rfl, ?_, ⟨_, rfl⟩, by simp [Own.bnd, bndL, bnd, boxO], by simp⟩
            try rw [hg18]
            try rw [hg22]
            simp [getE, bnd, keepE]
            try (rw [decide_eq_false (show ¬ (9 < (i : Int)) by omega), decide_eq_false (show ¬ (i = 9) by simp at hg18; omega)]; rfl)
            try (simp at hg18)
            try (simp at hg22)
            try simp_all
            try omega
          · skip
            refine WO.go 3 (ds := [some 16, some 17, some 18, some 19, some 20, some 21, some 22, some 23, some 24, some 25]) rfl ?_
            simp only [sx, ty, Bool.false_eq_true, Int.reduceEq, Int.reduceLT, Nat.reduceAdd, Nat.reduceSub, Nat.reduceMul, Nat.reduceLT, Nat.reduceLeDiff, Nat.reduceEqDiff, List.reduceReplicate, reduceIte, beq_self_eq_true, bne_self_eq_false, Int.reduceBEq, Int.reduceBNe, Bool.or_false, Bool.false_or, Bool.not_false, Bool.not_true, mbits, Int.reduceToNat, Int.reducePow, Int.toNat_natCast]
            with_reducible refine WO.nil ?_
            refine ⟨rfl, ?_, ⟨_, rfl⟩, by simp [Own.bnd, bndL, bnd, boxO], by simp⟩
            try rw [hg18]
            try rw [hg22]
            simp [getE, bnd, keepE]
            try (rw [decide_eq_false (show ¬ (9 < (i : Int)) by omega), decide_eq_false (show ¬ (i = 9) by simp at hg18; omega)]; rfl)
            try (simp at hg18)
            try (simp at hg22)
            try simp_all
            try omega
        · skip
          refine WO.go 7 (ds := [some 16, some 17, some 18, some 19, some 20, some 21, some 22, some 23, some 24, some 25]) rfl ?_
          simp only [sx, ty, Bool.false_eq_true, Int.reduceEq, Int.reduceLT, Nat.reduceAdd, Nat.reduceSub, Nat.reduceMul, Nat.reduceLT, Nat.reduceLeDiff, Nat.reduceEqDiff, List.reduceReplicate, reduceIte, beq_self_eq_true, bne_self_eq_false, Int.reduceBEq, Int.reduceBNe, Bool.or_false, Bool.false_or, Bool.not_false, Bool.not_true, mbits, Int.reduceToNat, Int.reducePow, Int.toNat_natCast]
          with_reducible refine WO.nil ?_
          refine ⟨rfl, ?_, ⟨_, rfl⟩, by simp [Own.bnd, bndL, bnd, boxO], by simp⟩
          try rw [hg18]
          try rw [hg22]
          simp [getE, bnd, keepE]
          try (rw [decide_eq_false (show ¬ (9 < (i : Int)) by omega), decide_eq_false (show ¬ (i = 9) by simp at hg18; omega)]; rfl)
          try (simp at hg18)
          try (simp at hg22)
          try simp_all
          try omega
      · simp only [sx, ty, Bool.false_eq_true, Int.reduceEq, Int.reduceLT, Nat.reduceAdd, Nat.reduceSub, Nat.reduceMul, Nat.reduceLT, Nat.reduceLeDiff, Nat.reduceEqDiff, List.reduceReplicate, reduceIte, sxk, beq_self_eq_true, bne_self_eq_false, Int.reduceBEq, Int.reduceBNe, Bool.or_false, Bool.false_or, Bool.not_false, Bool.not_true, mbits, Int.reduceToNat, Int.reducePow, Int.toNat_natCast]
        refine W.cond rfl rfl (fun hc => ?_) (fun hc => ?_)
        · skip
          have h9 : i = 9 ∧ 1 < c1 := by simpa using hc
          refine W.region ?_
          refine WO.go 1 (ds := []) rfl ?_
          simp only [sx, ty, Bool.false_eq_true, Int.reduceEq, Int.reduceLT, Nat.reduceAdd, Nat.reduceSub, Nat.reduceMul, Nat.reduceLT, Nat.reduceLeDiff, Nat.reduceEqDiff, List.reduceReplicate, reduceIte, beq_self_eq_true, bne_self_eq_false, Int.reduceBEq, Int.reduceBNe, Bool.or_false, Bool.false_or, Bool.not_false, Bool.not_true, mbits, Int.reduceToNat, Int.reducePow, Int.toNat_natCast]
          refine WO.q (ds := []) rfl rfl rfl (QR.iface (v := .agg #[]) rfl ⟨_, rfl, fun _ => rfl⟩ rfl) ?_
          simp only [sx, ty, Bool.false_eq_true, Int.reduceEq, Int.reduceLT, Nat.reduceAdd, Nat.reduceSub, Nat.reduceMul, Nat.reduceLT, Nat.reduceLeDiff, Nat.reduceEqDiff, List.reduceReplicate, reduceIte, beq_self_eq_true, bne_self_eq_false, Int.reduceBEq, Int.reduceBNe, Bool.or_false, Bool.false_or, Bool.not_false, Bool.not_true, mbits, Int.reduceToNat, Int.reducePow, Int.toNat_natCast]
          refine WO.panic (ds := []) rfl rfl rfl rfl ?_
          simp only [andThen, inBlk, EndsP]
          refine ⟨⟨by simp, by simp⟩, fun ρ w1 hb => ⟨⟨readF_none (hI.none9 hget h9), rfl⟩, ?_, fun y h => .inl h⟩⟩
          exact freeO_holds rfl (hb.own 0 _ rfl ρ (Agree.refl _ _))
        · skip
          have h9 : ¬ (i = 9 ∧ 1 < c1) := by simpa using hc
          have hor := orStep' hI hcb h9
          have hand := and127' hcb
          have hv0 : 0 ≤ u + c1 % 128 * 2 ^ (7 * i) := by
            have := hI.u0
            have hp : (0 : Int) < 2 ^ (7 * i) := Int.pow_pos (by decide)
            have hcp : 0 ≤ c1 % 128 * 2 ^ (7 * i) := Int.mul_nonneg (by omega) (by omega)
            omega
          have hv1 := hI.small hcb h9
          refine W.skip (hK9 _ ?_)
          refine W.seqK fun K11 hK11 => W.region ?_
          refine WO.go 6 (ds := []) rfl ?_
          simp only [sx, ty, Bool.false_eq_true, Int.reduceEq, Int.reduceLT, Nat.reduceAdd, Nat.reduceSub, Nat.reduceMul, Nat.reduceLT, Nat.reduceLeDiff, Nat.reduceEqDiff, List.reduceReplicate, reduceIte, beq_self_eq_true, bne_self_eq_false, Int.reduceBEq, Int.reduceBNe, Bool.or_false, Bool.false_or, Bool.not_false, Bool.not_true, mbits, Int.reduceToNat, Int.reducePow, Int.toNat_natCast, hand, hor]
          refine WO.go 1 (ds := []) rfl ?_
          simp only [sx, ty, Bool.false_eq_true, Int.reduceEq, Int.reduceLT, Nat.reduceAdd, Nat.reduceSub, Nat.reduceMul, Nat.reduceLT, Nat.reduceLeDiff, Nat.reduceEqDiff, List.reduceReplicate, reduceIte, beq_self_eq_true, bne_self_eq_false, Int.reduceBEq, Int.reduceBNe, Bool.or_false, Bool.false_or, Bool.not_false, Bool.not_true, mbits, Int.reduceToNat, Int.reducePow, Int.toNat_natCast, hand, hor, sh7i hi9, sh7neg, sh7min hi9, Int.toNat_natCast, hor]
          refine WO.go 2 (ds := []) rfl ?_
          simp only [sx, ty, Bool.false_eq_true, Int.reduceEq, Int.reduceLT, Nat.reduceAdd, Nat.reduceSub, Nat.reduceMul, Nat.reduceLT, Nat.reduceLeDiff, Nat.reduceEqDiff, List.reduceReplicate, reduceIte, beq_self_eq_true, bne_self_eq_false, Int.reduceBEq, Int.reduceBNe, Bool.or_false, Bool.false_or, Bool.not_false, Bool.not_true, mbits, Int.reduceToNat, Int.reducePow, Int.toNat_natCast, hand, hor]
          with_reducible refine WO.nil ?_
          refine hK11 _ ?_; clear hK11
          refine W.seqK fun K12 hK12 => ?_
          refine W.pure (ds := []) rfl fun K13 hK13 => ?_
          simp only [sx, ty, Bool.false_eq_true, Int.reduceEq, Int.reduceLT, Nat.reduceAdd, Nat.reduceSub, Nat.reduceMul, Nat.reduceLT, Nat.reduceLeDiff, Nat.reduceEqDiff, List.reduceReplicate, reduceIte, beq_self_eq_true, bne_self_eq_false, Int.reduceBEq, Int.reduceBNe, Bool.or_false, Bool.false_or, Bool.not_false, Bool.not_true, mbits, Int.reduceToNat, Int.reducePow, Int.toNat_natCast, hand, hor]; with_reducible refine hK13 _ ?_; clear hK13
          refine W.cond rfl rfl (fun hc => ?_) (fun hc => ?_)
          · skip
            have h128 : 128 ≤ c1 := by simp at hc; omega
            refine W.exit (hK7 _ ?_)
            refine W.region ?_
            refine WO.go 2 (ds := []) rfl ?_
            simp only [sx, ty, Bool.false_eq_true, Int.reduceEq, Int.reduceLT, Nat.reduceAdd, Nat.reduceSub, Nat.reduceMul, Nat.reduceLT, Nat.reduceLeDiff, Nat.reduceEqDiff, List.reduceReplicate, reduceIte, beq_self_eq_true, bne_self_eq_false, Int.reduceBEq, Int.reduceBNe, Bool.or_false, Bool.false_or, Bool.not_false, Bool.not_true, mbits, Int.reduceToNat, Int.reducePow, Int.toNat_natCast, hand, hor]
            with_reducible refine WO.nil ?_
            refine ⟨(i + 1, u + c1 % 128 * 2 ^ (7 * i)), ?_, by first | omega | (simp; omega), rfl, by simp [getE, bnd, keepE, wrap_succ (show i + 1 ≤ 9223372036854775807 by omega)], ⟨_, rfl⟩, by simp [Own.bnd, bndL, bnd, boxO], by simp⟩
            exact hI.more hget hcb h9 h128
          · skip
            have h128 : ¬ 128 ≤ c1 := by simp at hc; omega
            refine W.skip (hK12 _ ?_)
            refine W.seqK fun K14 hK14 => ?_
            refine W.join 43 (.val (.bool (decide (c1 = 0 ∧ 0 < i)))) [0, 3, 4] (W.region ?_) ?_
            · skip
              refine WO.go 3 (ds := [some 38, some 39, some 40, some 41, some 42, some 43]) rfl ?_
              simp only [sx, ty, Bool.false_eq_true, Int.reduceEq, Int.reduceLT, Nat.reduceAdd, Nat.reduceSub, Nat.reduceMul, Nat.reduceLT, Nat.reduceLeDiff, Nat.reduceEqDiff, List.reduceReplicate, reduceIte, beq_self_eq_true, bne_self_eq_false, Int.reduceBEq, Int.reduceBNe, Bool.or_false, Bool.false_or, Bool.not_false, Bool.not_true, mbits, Int.reduceToNat, Int.reducePow, Int.toNat_natCast, hand, hor]
              refine WO.cases 40 _ rfl (fun hg40 => ?_) (fun hg40 => ?_)
              · skip
                refine WO.go 3 (ds := [some 38, some 39, some 40, some 41, some 42, some 43]) rfl ?_
                simp only [sx, ty, Bool.false_eq_true, Int.reduceEq, Int.reduceLT, Nat.reduceAdd, Nat.reduceSub, Nat.reduceMul, Nat.reduceLT, Nat.reduceLeDiff, Nat.reduceEqDiff, List.reduceReplicate, reduceIte, beq_self_eq_true, bne_self_eq_false, Int.reduceBEq, Int.reduceBNe, Bool.or_false, Bool.false_or, Bool.not_false, Bool.not_true, mbits, Int.reduceToNat, Int.reducePow, Int.toNat_natCast, hand, hor]
                with_reducible refine WO.nil ?_
                refine ⟨rfl, ?_, ⟨_, rfl⟩, by simp [Own.bnd, bndL, bnd, boxO], by simp⟩
                try rw [hg40]
                simp [getE, bnd, keepE]
                try (have h4 : 0 < i := by simpa using hg40)
                try simp [h4]
                try rfl
                try simp_all
                try omega
              · skip
                refine WO.go 3 (ds := [some 38, some 39, some 40, some 41, some 42, some 43]) rfl ?_
                simp only [sx, ty, Bool.false_eq_true, Int.reduceEq, Int.reduceLT, Nat.reduceAdd, Nat.reduceSub, Nat.reduceMul, Nat.reduceLT, Nat.reduceLeDiff, Nat.reduceEqDiff, List.reduceReplicate, reduceIte, beq_self_eq_true, bne_self_eq_false, Int.reduceBEq, Int.reduceBNe, Bool.or_false, Bool.false_or, Bool.not_false, Bool.not_true, mbits, Int.reduceToNat, Int.reducePow, Int.toNat_natCast, hand, hor]
                with_reducible refine WO.nil ?_
                refine ⟨rfl, ?_, ⟨_, rfl⟩, by simp [Own.bnd, bndL, bnd, boxO], by simp⟩
                try rw [hg40]
                simp [getE, bnd, keepE]
                try (have h4 : 0 < i := by simpa using hg40)
                try simp [h4]
                try rfl
                try simp_all
                try omega
            · simp only [sx, ty, Bool.false_eq_true, Int.reduceEq, Int.reduceLT, Nat.reduceAdd, Nat.reduceSub, Nat.reduceMul, Nat.reduceLT, Nat.reduceLeDiff, Nat.reduceEqDiff, List.reduceReplicate, reduceIte, sxk, beq_self_eq_true, bne_self_eq_false, Int.reduceBEq, Int.reduceBNe, Bool.or_false, Bool.false_or, Bool.not_false, Bool.not_true, mbits, Int.reduceToNat, Int.reducePow, Int.toNat_natCast, hand, hor]
              refine W.cond rfl rfl (fun hc => ?_) (fun hc => ?_)
              · skip
                have h0 : c1 = 0 ∧ 0 < i := by simpa using hc
                refine W.region ?_
                refine WO.go 1 (ds := []) rfl ?_
                simp only [sx, ty, Bool.false_eq_true, Int.reduceEq, Int.reduceLT, Nat.reduceAdd, Nat.reduceSub, Nat.reduceMul, Nat.reduceLT, Nat.reduceLeDiff, Nat.reduceEqDiff, List.reduceReplicate, reduceIte, beq_self_eq_true, bne_self_eq_false, Int.reduceBEq, Int.reduceBNe, Bool.or_false, Bool.false_or, Bool.not_false, Bool.not_true, mbits, Int.reduceToNat, Int.reducePow, Int.toNat_natCast, hand, hor]
                refine WO.q (ds := []) rfl rfl rfl (QR.iface (v := .agg #[]) rfl ⟨_, rfl, fun _ => rfl⟩ rfl) ?_
                simp only [sx, ty, Bool.false_eq_true, Int.reduceEq, Int.reduceLT, Nat.reduceAdd, Nat.reduceSub, Nat.reduceMul, Nat.reduceLT, Nat.reduceLeDiff, Nat.reduceEqDiff, List.reduceReplicate, reduceIte, beq_self_eq_true, bne_self_eq_false, Int.reduceBEq, Int.reduceBNe, Bool.or_false, Bool.false_or, Bool.not_false, Bool.not_true, mbits, Int.reduceToNat, Int.reducePow, Int.toNat_natCast, hand, hor]
                refine WO.panic (ds := []) rfl rfl rfl rfl ?_
                simp only [andThen, inBlk, EndsP]
                refine ⟨⟨by simp, by simp⟩, fun ρ w1 hb => ⟨⟨readF_none (hI.zero hget h9 h0), rfl⟩, ?_, fun y h => .inl h⟩⟩
                exact freeO_holds rfl (hb.own 0 _ rfl ρ (Agree.refl _ _))
              · skip
                have h0 : ¬ (c1 = 0 ∧ 0 < i) := by simpa using hc
                have hrd := readF_some (hI.last hget h9 h128 h0)
                have hwi := wrap_succ (show i + 1 ≤ 9223372036854775807 by omega)
                have hlt1 : i + 1 ≤ b.length := hlt
                obtain ⟨p5, c5, he5, hl5⟩ := Rp.dropS (l := i + 1) hl0 hlt1
                refine W.skip (hK14 _ ?_)
                refine W.seqK fun K16 hK16 => W.region ?_
                refine WO.go 2 (ds := []) rfl ?_
                simp only [sx, ty, Bool.false_eq_true, Int.reduceEq, Int.reduceLT, Nat.reduceAdd, Nat.reduceSub, Nat.reduceMul, Nat.reduceLT, Nat.reduceLeDiff, Nat.reduceEqDiff, List.reduceReplicate, reduceIte, beq_self_eq_true, bne_self_eq_false, Int.reduceBEq, Int.reduceBNe, Bool.or_false, Bool.false_or, Bool.not_false, Bool.not_true, mbits, Int.reduceToNat, Int.reducePow, Int.toNat_natCast, hand, hor, hwi]
                refine WO.q (ds := []) rfl rfl rfl (QR.nilCheck rfl rfl) ?_
                refine WO.go 1 (ds := []) rfl ?_
                simp only [sx, ty, Bool.false_eq_true, Int.reduceEq, Int.reduceLT, Nat.reduceAdd, Nat.reduceSub, Nat.reduceMul, Nat.reduceLT, Nat.reduceLeDiff, Nat.reduceEqDiff, List.reduceReplicate, reduceIte, beq_self_eq_true, bne_self_eq_false, Int.reduceBEq, Int.reduceBNe, Bool.or_false, Bool.false_or, Bool.not_false, Bool.not_true, mbits, Int.reduceToNat, Int.reducePow, Int.toNat_natCast, hand, hor, hwi]
                refine WO.loadBox (k := 0) (i := 0) (sz := 1) (xs := [.slice p0 b.length c0]) (T := 57) (b := rb) rfl (ds := []) rfl rfl rfl rfl rfl (by simp [Addr.add_mid]) (by simp) agg23 sz23 (.inr rfl) ?_
                simp only [List.drop_succ_cons, List.drop_zero, List.take_succ_cons, List.take_zero, ofCells, Bool.false_eq_true, if_false, List.headD_cons]
                refine WO.go 2 (ds := []) rfl ?_
                simp only [sx, ty, Bool.false_eq_true, Int.reduceEq, Int.reduceLT, Nat.reduceAdd, Nat.reduceSub, Nat.reduceMul, Nat.reduceLT, Nat.reduceLeDiff, Nat.reduceEqDiff, List.reduceReplicate, reduceIte, beq_self_eq_true, bne_self_eq_false, Int.reduceBEq, Int.reduceBNe, Bool.or_false, Bool.false_or, Bool.not_false, Bool.not_true, mbits, Int.reduceToNat, Int.reducePow, Int.toNat_natCast, hand, hor, hwi]
                refine WO.slc (ds := []) rfl rfl rfl rfl rfl el23 rfl rfl (by simp [loS] <;> omega) (by simp [loS, hiS] <;> omega) (by simp [hiS] <;> omega) ?_
                rw [show slcV 1 p0 c0 (loS (some (IntKind.i64, ((i + 1 : Nat) : Int)))).toNat (hiS b.length none).toNat = .slice p5 (b.drop (i + 1)).length c5 from he5]
                simp only [sx, ty, Bool.false_eq_true, Int.reduceEq, Int.reduceLT, Nat.reduceAdd, Nat.reduceSub, Nat.reduceMul, Nat.reduceLT, Nat.reduceLeDiff, Nat.reduceEqDiff, List.reduceReplicate, reduceIte, beq_self_eq_true, bne_self_eq_false, Int.reduceBEq, Int.reduceBNe, Bool.or_false, Bool.false_or, Bool.not_false, Bool.not_true, mbits, Int.reduceToNat, Int.reducePow, Int.toNat_natCast, hand, hor, hwi]
                refine WO.q (ds := []) rfl rfl rfl (QR.nilCheck rfl rfl) ?_
                refine WO.go 1 (ds := []) rfl ?_
                simp only [sx, ty, Bool.false_eq_true, Int.reduceEq, Int.reduceLT, Nat.reduceAdd, Nat.reduceSub, Nat.reduceMul, Nat.reduceLT, Nat.reduceLeDiff, Nat.reduceEqDiff, List.reduceReplicate, reduceIte, beq_self_eq_true, bne_self_eq_false, Int.reduceBEq, Int.reduceBNe, Bool.or_false, Bool.false_or, Bool.not_false, Bool.not_true, mbits, Int.reduceToNat, Int.reducePow, Int.toNat_natCast, hand, hor, hwi]
                refine WO.storeBox (k := 0) (i := 0) (T := 57) (b := rb) (xs := [.slice p0 b.length c0]) rfl (ds := []) rfl rfl rfl rfl rfl (by simp [Addr.add_mid]) (by simp) rfl rfl sz23 ?_
                simp only [sx, ty, Bool.false_eq_true, Int.reduceEq, Int.reduceLT, Nat.reduceAdd, Nat.reduceSub, Nat.reduceMul, Nat.reduceLT, Nat.reduceLeDiff, Nat.reduceEqDiff, List.reduceReplicate, reduceIte, beq_self_eq_true, bne_self_eq_false, Int.reduceBEq, Int.reduceBNe, Bool.or_false, Bool.false_or, Bool.not_false, Bool.not_true, mbits, Int.reduceToNat, Int.reducePow, Int.toNat_natCast, hand, hor, hwi]
                with_reducible refine WO.nil ?_
                refine hK16 _ ?_; clear hK16
                refine W.pure (ds := []) rfl fun K17 hK17 => ?_
                simp only [sx, ty, Bool.false_eq_true, Int.reduceEq, Int.reduceLT, Nat.reduceAdd, Nat.reduceSub, Nat.reduceMul, Nat.reduceLT, Nat.reduceLeDiff, Nat.reduceEqDiff, List.reduceReplicate, reduceIte, beq_self_eq_true, bne_self_eq_false, Int.reduceBEq, Int.reduceBNe, Bool.or_false, Bool.false_or, Bool.not_false, Bool.not_true, mbits, Int.reduceToNat, Int.reducePow, Int.toNat_natCast, hand, hor, hwi]; with_reducible refine hK17 _ ?_; clear hK17
                refine W.ret ?_
                refine ⟨by simp, ?_⟩
                simp only [sx, ty, Bool.false_eq_true, Int.reduceEq, Int.reduceLT, Nat.reduceAdd, Nat.reduceSub, Nat.reduceMul, Nat.reduceLT, Nat.reduceLeDiff, Nat.reduceEqDiff, List.reduceReplicate, reduceIte, sxr, beq_self_eq_true, bne_self_eq_false, Int.reduceBEq, Int.reduceBNe, Bool.or_false, Bool.false_or, Bool.not_false, Bool.not_true, mbits, Int.reduceToNat, Int.reducePow, Int.toNat_natCast, hand, hor, hwi]
                intro ρ w1 hb
                refine ⟨(unzig (u + c1 % 128 * 2 ^ (7 * i)), i + 1, p5, c5), by simp only [den]; exact congrArg (Value.int .i64) (unzig_code' hv0 hv1), ⟨hrd, hlt1, he5⟩, freeO_holds rfl (hb.own 0 _ rfl ρ (Agree.refl _ _)), fun y h => .inl h⟩
    · skip
      have hge : b.length ≤ i := by simpa using hc
      refine W.exit (hK3 _ ?_)
      refine W.region ?_
      refine WO.go 1 (ds := []) rfl ?_
      simp only [sx, ty, Bool.false_eq_true, Int.reduceEq, Int.reduceLT, Nat.reduceAdd, Nat.reduceSub, Nat.reduceMul, Nat.reduceLT, Nat.reduceLeDiff, Nat.reduceEqDiff, List.reduceReplicate, reduceIte, beq_self_eq_true, bne_self_eq_false, Int.reduceBEq, Int.reduceBNe, Bool.or_false, Bool.false_or, Bool.not_false, Bool.not_true, mbits, Int.reduceToNat, Int.reducePow, Int.toNat_natCast]
      refine WO.q (ds := []) rfl rfl rfl (QR.iface (v := .agg #[]) rfl ⟨_, rfl, fun _ => rfl⟩ rfl) ?_
      simp only [sx, ty, Bool.false_eq_true, Int.reduceEq, Int.reduceLT, Nat.reduceAdd, Nat.reduceSub, Nat.reduceMul, Nat.reduceLT, Nat.reduceLeDiff, Nat.reduceEqDiff, List.reduceReplicate, reduceIte, beq_self_eq_true, bne_self_eq_false, Int.reduceBEq, Int.reduceBNe, Bool.or_false, Bool.false_or, Bool.not_false, Bool.not_true, mbits, Int.reduceToNat, Int.reducePow, Int.toNat_natCast]
      refine WO.panic (ds := []) rfl rfl rfl rfl ?_
      simp only [andThen, inBlk, EndsP]
      refine ⟨⟨by simp, by simp⟩, fun ρ w1 hb => ⟨⟨readF_none (hI.none0 hge), rfl⟩, ?_, fun y h => .inl h⟩⟩
      exact freeO_holds rfl (hb.own 0 _ rfl ρ (Agree.refl _ _))
end Go.Proofs.Ytnbfdncmlbegmaa
