/-
  Codec: frames one behind the other (reference): walk.
-/
import Derived.Test.YtnbfdncmlbegmaaC8
set_option linter.unusedVariables false
set_option linter.unusedSimpArgs false
set_option maxHeartbeats 1000000
namespace Go.Proofs.Ytnbfdncmlbegmaa
open Go Go.SX Go.RowKit

def framesN : Nat → List Int → List (List Int) × Nat
  | 0, _ => ([], 0)
  | f + 1, b => match wholeF b with
    | none => ([], 0)
    | some (l, n) => (l :: (framesN f (b.drop n)).1, n + (framesN f (b.drop n)).2)
def framesF (b : List Int) : List (List Int) × Nat := framesN b.length b
def FramesF (b : List Int) : List (List Int) × Nat × Int := if 200000 < b.length then ([], 0, 2) else ((framesF b).1, (framesF b).2, 0)
theorem FramesF_long {b : List Int} (h : 200000 < b.length) : FramesF b = ([], 0, 2) := if_pos h
theorem FramesF_ok {b : List Int} (h : ¬ 200000 < b.length) : FramesF b = ((framesF b).1, (framesF b).2, 0) := if_neg h
theorem wholeF_len {b l : List Int} {n : Nat} (h : wholeF b = some (l, n)) : n = lenN b + 11 ∧ n ≤ b.length := by
  unfold wholeF at h
  split at h
  · cases h
  · split at h
    · cases h
    · split at h
      · cases hg : getF ((b.drop 3).take (lenN b)) with
        | none => rw [hg] at h; cases h
        | some l' => rw [hg] at h; simp only [Option.map_some, Option.some.injEq, Prod.mk.injEq] at h; omega
      · cases h
theorem WholeF_cases (b : List Int) : (wholeF b = none ∧ WholeF b = ([], 0)) ∨ (wholeF b = some (WholeF b) ∧ 11 ≤ (WholeF b).2 ∧ (WholeF b).2 ≤ b.length) := by
  unfold WholeF
  cases h : wholeF b with
  | none => exact .inl ⟨rfl, rfl⟩
  | some x => have := wholeF_len (l := x.1) (n := x.2) h; exact .inr ⟨rfl, by simp only [Option.getD_some]; omega, this.2⟩
structure FrI (b : List Int) (f a : Nat) (ls : List (List Int)) : Prop where
  al : a ≤ b.length
  fl : b.length - a ≤ f
  ll : ls.length ≤ a
  eq : framesF b = (ls ++ (framesN f (b.drop a)).1, a + (framesN f (b.drop a)).2)
theorem FrI.start (b : List Int) : FrI b b.length 0 [] := ⟨Nat.zero_le _, by omega, by simp, by simp [framesF]⟩
theorem FrI.stop {b : List Int} {f a : Nat} {ls : List (List Int)} (h : FrI b f a ls) (hz : (WholeF (b.drop a)).2 = 0) : framesF b = (ls, a) := by
  rcases WholeF_cases (b.drop a) with ⟨h1, h2⟩ | ⟨h1, h2, h3⟩
  · rw [h.eq]
    cases f with
    | zero => simp [framesN]
    | succ f => rw [framesN, h1]; simp
  · omega
theorem FrI.more {b : List Int} {f a : Nat} {ls : List (List Int)} (h : FrI b f a ls) (hz : ¬ (WholeF (b.drop a)).2 = 0) : ∃ g, f = g + 1 ∧ FrI b g (a + (WholeF (b.drop a)).2) (ls ++ [(WholeF (b.drop a)).1]) := by
  rcases WholeF_cases (b.drop a) with ⟨h1, h2⟩ | ⟨h1, h2, h3⟩
  · rw [h2] at hz; exact absurd rfl hz
  · have h4 := h.al; have h5 := h.fl; have h6 := h.ll
    rw [List.length_drop] at h3
    cases f with
    | zero => omega
    | succ g =>
      refine ⟨g, rfl, by omega, by omega, by simp; omega, ?_⟩
      rw [h.eq, framesN, h1]
      simp only [List.drop_drop, List.append_assoc, List.cons_append, List.nil_append, Prod.mk.injEq, true_and]
      omega
/-- the rows that are there -/
structure RowsL (S : Nat → Prop) (s : World) (ls : List (List Int)) (vs : List Value) : Prop where
  len : vs.length = ls.length
  row : ∀ (j : Nat) l, ls[j]? = some l → ∃ v, vs[j]? = some v ∧ rInts.rd S s [v] l
theorem RowsL.list {ρ : Nat → Nat} {σ : St} {w1 w s4 : World} {S4 : Nat → Prop} {ls : List (List Int)} {vs : List Value} {p : Option Addr} {c : Nat} (h : RowsL S4 s4 ls vs) (hb : Base ρ σ w1) (hk : nth σ.own 0 = some (.slice 22 1 (.slice p ls.length c) ls.length vs))
    (hm : (S4, s4) ∈ σ.snaps) (hw : ((fun _ => True), w) ∈ σ.snaps) (hnew : ∀ b, S4 b → w.heap.size ≤ b) : rLists.rd (fun b => w.heap.size ≤ b) w1 [.slice p ls.length c] ls :=
  own_slice (A := rInts) (k := 0) hb hk rfl (fun b hb' => own_new hb hw (k := 0) hk hb') fun i y hy => by
    obtain ⟨v, h1, h2⟩ := h.row i y hy
    rw [show rInts.sz = 1 from rfl, take_one _ i _ h1]
    exact Rp.mono _ (Rp.keep h2 (hb.at hm)) fun b hb' _ => hnew b hb'
theorem RowsL.more {ρ : Nat → Nat} {σ : St} {w1 w s4 s5 : World} {S4 : Nat → Prop} {lo : Nat} {ls : List (List Int)} {l : List Int} {vs : List Value} {v : Value} (h : RowsL S4 s4 ls vs) (hb : Base ρ σ w1) (hm : (S4, s4) ∈ σ.snaps) (hm5 : ((fun b => lo ≤ b), s5) ∈ σ.snaps)
    (hnew : ∀ b, S4 b → w.heap.size ≤ b) (hlo : w.heap.size ≤ lo) (hl : rInts.rd (fun b => lo ≤ b) s5 [v] l) : ∃ S, (RowsL S w1 (ls ++ [l]) (vs ++ [v]) ∧ ∀ b, S b → w.heap.size ≤ b) ∧ ∀ k (o : SX.Own) b, σ.own[k]? = some o → k ∉ ([] : List Nat) → o.num ρ k = some b → ¬ S b := by
  refine ⟨fun b => joinS S4 s4 ρ σ [] b ∨ joinS (fun b => lo ≤ b) s5 ρ σ [] b, ⟨⟨by simp [h.len], fun j y hy => ?_⟩, ?_⟩, fun k o b hk hks hn hS => ?_⟩
  · rcases Nat.lt_or_ge j ls.length with hj | hj
    · rw [List.getElem?_append_left hj] at hy
      obtain ⟨u, h1, h2⟩ := h.row j y hy
      exact ⟨u, by rw [List.getElem?_append_left (by rw [h.len]; exact hj)]; exact h1, Rp.mono _ (Rp.joinS h2 hb hm []) fun b h _ => .inl h⟩
    · rw [List.getElem?_append_right hj] at hy
      have hj0 := (List.getElem?_eq_some_iff.1 hy).1
      simp only [List.length_cons, List.length_nil] at hj0
      obtain rfl : j = ls.length := by omega
      simp only [Nat.sub_self, List.getElem?_cons_zero, Option.some.injEq] at hy
      subst hy
      exact ⟨v, by rw [List.getElem?_append_right (by rw [h.len]; exact Nat.le_refl _), h.len]; simp, Rp.mono _ (Rp.joinS hl hb hm5 []) fun b h _ => .inr h⟩
  · rintro b ((⟨h1, _⟩ | ⟨k, o, h1, _⟩) | (⟨h1, _⟩ | ⟨k, o, h1, _⟩))
    · exact hnew b h1
    · cases h1
    · exact Nat.le_trans hlo h1
    · cases h1
  · rcases hS with hS | hS
    · exact joinS_apart hb hm [] k o b hk hks hn hS
    · exact joinS_apart hb hm5 [] k o b hk hks hn hS
/-- function 19 -/
theorem rFrames_spec {S : Nat → Prop} {w : World} {v : Value} {b : List Int} (hl : rBytes.rd S w [v] b) (hb8 : ∀ x, x ∈ b → isB x) : Gives Try.prog 19 #[v] w fun r w' =>
    ∃ x : Option Addr × Nat, r = .tuple #[.slice x.1 (FramesF b).1.length x.2, .int .i64 ((FramesF b).2.1 : Nat), .int .i64 (FramesF b).2.2] ∧ rLists.rd (fun b => w.heap.size ≤ b) w' [.slice x.1 (FramesF b).1.length x.2] (FramesF b).1 := by
  obtain ⟨p, c, rfl, hc1, hc2⟩ := Rp.slice_val hl
  have hl : (Rp.slice rByte).rd (fun _ => True) w _ b := Rp.any hl
  refine gives_of [.val (.slice p b.length c)] 30 [.tmp 2, .tmp 3, .tmp 4] Try.func19 rfl rfl rfl (by simp) rfl rfl ?_
  refine W.pure (ds := []) rfl fun K1 hK1 => ?_
  simp only [sx, ty, Bool.false_eq_true, Int.reduceEq, Int.reduceLT, Nat.reduceAdd, Nat.reduceSub, Nat.reduceMul, Nat.reduceLT, Nat.reduceLeDiff, Nat.reduceEqDiff, List.reduceReplicate, reduceIte, beq_self_eq_true, bne_self_eq_false, Int.reduceBEq, Int.reduceBNe, Bool.or_false, Bool.false_or, Bool.not_false, Bool.not_true, mbits, Int.reduceToNat, Int.reducePow, Int.toNat_natCast]; with_reducible refine hK1 _ ?_; clear hK1
  refine W.seqK fun K2 hK2 => ?_
  refine W.pure (ds := []) rfl fun K3 hK3 => ?_
  simp only [sx, ty, Bool.false_eq_true, Int.reduceEq, Int.reduceLT, Nat.reduceAdd, Nat.reduceSub, Nat.reduceMul, Nat.reduceLT, Nat.reduceLeDiff, Nat.reduceEqDiff, List.reduceReplicate, reduceIte, beq_self_eq_true, bne_self_eq_false, Int.reduceBEq, Int.reduceBNe, Bool.or_false, Bool.false_or, Bool.not_false, Bool.not_true, mbits, Int.reduceToNat, Int.reducePow, Int.toNat_natCast]; with_reducible refine hK3 _ ?_; clear hK3
  refine W.cond rfl rfl (fun hc => ?_) (fun hc => ?_)
  · skip
    have h0 : 200000 < b.length := by simp at hc; omega
    refine W.pure (ds := []) rfl fun K4 hK4 => ?_
    simp only [sx, ty, Bool.false_eq_true, Int.reduceEq, Int.reduceLT, Nat.reduceAdd, Nat.reduceSub, Nat.reduceMul, Nat.reduceLT, Nat.reduceLeDiff, Nat.reduceEqDiff, List.reduceReplicate, reduceIte, beq_self_eq_true, bne_self_eq_false, Int.reduceBEq, Int.reduceBNe, Bool.or_false, Bool.false_or, Bool.not_false, Bool.not_true, mbits, Int.reduceToNat, Int.reducePow, Int.toNat_natCast]; with_reducible refine hK4 _ ?_; clear hK4
    refine W.ret ⟨by simp, _, rfl, fun ρ w1 hb => ?_⟩
    rw [FramesF_long h0]
    exact ⟨(none, 0), rfl, Rp.slice_nil (by omega)⟩
  · skip
    have h0 : ¬ 200000 < b.length := by simp at hc; omega
    refine W.skip (hK2 _ ?_)
    refine W.pure (ds := []) rfl fun K5 hK5 => ?_
    simp only [sx, ty, Bool.false_eq_true, Int.reduceEq, Int.reduceLT, Nat.reduceAdd, Nat.reduceSub, Nat.reduceMul, Nat.reduceLT, Nat.reduceLeDiff, Nat.reduceEqDiff, List.reduceReplicate, reduceIte, beq_self_eq_true, bne_self_eq_false, Int.reduceBEq, Int.reduceBNe, Bool.or_false, Bool.false_or, Bool.not_false, Bool.not_true, mbits, Int.reduceToNat, Int.reducePow, Int.toNat_natCast]; with_reducible refine hK5 _ ?_; clear hK5
    refine W.pure (ds := []) rfl fun K6 hK6 => ?_
    simp only [sx, ty, Bool.false_eq_true, Int.reduceEq, Int.reduceLT, Nat.reduceAdd, Nat.reduceSub, Nat.reduceMul, Nat.reduceLT, Nat.reduceLeDiff, Nat.reduceEqDiff, List.reduceReplicate, reduceIte, beq_self_eq_true, bne_self_eq_false, Int.reduceBEq, Int.reduceBNe, Bool.or_false, Bool.false_or, Bool.not_false, Bool.not_true, mbits, Int.reduceToNat, Int.reducePow, Int.toNat_natCast]; with_reducible refine hK6 _ ?_; clear hK6
    refine W.block ?_
    refine W.ownNil 22 1 ?_
    refine W.snapE (S := fun _ => True) (s := w) (fun _ => False) (by simp [St.pushO]) (fun _ h => h.elim) ?_
    simp only [sx, ty, Bool.false_eq_true, Int.reduceEq, Int.reduceLT, Nat.reduceAdd, Nat.reduceSub, Nat.reduceMul, Nat.reduceLT, Nat.reduceLeDiff, Nat.reduceEqDiff, List.reduceReplicate, reduceIte, St.pushO, St.snap, List.nil_append]
    refine W.loopO (X := Nat × Nat × List (List Int) × List Value × Option Addr × Nat × (Nat → Prop) × World) [0] (fun x => [(5, .val (.slice x.2.2.2.2.1 x.2.2.1.length x.2.2.2.2.2.1)), (6, .val (.int .i64 x.2.1))]) (fun x => [.slice 22 1 (.slice x.2.2.2.2.1 x.2.2.1.length x.2.2.2.2.2.1) x.2.2.1.length x.2.2.2.1]) (fun x => [(x.2.2.2.2.2.2.1, x.2.2.2.2.2.2.2), ((fun _ => True), w)]) (fun x => FrI b x.1 x.2.1 x.2.2.1 ∧ RowsL x.2.2.2.2.2.2.1 x.2.2.2.2.2.2.2 x.2.2.1 x.2.2.2.1 ∧ (∀ b, x.2.2.2.2.2.2.1 b → w.heap.size ≤ b)) (fun x => x.1) (b.length, 0, [], [], none, 0, (fun _ => False), w) ?_ ?_ ?_
    · exact ⟨rfl, by simp [getE, bnd, keepE], ⟨[], by simp⟩, by simp [Own.bnd, bndL, bnd, boxO], by simp⟩
    · skip
      exact ⟨FrI.start b, ⟨rfl, fun j l h => by simp at h⟩, fun b h => h.elim⟩
    · rintro ⟨f, a, ls, vs, p3, c3, S4, s4⟩ ⟨hI, hR, hnew⟩
      simp only at hI hR hnew
      have hal := hI.al
      have hll := hI.ll
      simp only [sx, ty, Bool.false_eq_true, Int.reduceEq, Int.reduceLT, Nat.reduceAdd, Nat.reduceSub, Nat.reduceMul, Nat.reduceLT, Nat.reduceLeDiff, Nat.reduceEqDiff, List.reduceReplicate, reduceIte, sxk, beq_self_eq_true, bne_self_eq_false, Int.reduceBEq, Int.reduceBNe, Bool.or_false, Bool.false_or, Bool.not_false, Bool.not_true, mbits, Int.reduceToNat, Int.reducePow, Int.toNat_natCast]
      refine W.block ?_
      refine W.seqK fun K7 hK7 => W.region ?_
      refine WO.go 2 (ds := []) rfl ?_
      simp only [sx, ty, Bool.false_eq_true, Int.reduceEq, Int.reduceLT, Nat.reduceAdd, Nat.reduceSub, Nat.reduceMul, Nat.reduceLT, Nat.reduceLeDiff, Nat.reduceEqDiff, List.reduceReplicate, reduceIte, beq_self_eq_true, bne_self_eq_false, Int.reduceBEq, Int.reduceBNe, Bool.or_false, Bool.false_or, Bool.not_false, Bool.not_true, mbits, Int.reduceToNat, Int.reducePow, Int.toNat_natCast]
      obtain ⟨p2, c2, he2, hl2⟩ := Rp.dropS (l := a) hl hal
      refine WO.slc (ds := []) rfl rfl rfl rfl rfl el23 rfl rfl (by simp [loS] <;> omega) (by simp [loS, hiS] <;> omega) (by simp [hiS] <;> omega) ?_
      rw [show slcV 1 p c (loS (some (IntKind.i64, (a : Int)))).toNat (hiS b.length none).toNat = .slice p2 (b.drop a).length c2 from he2]
      simp only [sx, ty, Bool.false_eq_true, Int.reduceEq, Int.reduceLT, Nat.reduceAdd, Nat.reduceSub, Nat.reduceMul, Nat.reduceLT, Nat.reduceLeDiff, Nat.reduceEqDiff, List.reduceReplicate, reduceIte, beq_self_eq_true, bne_self_eq_false, Int.reduceBEq, Int.reduceBNe, Bool.or_false, Bool.false_or, Bool.not_false, Bool.not_true, mbits, Int.reduceToNat, Int.reducePow, Int.toNat_natCast]
      refine WO.callM (fun x : Option Addr × Nat => .tuple #[.slice x.1 (WholeF (b.drop a)).1.length x.2, .int .i64 ((WholeF (b.drop a)).2 : Nat)]) (fun lo x s9 => w.heap.size ≤ lo ∧ rInts.rd (fun b => lo ≤ b) s9 [.slice x.1 (WholeF (b.drop a)).1.length x.2] (WholeF (b.drop a)).1) (ds := []) rfl rfl rfl rfl co32 (fun ρ w1 hb => Gives.mono (rwhole_spec (Rp.now hl2 (hb.at (S := fun _ => True) (s := w) (by simp))) (fun x hx => hb8 x (List.mem_of_mem_drop hx))) fun _ _ _ ⟨x, h1, h2⟩ => ⟨x, h1, (hb.at (S := fun _ => True) (s := w) (by simp)).size, h2⟩) fun x lo hr1s ⟨hr1lo, hr1⟩ => ?_
      obtain ⟨hr1p, hr1c⟩ := x
      simp only at hr1
      refine WO.go 5 (ds := []) rfl ?_
      simp only [sx, ty, Bool.false_eq_true, Int.reduceEq, Int.reduceLT, Nat.reduceAdd, Nat.reduceSub, Nat.reduceMul, Nat.reduceLT, Nat.reduceLeDiff, Nat.reduceEqDiff, List.reduceReplicate, reduceIte, beq_self_eq_true, bne_self_eq_false, Int.reduceBEq, Int.reduceBNe, Bool.or_false, Bool.false_or, Bool.not_false, Bool.not_true, mbits, Int.reduceToNat, Int.reducePow, Int.toNat_natCast]
      with_reducible refine WO.nil ?_
      refine hK7 _ ?_; clear hK7
      refine W.seqK fun K8 hK8 => ?_
      refine W.pure (ds := []) rfl fun K9 hK9 => ?_
      simp only [sx, ty, Bool.false_eq_true, Int.reduceEq, Int.reduceLT, Nat.reduceAdd, Nat.reduceSub, Nat.reduceMul, Nat.reduceLT, Nat.reduceLeDiff, Nat.reduceEqDiff, List.reduceReplicate, reduceIte, beq_self_eq_true, bne_self_eq_false, Int.reduceBEq, Int.reduceBNe, Bool.or_false, Bool.false_or, Bool.not_false, Bool.not_true, mbits, Int.reduceToNat, Int.reducePow, Int.toNat_natCast]; with_reducible refine hK9 _ ?_; clear hK9
      refine W.cond rfl rfl (fun hc => ?_) (fun hc => ?_)
      · skip
        have hz : (WholeF (b.drop a)).2 = 0 := by simp at hc; omega
        refine W.pure (ds := []) rfl fun K10 hK10 => ?_
        simp only [sx, ty, Bool.false_eq_true, Int.reduceEq, Int.reduceLT, Nat.reduceAdd, Nat.reduceSub, Nat.reduceMul, Nat.reduceLT, Nat.reduceLeDiff, Nat.reduceEqDiff, List.reduceReplicate, reduceIte, beq_self_eq_true, bne_self_eq_false, Int.reduceBEq, Int.reduceBNe, Bool.or_false, Bool.false_or, Bool.not_false, Bool.not_true, mbits, Int.reduceToNat, Int.reducePow, Int.toNat_natCast]; with_reducible refine hK10 _ ?_; clear hK10
        refine W.ret ⟨by simp, _, rfl, fun ρ w1 hb => ?_⟩
        rw [FramesF_ok h0, hI.stop hz]
        exact ⟨(p3, c3), by simp only [den, denL], hR.list hb rfl (by simp) (by simp) hnew⟩
      · skip
        have hz : ¬ (WholeF (b.drop a)).2 = 0 := by simp at hc; omega
        obtain ⟨g, hg, hI2⟩ := hI.more hz
        have hal2 := hI2.al
        refine W.skip (hK8 _ ?_)
        refine W.seqK fun K11 hK11 => W.region ?_
        refine WO.go 3 (ds := []) rfl ?_
        simp only [sx, ty, Bool.false_eq_true, Int.reduceEq, Int.reduceLT, Nat.reduceAdd, Nat.reduceSub, Nat.reduceMul, Nat.reduceLT, Nat.reduceLeDiff, Nat.reduceEqDiff, List.reduceReplicate, reduceIte, beq_self_eq_true, bne_self_eq_false, Int.reduceBEq, Int.reduceBNe, Bool.or_false, Bool.false_or, Bool.not_false, Bool.not_true, mbits, Int.reduceToNat, Int.reducePow, Int.toNat_natCast]
        refine WO.append (k := 0) (m := 1) [.slice hr1p (WholeF (b.drop a)).1.length hr1c] (ds := []) rfl rfl rfl rfl rfl rfl rfl ek32 (news_own (k2 := 1) rfl fun _ => rfl) rfl (by simp [Value.oneCell']) (by rw [maxLen_eq]; omega) (by omega) fun p6 c6 => ?_
        refine WO.go 1 (ds := []) rfl ?_
        simp only [sx, ty, Bool.false_eq_true, Int.reduceEq, Int.reduceLT, Nat.reduceAdd, Nat.reduceSub, Nat.reduceMul, Nat.reduceLT, Nat.reduceLeDiff, Nat.reduceEqDiff, List.reduceReplicate, reduceIte, beq_self_eq_true, bne_self_eq_false, Int.reduceBEq, Int.reduceBNe, Bool.or_false, Bool.false_or, Bool.not_false, Bool.not_true, mbits, Int.reduceToNat, Int.reducePow, Int.toNat_natCast]
        with_reducible refine WO.nil ?_
        refine hK11 _ ?_; clear hK11
        refine W.region ?_
        refine WO.go 4 (ds := []) rfl ?_
        simp only [sx, ty, Bool.false_eq_true, Int.reduceEq, Int.reduceLT, Nat.reduceAdd, Nat.reduceSub, Nat.reduceMul, Nat.reduceLT, Nat.reduceLeDiff, Nat.reduceEqDiff, List.reduceReplicate, reduceIte, beq_self_eq_true, bne_self_eq_false, Int.reduceBEq, Int.reduceBNe, Bool.or_false, Bool.false_or, Bool.not_false, Bool.not_true, mbits, Int.reduceToNat, Int.reducePow, Int.toNat_natCast]
        refine WO.snapK [] (fun S s => RowsL S s (ls ++ [(WholeF (b.drop a)).1]) (vs ++ [.slice hr1p (WholeF (b.drop a)).1.length hr1c]) ∧ ∀ b, S b → w.heap.size ≤ b) (fun ρ w1 hb => hR.more hb (by simp) (by simp) hnew hr1lo hr1) (fun S5 s5 hS5 => ?_)
        simp only [sx, ty, Bool.false_eq_true, Int.reduceEq, Int.reduceLT, Nat.reduceAdd, Nat.reduceSub, Nat.reduceMul, Nat.reduceLT, Nat.reduceLeDiff, Nat.reduceEqDiff, List.reduceReplicate, reduceIte, sxd]
        with_reducible refine WO.nil ?_
        refine ⟨(g, a + (WholeF (b.drop a)).2, ls ++ [(WholeF (b.drop a)).1], vs ++ [.slice hr1p (WholeF (b.drop a)).1.length hr1c], p6, c6, S5, s5), ⟨hI2, hS5⟩, by simp only; omega, rfl, by simp [getE, bnd, keepE, wrap_id (x := (a : Int) + ((WholeF (b.drop a)).2 : Nat)) (by omega) (by omega)], ⟨[.cells 22 [.val (.slice hr1p (WholeF (b.drop a)).1.length hr1c)]], by simp⟩, by simp [Own.bnd, bndL, bnd], by simp⟩
end Go.Proofs.Ytnbfdncmlbegmaa
