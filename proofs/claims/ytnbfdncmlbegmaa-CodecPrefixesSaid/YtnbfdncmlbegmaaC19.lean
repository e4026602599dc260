/-
  Codec: CodecTorn, CodecBehind, CodecPrefixes: walks.
-/
import Derived.Test.YtnbfdncmlbegmaaC18
set_option linter.unusedVariables false
set_option linter.unusedSimpArgs false
set_option maxHeartbeats 1000000
namespace Go.Proofs.Ytnbfdncmlbegmaa
open Go Go.SX Go.RowKit

theorem rem16 {i : Int} {n : Nat} (h : 0 ≤ i ∧ i ≤ 65535) (hn : 0 < n) : ∃ m : Nat, (IntKind.i64.wrap i).tmod (n : Int) = (m : Int) ∧ m < n := by
  rw [wrap_id (by omega) (by omega)]
  refine ⟨(i.tmod n).toNat, ?_, ?_⟩
  · have := Int.tmod_nonneg (n : Int) h.1; omega
  · have := Int.tmod_nonneg (n : Int) h.1; have := Int.tmod_lt_of_pos i (show (0 : Int) < n by omega); omega
theorem sub_eqL {α : Type} {b : List α} {l h m : Nat} (hm : h - l = m) : (b.drop l).take (h - l) = (b.drop l).take m := by rw [hm]
theorem allF_isB {ls : List (List Int)} (h : ∀ l, l ∈ ls → okL l) : ∀ x, x ∈ allF ls → isB x := fun x hx => by
  simp only [allF, List.mem_flatten, List.mem_map] at hx
  obtain ⟨y, ⟨l, hl, rfl⟩, hy⟩ := hx
  exact frameF_isB (putF_isB (h l hl).2 (h l hl).1) x hy
/-- append of nothing -/
theorem QR.appNone {P : Program} {o : Oper} {σ : St} {x y : Operand} {t e : TypeId} {sz by' c2 m9 : Nat} {q : Option Addr} {s : SV} {zs : List Value} (hop : o.op = .call ⟨.builtin .append, #[x, y], #[t, t]⟩) (hx : ev σ x = some s) (hs9 : ∀ ρ w, Base ρ σ w → ∃ p n c, den ρ s = .slice p n c ∧ n ≤ c)
    (hy : ev σ y = some (.val (.slice q m9 c2))) (hm9 : m9 = 0) (he : elemK P t = some (e, sz, by', zs)) : QR P o σ s := fun ρ a w hs => by
  obtain ⟨hu, i, z, hi, hz, hsz, hby, hzs, hpos, hzl⟩ := elemK_spec he
  obtain ⟨p, n, c, hd, hle⟩ := hs9 ρ w hs.base
  subst hm9
  have h1 := hs.ev hx ρ (Agree.refl _ _)
  refine ⟨den ρ s, ?_, fun ρ' hρ => ?_⟩
  · unfold execOp
    rw [hop]
    simp only [Sem.run_bind, resolve, List.map_toArray, List.map_cons, List.map_nil, Sem.run_pure, Result.andThen_ok, invoke, builtin]
    rw [h1, hs.ev hy ρ (Agree.refl _ _), hd]
    simp only [den]
    cases p <;> cases q <;> simp [Builtin.append_, run_underlying hu, sizeOf, typeInfo, hi, Builtin.lenOf, Builtin.firstCells, hle, storeCells, loadCells, loadCellsFrom, Result.andThen]
  · have h2 := hs.ev hx ρ' hρ
    rw [h1] at h2; exact h2
theorem own_cap {ρ : Nat → Nat} {σ : St} {w : World} {k n c sz : Nat} {e : TypeId} {p : Option Addr} {xs : List Value} (hb : Base ρ σ w) (hk : nth σ.own k = some (.slice e sz (.slice p n c) n xs)) : n ≤ c := by
  rw [nth_eq] at hk
  have h := hb.own k _ hk ρ (Agree.refl _ _)
  simp only [Own.holds] at h
  rcases h.2 with ⟨h1, h2⟩ | ⟨g, cap, cur, h1, _, _, h2, _⟩
  · omega
  · simp only [Value.slice.injEq] at h1; omega
theorem framesN_len : ∀ (f : Nat) (b : List Int), (framesN f b).1.length ≤ (framesN f b).2 ∧ (framesN f b).2 ≤ b.length
  | 0, b => by simp [framesN]
  | f + 1, b => by
    rw [framesN]
    cases h : wholeF b with
    | none => simp
    | some x =>
      obtain ⟨l, n⟩ := x
      have h1 := framesN_len f (b.drop n)
      have h2 := wholeF_len h
      rw [List.length_drop] at h1
      simp only [List.length_cons]; omega
theorem framesF_len (b : List Int) : (framesF b).1.length ≤ (framesF b).2 ∧ (framesF b).2 ≤ b.length := framesN_len _ b
theorem allF_pos {l : List (List Int)} (h : l ≠ []) : 0 < (allF l).length := by
  cases l with
  | nil => exact absurd rfl h
  | cons x l => rw [allF_cons, List.length_append, frameF_len]; omega
/-- function 5 -/
theorem law3 {S : Nat → Prop} {w : World} {v : Value} {l : List (List Int)} {cut : Int} (hl : rLists.rd S w [v] l) (hI : ∀ x, x ∈ l → ∀ n, n ∈ x → isI n) (hcut : 0 ≤ cut ∧ cut ≤ 65535) : Gives Try.prog 5 #[v, .int .u16 cut] w fun r _ => r = .bool true := by
  obtain ⟨p, c, rfl, hc1, hc2⟩ := Rp.slice_val hl
  have hl : (Rp.slice rInts).rd (fun _ => True) w _ l := Rp.any hl
  refine gives_of [.val (.slice p l.length c), .val (.int .u16 cut)] 78 [.tmp 4] Try.func5 rfl rfl rfl (by simp) rfl rfl ?_
  refine W.pure (ds := []) rfl fun K1 hK1 => ?_
  simp only [sx, ty, Bool.false_eq_true, Int.reduceEq, Int.reduceLT, Nat.reduceAdd, Nat.reduceSub, Nat.reduceMul, Nat.reduceLT, Nat.reduceLeDiff, Nat.reduceEqDiff, List.reduceReplicate, reduceIte, beq_self_eq_true, bne_self_eq_false, Int.reduceBEq, Int.reduceBNe, Bool.or_false, Bool.false_or, Bool.not_false, Bool.not_true, mbits, Int.reduceToNat, Int.reducePow, Int.toNat_natCast]; with_reducible refine hK1 _ ?_; clear hK1
  refine W.seqK fun K2 hK2 => W.region ?_
  refine WO.call (.bool true) (ds := []) rfl rfl rfl rfl co9 (fun ρ w1 hb => head_spec w1) ?_
  refine WO.go 1 (ds := []) rfl ?_
  simp only [sx, ty, Bool.false_eq_true, Int.reduceEq, Int.reduceLT, Nat.reduceAdd, Nat.reduceSub, Nat.reduceMul, Nat.reduceLT, Nat.reduceLeDiff, Nat.reduceEqDiff, List.reduceReplicate, reduceIte, beq_self_eq_true, bne_self_eq_false, Int.reduceBEq, Int.reduceBNe, Bool.or_false, Bool.false_or, Bool.not_false, Bool.not_true, mbits, Int.reduceToNat, Int.reducePow, Int.toNat_natCast]
  with_reducible refine WO.nil ?_
  refine hK2 _ ?_; clear hK2
  refine W.seqK fun K3 hK3 => ?_
  refine W.seqK fun K4 hK4 => W.region ?_
  refine WO.go 1 (ds := []) rfl ?_
  simp only [sx, ty, Bool.false_eq_true, Int.reduceEq, Int.reduceLT, Nat.reduceAdd, Nat.reduceSub, Nat.reduceMul, Nat.reduceLT, Nat.reduceLeDiff, Nat.reduceEqDiff, List.reduceReplicate, reduceIte, beq_self_eq_true, bne_self_eq_false, Int.reduceBEq, Int.reduceBNe, Bool.or_false, Bool.false_or, Bool.not_false, Bool.not_true, mbits, Int.reduceToNat, Int.reducePow, Int.toNat_natCast]
  refine WO.call (.bool (smallF l)) (ds := []) rfl rfl rfl rfl co21 (fun ρ w1 hb => small_spec (Rp.now hl (hb.first (by simp)))) ?_
  refine WO.go 1 (ds := []) rfl ?_
  simp only [sx, ty, Bool.false_eq_true, Int.reduceEq, Int.reduceLT, Nat.reduceAdd, Nat.reduceSub, Nat.reduceMul, Nat.reduceLT, Nat.reduceLeDiff, Nat.reduceEqDiff, List.reduceReplicate, reduceIte, beq_self_eq_true, bne_self_eq_false, Int.reduceBEq, Int.reduceBNe, Bool.or_false, Bool.false_or, Bool.not_false, Bool.not_true, mbits, Int.reduceToNat, Int.reducePow, Int.toNat_natCast]
  with_reducible refine WO.nil ?_
  refine hK4 _ ?_; clear hK4
  refine W.cond rfl rfl (fun hc => ?_) (fun hc => ?_)
  · skip
    refine W.pure (ds := []) rfl fun K5 hK5 => ?_
    simp only [sx, ty, Bool.false_eq_true, Int.reduceEq, Int.reduceLT, Nat.reduceAdd, Nat.reduceSub, Nat.reduceMul, Nat.reduceLT, Nat.reduceLeDiff, Nat.reduceEqDiff, List.reduceReplicate, reduceIte, beq_self_eq_true, bne_self_eq_false, Int.reduceBEq, Int.reduceBNe, Bool.or_false, Bool.false_or, Bool.not_false, Bool.not_true, mbits, Int.reduceToNat, Int.reducePow, Int.toNat_natCast]; with_reducible refine hK5 _ ?_; clear hK5
    refine W.ret ⟨by simp, _, rfl, fun ρ w1 hb => ?_⟩
    rfl
  · skip
    have hU : smallF l = true := by simpa using hc
    obtain ⟨hn, h30, hok⟩ := smallF_ok hU hI
    have hall := allF_small h30
    have h2k : (allF l).length ≤ 3210 := by omega
    obtain ⟨m, hm, hml⟩ := rem16 (n := (allF l).length + 1) hcut (by omega)
    have hdn : ¬ (((((allF l).length + 1 : Nat)) : Int) = 0) := by omega
    have hw : IntKind.i64.wrap (((allF l).length : Int) + 1) = (((allF l).length + 1 : Nat) : Int) := by rw [wrap_id (by omega) (by omega)]; omega
    refine W.skip (hK3 _ ?_)
    refine W.seqK fun K6 hK6 => W.region ?_
    refine WO.go 1 (ds := []) rfl ?_
    simp only [sx, ty, Bool.false_eq_true, Int.reduceEq, Int.reduceLT, Nat.reduceAdd, Nat.reduceSub, Nat.reduceMul, Nat.reduceLT, Nat.reduceLeDiff, Nat.reduceEqDiff, List.reduceReplicate, reduceIte, beq_self_eq_true, bne_self_eq_false, Int.reduceBEq, Int.reduceBNe, Bool.or_false, Bool.false_or, Bool.not_false, Bool.not_true, mbits, Int.reduceToNat, Int.reducePow, Int.toNat_natCast]
    refine WO.callM (fun x : (Option Addr × Nat) × (Option Addr × Nat) => .tuple #[.slice x.1.1 (allF l).length x.1.2, .slice x.2.1 l.length x.2.2, .bool true]) (fun lo x s9 => rBytes.rd (fun b => lo ≤ b) s9 [.slice x.1.1 (allF l).length x.1.2] (allF l) ∧ rInts.rd (fun b => lo ≤ b) s9 [.slice x.2.1 l.length x.2.2] (endsF l l.length)) (ds := []) rfl rfl rfl rfl co22 (fun ρ w1 hb => frames_spec (Rp.now hl (hb.first (by simp))) hn hok) fun x lo hrs hr => ?_
    obtain ⟨⟨hrp, hrc⟩, ⟨hep, hec⟩⟩ := x
    obtain ⟨hr1, hr2⟩ := hr
    simp only at hr1 hr2
    obtain ⟨_, _, he0g1, g1, g1b⟩ := Rp.slice_val hr1
    obtain ⟨_, _, rfl⟩ := (Value.slice.injEq _ _ _ _ _ _).mp he0g1
    have g1 : (allF l).length ≤ hrc := g1
    clear he0g1
    refine WO.go 7 (ds := []) rfl ?_
    simp only [sx, ty, Bool.false_eq_true, Int.reduceEq, Int.reduceLT, Nat.reduceAdd, Nat.reduceSub, Nat.reduceMul, Nat.reduceLT, Nat.reduceLeDiff, Nat.reduceEqDiff, List.reduceReplicate, reduceIte, beq_self_eq_true, bne_self_eq_false, Int.reduceBEq, Int.reduceBNe, Bool.or_false, Bool.false_or, Bool.not_false, Bool.not_true, mbits, Int.reduceToNat, Int.reducePow, Int.toNat_natCast]
    with_reducible refine WO.nil ?_
    refine hK6 _ ?_; clear hK6
    refine W.seqK fun K7 hK7 => ?_
    refine W.pure (ds := []) rfl fun K8 hK8 => ?_
    simp only [sx, ty, Bool.false_eq_true, Int.reduceEq, Int.reduceLT, Nat.reduceAdd, Nat.reduceSub, Nat.reduceMul, Nat.reduceLT, Nat.reduceLeDiff, Nat.reduceEqDiff, List.reduceReplicate, reduceIte, beq_self_eq_true, bne_self_eq_false, Int.reduceBEq, Int.reduceBNe, Bool.or_false, Bool.false_or, Bool.not_false, Bool.not_true, mbits, Int.reduceToNat, Int.reducePow, Int.toNat_natCast]; with_reducible refine hK8 _ ?_; clear hK8
    refine W.cond rfl rfl (fun hc => ?_) (fun hc => ?_)
    · skip
      simp at hc
    · skip
      refine W.skip (hK7 _ ?_)
      refine W.seqK fun K9 hK9 => W.region ?_
      refine WO.go 5 (ds := []) rfl ?_
      simp only [sx, ty, Bool.false_eq_true, Int.reduceEq, Int.reduceLT, Nat.reduceAdd, Nat.reduceSub, Nat.reduceMul, Nat.reduceLT, Nat.reduceLeDiff, Nat.reduceEqDiff, List.reduceReplicate, reduceIte, beq_self_eq_true, bne_self_eq_false, Int.reduceBEq, Int.reduceBNe, Bool.or_false, Bool.false_or, Bool.not_false, Bool.not_true, mbits, Int.reduceToNat, Int.reducePow, Int.toNat_natCast]
      refine WO.go 1 (ds := []) rfl ?_
      simp only [sx, ty, Bool.false_eq_true, Int.reduceEq, Int.reduceLT, Nat.reduceAdd, Nat.reduceSub, Nat.reduceMul, Nat.reduceLT, Nat.reduceLeDiff, Nat.reduceEqDiff, List.reduceReplicate, reduceIte, beq_self_eq_true, bne_self_eq_false, Int.reduceBEq, Int.reduceBNe, Bool.or_false, Bool.false_or, Bool.not_false, Bool.not_true, mbits, Int.reduceToNat, Int.reducePow, Int.toNat_natCast, hw, if_neg hdn, hm]
      refine WO.go 1 (ds := []) rfl ?_
      simp only [sx, ty, Bool.false_eq_true, Int.reduceEq, Int.reduceLT, Nat.reduceAdd, Nat.reduceSub, Nat.reduceMul, Nat.reduceLT, Nat.reduceLeDiff, Nat.reduceEqDiff, List.reduceReplicate, reduceIte, beq_self_eq_true, bne_self_eq_false, Int.reduceBEq, Int.reduceBNe, Bool.or_false, Bool.false_or, Bool.not_false, Bool.not_true, mbits, Int.reduceToNat, Int.reducePow, Int.toNat_natCast]
      with_reducible refine WO.nil ?_
      refine hK9 _ ?_; clear hK9
      refine W.pure (ds := []) rfl fun K10 hK10 => ?_
      simp only [sx, ty, Bool.false_eq_true, Int.reduceEq, Int.reduceLT, Nat.reduceAdd, Nat.reduceSub, Nat.reduceMul, Nat.reduceLT, Nat.reduceLeDiff, Nat.reduceEqDiff, List.reduceReplicate, reduceIte, beq_self_eq_true, bne_self_eq_false, Int.reduceBEq, Int.reduceBNe, Bool.or_false, Bool.false_or, Bool.not_false, Bool.not_true, mbits, Int.reduceToNat, Int.reducePow, Int.toNat_natCast]; with_reducible refine hK10 _ ?_; clear hK10
      refine W.seqK fun K11 hK11 => ?_
      refine W.pure (ds := []) rfl fun K12 hK12 => ?_
      simp only [sx, ty, Bool.false_eq_true, Int.reduceEq, Int.reduceLT, Nat.reduceAdd, Nat.reduceSub, Nat.reduceMul, Nat.reduceLT, Nat.reduceLeDiff, Nat.reduceEqDiff, List.reduceReplicate, reduceIte, beq_self_eq_true, bne_self_eq_false, Int.reduceBEq, Int.reduceBNe, Bool.or_false, Bool.false_or, Bool.not_false, Bool.not_true, mbits, Int.reduceToNat, Int.reducePow, Int.toNat_natCast]; with_reducible refine hK12 _ ?_; clear hK12
      refine W.block ?_
      refine W.loopK (X := Nat × Nat) [0, 5, 6, 7, 9] (fun x => [(10, .val (.int .i64 x.2)), (11, .val (.int .i64 ((allF (l.take x.2)).length : Int))), (12, .val (.int .i64 x.1))]) (fun x => x.1 ≤ l.length ∧ WantI l m x.1 x.2) (fun x => l.length - x.1) (0, 0) ?_ ?_ ?_
      · exact ⟨rfl, by simp [getE, bnd, keepE, allF], ⟨[], by simp⟩, by simp [Own.bnd, bndL, bnd, boxO], by simp⟩
      · skip
        exact ⟨Nat.zero_le _, WantI.start l m⟩
      · rintro ⟨i, k⟩ ⟨hi, hW⟩
        simp only at hi hW
        have hel := endsF_len l l.length
        simp only [sx, ty, Bool.false_eq_true, Int.reduceEq, Int.reduceLT, Nat.reduceAdd, Nat.reduceSub, Nat.reduceMul, Nat.reduceLT, Nat.reduceLeDiff, Nat.reduceEqDiff, List.reduceReplicate, reduceIte, sxk, beq_self_eq_true, bne_self_eq_false, Int.reduceBEq, Int.reduceBNe, Bool.or_false, Bool.false_or, Bool.not_false, Bool.not_true, mbits, Int.reduceToNat, Int.reducePow, Int.toNat_natCast]
        refine W.seqK fun K13 hK13 => ?_
        refine W.pure (ds := []) rfl fun K14 hK14 => ?_
        simp only [sx, ty, Bool.false_eq_true, Int.reduceEq, Int.reduceLT, Nat.reduceAdd, Nat.reduceSub, Nat.reduceMul, Nat.reduceLT, Nat.reduceLeDiff, Nat.reduceEqDiff, List.reduceReplicate, reduceIte, beq_self_eq_true, bne_self_eq_false, Int.reduceBEq, Int.reduceBNe, Bool.or_false, Bool.false_or, Bool.not_false, Bool.not_true, mbits, Int.reduceToNat, Int.reducePow, Int.toNat_natCast]; with_reducible refine hK14 _ ?_; clear hK14
        refine W.cond rfl rfl (fun hc => ?_) (fun hc => ?_)
        · skip
          have hlt : i < l.length := by simpa using hc
          refine W.skip (hK13 _ ?_)
          refine W.seqK fun K15 hK15 => ?_
          refine W.block ?_
          refine W.seqK fun K16 hK16 => W.region ?_
          refine WO.go 2 (ds := []) rfl ?_
          simp only [sx, ty, Bool.false_eq_true, Int.reduceEq, Int.reduceLT, Nat.reduceAdd, Nat.reduceSub, Nat.reduceMul, Nat.reduceLT, Nat.reduceLeDiff, Nat.reduceEqDiff, List.reduceReplicate, reduceIte, beq_self_eq_true, bne_self_eq_false, Int.reduceBEq, Int.reduceBNe, Bool.or_false, Bool.false_or, Bool.not_false, Bool.not_true, mbits, Int.reduceToNat, Int.reducePow, Int.toNat_natCast]
          refine WO.elem (y := ((allF (l.take (i + 1))).length : Int)) hr2 (by simp [St.put]) (ds := []) rfl rfl rfl (by simp [St.put]) (fun _ => rfl) rfl rfl rfl rfl rfl el22 agg3 sz3 (.inr rfl) (by omega) (endsF_get hlt) fun p ces hces => ?_
          obtain rfl := rInt_open hces
          clear hces
          refine WO.go 2 (ds := []) rfl ?_
          simp only [sx, ty, Bool.false_eq_true, Int.reduceEq, Int.reduceLT, Nat.reduceAdd, Nat.reduceSub, Nat.reduceMul, Nat.reduceLT, Nat.reduceLeDiff, Nat.reduceEqDiff, List.reduceReplicate, reduceIte, beq_self_eq_true, bne_self_eq_false, Int.reduceBEq, Int.reduceBNe, Bool.or_false, Bool.false_or, Bool.not_false, Bool.not_true, mbits, Int.reduceToNat, Int.reducePow, Int.toNat_natCast]
          with_reducible refine WO.nil ?_
          refine hK16 _ ?_; clear hK16
          refine W.cond rfl rfl (fun hc => ?_) (fun hc => ?_)
          · skip
            have hle : (allF (l.take (i + 1))).length ≤ m := by simp at hc; omega
            refine W.regionQ mixed (by kernel_rfl) ?_
            refine WQ.go 4 (ds := []) rfl ?_
            simp only [sx, ty, Bool.false_eq_true, Int.reduceEq, Int.reduceLT, Nat.reduceAdd, Nat.reduceSub, Nat.reduceMul, Nat.reduceLT, Nat.reduceLeDiff, Nat.reduceEqDiff, List.reduceReplicate, reduceIte, sxq, Bool.false_eq_true, beq_self_eq_true, bne_self_eq_false, Int.reduceBEq, Int.reduceBNe, Bool.or_false, Bool.false_or, Bool.not_false, Bool.not_true, mbits, Int.reduceToNat, Int.reducePow, Int.toNat_natCast]
            refine WQ.elem (y := ((allF (l.take (i + 1))).length : Int)) hr2 (by simp [St.put]) (ds := []) rfl rfl rfl (by simp [St.put]) (fun _ => rfl) rfl rfl rfl rfl rfl el22 agg3 sz3 (.inr rfl) (by omega) (endsF_get hlt) fun p ces hces => ?_
            obtain rfl := rInt_open hces
            clear hces
            refine WQ.go 2 (ds := []) rfl ?_
            simp only [sx, ty, Bool.false_eq_true, Int.reduceEq, Int.reduceLT, Nat.reduceAdd, Nat.reduceSub, Nat.reduceMul, Nat.reduceLT, Nat.reduceLeDiff, Nat.reduceEqDiff, List.reduceReplicate, reduceIte, sxq, Bool.false_eq_true, beq_self_eq_true, bne_self_eq_false, Int.reduceBEq, Int.reduceBNe, Bool.or_false, Bool.false_or, Bool.not_false, Bool.not_true, mbits, Int.reduceToNat, Int.reducePow, Int.toNat_natCast]
            with_reducible refine WQ.nil ?_
            refine hK15 _ ?_
            refine W.region ?_
            refine WO.go 3 (ds := []) rfl ?_
            simp only [sx, ty, Bool.false_eq_true, Int.reduceEq, Int.reduceLT, Nat.reduceAdd, Nat.reduceSub, Nat.reduceMul, Nat.reduceLT, Nat.reduceLeDiff, Nat.reduceEqDiff, List.reduceReplicate, reduceIte, beq_self_eq_true, bne_self_eq_false, Int.reduceBEq, Int.reduceBNe, Bool.or_false, Bool.false_or, Bool.not_false, Bool.not_true, mbits, Int.reduceToNat, Int.reducePow, Int.toNat_natCast]
            with_reducible refine WO.nil ?_
            refine ⟨(i + 1, i + 1), ?_, by first | omega | (simp; omega), rfl, by simp [getE, bnd, keepE, wrap_succ (show i + 1 ≤ 9223372036854775807 by omega)], ⟨_, rfl⟩, by simp [Own.bnd, bndL, bnd, boxO], by simp⟩
            exact ⟨hlt, WantI.yes (k := k) hle⟩
          · skip
            have hle : ¬ (allF (l.take (i + 1))).length ≤ m := by simp at hc; omega
            refine W.skip (hK15 _ ?_)
            refine W.region ?_
            refine WO.go 3 (ds := []) rfl ?_
            simp only [sx, ty, Bool.false_eq_true, Int.reduceEq, Int.reduceLT, Nat.reduceAdd, Nat.reduceSub, Nat.reduceMul, Nat.reduceLT, Nat.reduceLeDiff, Nat.reduceEqDiff, List.reduceReplicate, reduceIte, beq_self_eq_true, bne_self_eq_false, Int.reduceBEq, Int.reduceBNe, Bool.or_false, Bool.false_or, Bool.not_false, Bool.not_true, mbits, Int.reduceToNat, Int.reducePow, Int.toNat_natCast]
            with_reducible refine WO.nil ?_
            refine ⟨(i + 1, k), ?_, by first | omega | (simp; omega), rfl, by simp [getE, bnd, keepE, wrap_succ (show i + 1 ≤ 9223372036854775807 by omega)], ⟨_, rfl⟩, by simp [Own.bnd, bndL, bnd, boxO], by simp⟩
            exact ⟨hlt, hW.no hle⟩
        · skip
          obtain rfl : i = l.length := Nat.le_antisymm hi (by simpa using hc)
          have hkl := hW.le
          have hT : FramesF ((allF l).take m) = (l.take k, (allF (l.take k)).length, 0) := by rw [FramesF_ok (by rw [List.length_take]; omega), framesF_torn hok hW (by omega)]
          refine W.exit (hK11 _ ?_)
          refine W.seqK fun K17 hK17 => W.region ?_
          refine WO.go 2 (ds := []) rfl ?_
          simp only [sx, ty, Bool.false_eq_true, Int.reduceEq, Int.reduceLT, Nat.reduceAdd, Nat.reduceSub, Nat.reduceMul, Nat.reduceLT, Nat.reduceLeDiff, Nat.reduceEqDiff, List.reduceReplicate, reduceIte, beq_self_eq_true, bne_self_eq_false, Int.reduceBEq, Int.reduceBNe, Bool.or_false, Bool.false_or, Bool.not_false, Bool.not_true, mbits, Int.reduceToNat, Int.reducePow, Int.toNat_natCast]
          obtain ⟨p7, c7, he7, hl7⟩ := Rp.sub (l := 0) (h := m) hr1 (by omega) (by omega)
          rw [sub_eqL (m := m) (by omega), List.drop_zero] at he7 hl7
          refine WO.slc (ds := []) rfl rfl rfl rfl rfl el23 rfl rfl (by simp [loS]) (by simp [loS, hiS]) (by simp [hiS] <;> omega) ?_
          rw [show slcV 1 hrp hrc (loS none).toNat (hiS (allF l).length (some (IntKind.i64, (m : Int)))).toNat = .slice p7 ((allF l).take m).length c7 from he7]
          simp only [sx, ty, Bool.false_eq_true, Int.reduceEq, Int.reduceLT, Nat.reduceAdd, Nat.reduceSub, Nat.reduceMul, Nat.reduceLT, Nat.reduceLeDiff, Nat.reduceEqDiff, List.reduceReplicate, reduceIte, beq_self_eq_true, bne_self_eq_false, Int.reduceBEq, Int.reduceBNe, Bool.or_false, Bool.false_or, Bool.not_false, Bool.not_true, mbits, Int.reduceToNat, Int.reducePow, Int.toNat_natCast]
          refine WO.callM (fun x : Option Addr × Nat => .tuple #[.slice x.1 (l.take k).length x.2, .int .i64 ((allF (l.take k)).length : Nat), .int .i64 0]) (fun lo x s9 => rLists.rd (fun b => lo ≤ b) s9 [.slice x.1 (l.take k).length x.2] (l.take k)) (ds := []) rfl rfl rfl rfl co18 (fun ρ w1 hb => by have h9 := Frames_spec (Rp.keep hl7 (hb.at (by simp))) (fun x hx => allF_isB hok x (List.mem_of_mem_take hx)); rw [hT] at h9; exact h9) fun x lo hr4s hr4 => ?_
          obtain ⟨hr4p, hr4c⟩ := x
          simp only at hr4
          refine WO.go 7 (ds := []) rfl ?_
          simp only [sx, ty, Bool.false_eq_true, Int.reduceEq, Int.reduceLT, Nat.reduceAdd, Nat.reduceSub, Nat.reduceMul, Nat.reduceLT, Nat.reduceLeDiff, Nat.reduceEqDiff, List.reduceReplicate, reduceIte, beq_self_eq_true, bne_self_eq_false, Int.reduceBEq, Int.reduceBNe, Bool.or_false, Bool.false_or, Bool.not_false, Bool.not_true, mbits, Int.reduceToNat, Int.reducePow, Int.toNat_natCast]
          with_reducible refine WO.nil ?_
          refine hK17 _ ?_; clear hK17
          refine W.join 4 (.val (.bool true)) [] (W.region ?_) ?_
          · skip
            refine WO.go 14 (ds := [some 61, some 62, some 63, some 64, some 65, some 66, some 67, some 68, some 69, some 70, some 71, some 72, some 73, some 74, some 75, some 76, some 77, some 4]) rfl ?_
            simp only [sx, ty, Bool.false_eq_true, Int.reduceEq, Int.reduceLT, Nat.reduceAdd, Nat.reduceSub, Nat.reduceMul, Nat.reduceLT, Nat.reduceLeDiff, Nat.reduceEqDiff, List.reduceReplicate, reduceIte, beq_self_eq_true, bne_self_eq_false, Int.reduceBEq, Int.reduceBNe, Bool.or_false, Bool.false_or, Bool.not_false, Bool.not_true, mbits, Int.reduceToNat, Int.reducePow, Int.toNat_natCast]
            obtain ⟨p8, c8, he8, hl8⟩ := Rp.sub (l := 0) (h := k) hl (by omega) (by omega)
            rw [sub_eqL (m := k) (by omega), List.drop_zero] at he8 hl8
            refine WO.slc (ds := [some 61, some 62, some 63, some 64, some 65, some 66, some 67, some 68, some 69, some 70, some 71, some 72, some 73, some 74, some 75, some 76, some 77, some 4]) rfl rfl rfl rfl rfl el32 rfl rfl (by simp [loS]) (by simp [loS, hiS]) (by simp [hiS] <;> omega) ?_
            rw [show slcV 1 p c (loS none).toNat (hiS l.length (some (IntKind.i64, (k : Int)))).toNat = .slice p8 (l.take k).length c8 from he8]
            simp only [sx, ty, Bool.false_eq_true, Int.reduceEq, Int.reduceLT, Nat.reduceAdd, Nat.reduceSub, Nat.reduceMul, Nat.reduceLT, Nat.reduceLeDiff, Nat.reduceEqDiff, List.reduceReplicate, reduceIte, beq_self_eq_true, bne_self_eq_false, Int.reduceBEq, Int.reduceBNe, Bool.or_false, Bool.false_or, Bool.not_false, Bool.not_true, mbits, Int.reduceToNat, Int.reducePow, Int.toNat_natCast]
            refine WO.call (.bool true) (ds := [some 61, some 62, some 63, some 64, some 65, some 66, some 67, some 68, some 69, some 70, some 71, some 72, some 73, some 74, some 75, some 76, some 77, some 4]) rfl rfl rfl rfl co20 (fun ρ w1 hb => sameL_self (Rp.keep hr4 (hb.at (by simp))) (Rp.now hl8 (hb.first (by simp)))) ?_
            refine WO.go 2 (ds := [some 61, some 62, some 63, some 64, some 65, some 66, some 67, some 68, some 69, some 70, some 71, some 72, some 73, some 74, some 75, some 76, some 77, some 4]) rfl ?_
            simp only [sx, ty, Bool.false_eq_true, Int.reduceEq, Int.reduceLT, Nat.reduceAdd, Nat.reduceSub, Nat.reduceMul, Nat.reduceLT, Nat.reduceLeDiff, Nat.reduceEqDiff, List.reduceReplicate, reduceIte, beq_self_eq_true, bne_self_eq_false, Int.reduceBEq, Int.reduceBNe, Bool.or_false, Bool.false_or, Bool.not_false, Bool.not_true, mbits, Int.reduceToNat, Int.reducePow, Int.toNat_natCast]
            with_reducible refine WO.nil ?_
            refine ⟨rfl, by simp [getE, bnd, keepE], ⟨_, rfl⟩, by simp [Own.bnd, bndL, bnd, boxO], by simp⟩
          · simp only [sx, ty, Bool.false_eq_true, Int.reduceEq, Int.reduceLT, Nat.reduceAdd, Nat.reduceSub, Nat.reduceMul, Nat.reduceLT, Nat.reduceLeDiff, Nat.reduceEqDiff, List.reduceReplicate, reduceIte, sxk, beq_self_eq_true, bne_self_eq_false, Int.reduceBEq, Int.reduceBNe, Bool.or_false, Bool.false_or, Bool.not_false, Bool.not_true, mbits, Int.reduceToNat, Int.reducePow, Int.toNat_natCast]
            refine W.ret ⟨by simp, _, rfl, fun ρ w1 hb => ?_⟩
            rfl
/-- function 6 -/
theorem law4a {S S2 : Nat → Prop} {w : World} {v u : Value} {l : List (List Int)} {b : List Int} (hl : rLists.rd S w [v] l) (hl2 : rBytes.rd S2 w [u] b) (hI : ∀ x, x ∈ l → ∀ n, n ∈ x → isI n) (hb8 : ∀ x, x ∈ b → isB x) (hfl : 0 < (allF l).length) (hbl : 0 < b.length) : Gives Try.prog 6 #[v, u] w fun r _ => r = .bool true := by
  obtain ⟨p, c, rfl, hc1, hc2⟩ := Rp.slice_val hl
  obtain ⟨p2, c2, rfl, hc3, hc4⟩ := Rp.slice_val hl2
  have hl : (Rp.slice rInts).rd (fun _ => True) w _ l := Rp.any hl
  have hl2 : (Rp.slice rByte).rd (fun _ => True) w _ b := Rp.any hl2
  refine gives_of [.val (.slice p l.length c), .val (.slice p2 b.length c2)] 90 [.tmp 4] Try.func6 rfl rfl rfl (by simp) rfl rfl ?_
  refine W.pure (ds := []) rfl fun K1 hK1 => ?_
  simp only [sx, ty, Bool.false_eq_true, Int.reduceEq, Int.reduceLT, Nat.reduceAdd, Nat.reduceSub, Nat.reduceMul, Nat.reduceLT, Nat.reduceLeDiff, Nat.reduceEqDiff, List.reduceReplicate, reduceIte, beq_self_eq_true, bne_self_eq_false, Int.reduceBEq, Int.reduceBNe, Bool.or_false, Bool.false_or, Bool.not_false, Bool.not_true, mbits, Int.reduceToNat, Int.reducePow, Int.toNat_natCast]; with_reducible refine hK1 _ ?_; clear hK1
  refine W.seqK fun K2 hK2 => W.region ?_
  refine WO.call (.bool true) (ds := []) rfl rfl rfl rfl co9 (fun ρ w1 hb => head_spec w1) ?_
  refine WO.go 1 (ds := []) rfl ?_
  simp only [sx, ty, Bool.false_eq_true, Int.reduceEq, Int.reduceLT, Nat.reduceAdd, Nat.reduceSub, Nat.reduceMul, Nat.reduceLT, Nat.reduceLeDiff, Nat.reduceEqDiff, List.reduceReplicate, reduceIte, beq_self_eq_true, bne_self_eq_false, Int.reduceBEq, Int.reduceBNe, Bool.or_false, Bool.false_or, Bool.not_false, Bool.not_true, mbits, Int.reduceToNat, Int.reducePow, Int.toNat_natCast]
  with_reducible refine WO.nil ?_
  refine hK2 _ ?_; clear hK2
  refine W.seqK fun K3 hK3 => ?_
  refine W.join 23 (.val (.bool (!(smallF l) || decide ((1000 : Int) < (b.length : Int))))) [0, 1, 5] (W.region ?_) ?_
  · skip
    refine WO.go 1 (ds := [some 16, some 17, some 18, some 19, some 20, some 21, some 22, some 23]) rfl ?_
    simp only [sx, ty, Bool.false_eq_true, Int.reduceEq, Int.reduceLT, Nat.reduceAdd, Nat.reduceSub, Nat.reduceMul, Nat.reduceLT, Nat.reduceLeDiff, Nat.reduceEqDiff, List.reduceReplicate, reduceIte, beq_self_eq_true, bne_self_eq_false, Int.reduceBEq, Int.reduceBNe, Bool.or_false, Bool.false_or, Bool.not_false, Bool.not_true, mbits, Int.reduceToNat, Int.reducePow, Int.toNat_natCast]
    refine WO.call (.bool (smallF l)) (ds := [some 16, some 17, some 18, some 19, some 20, some 21, some 22, some 23]) rfl rfl rfl rfl co21 (fun ρ w1 hb => small_spec (Rp.now hl (hb.first (by simp)))) ?_
    refine WO.go 2 (ds := [some 16, some 17, some 18, some 19, some 20, some 21, some 22, some 23]) rfl ?_
    simp only [sx, ty, Bool.false_eq_true, Int.reduceEq, Int.reduceLT, Nat.reduceAdd, Nat.reduceSub, Nat.reduceMul, Nat.reduceLT, Nat.reduceLeDiff, Nat.reduceEqDiff, List.reduceReplicate, reduceIte, beq_self_eq_true, bne_self_eq_false, Int.reduceBEq, Int.reduceBNe, Bool.or_false, Bool.false_or, Bool.not_false, Bool.not_true, mbits, Int.reduceToNat, Int.reducePow, Int.toNat_natCast]
    refine WO.cases 19 _ rfl (fun hg19 => ?_) (fun hg19 => ?_)
    · skip
      refine WO.go 4 (ds := [some 16, some 17, some 18, some 19, some 20, some 21, some 22, some 23]) rfl ?_
      simp only [sx, ty, Bool.false_eq_true, Int.reduceEq, Int.reduceLT, Nat.reduceAdd, Nat.reduceSub, Nat.reduceMul, Nat.reduceLT, Nat.reduceLeDiff, Nat.reduceEqDiff, List.reduceReplicate, reduceIte, beq_self_eq_true, bne_self_eq_false, Int.reduceBEq, Int.reduceBNe, Bool.or_false, Bool.false_or, Bool.not_false, Bool.not_true, mbits, Int.reduceToNat, Int.reducePow, Int.toNat_natCast]
      with_reducible refine WO.nil ?_
      refine ⟨rfl, ?_, ⟨_, rfl⟩, by simp [Own.bnd, bndL, bnd, boxO], by simp⟩
      try rw [hg19]
      simp [getE, bnd, keepE]
    · skip
      refine WO.go 4 (ds := [some 16, some 17, some 18, some 19, some 20, some 21, some 22, some 23]) rfl ?_
      simp only [sx, ty, Bool.false_eq_true, Int.reduceEq, Int.reduceLT, Nat.reduceAdd, Nat.reduceSub, Nat.reduceMul, Nat.reduceLT, Nat.reduceLeDiff, Nat.reduceEqDiff, List.reduceReplicate, reduceIte, beq_self_eq_true, bne_self_eq_false, Int.reduceBEq, Int.reduceBNe, Bool.or_false, Bool.false_or, Bool.not_false, Bool.not_true, mbits, Int.reduceToNat, Int.reducePow, Int.toNat_natCast]
      with_reducible refine WO.nil ?_
      refine ⟨rfl, ?_, ⟨_, rfl⟩, by simp [Own.bnd, bndL, bnd, boxO], by simp⟩
      try rw [hg19]
      simp [getE, bnd, keepE]
  · simp only [sx, ty, Bool.false_eq_true, Int.reduceEq, Int.reduceLT, Nat.reduceAdd, Nat.reduceSub, Nat.reduceMul, Nat.reduceLT, Nat.reduceLeDiff, Nat.reduceEqDiff, List.reduceReplicate, reduceIte, sxk, beq_self_eq_true, bne_self_eq_false, Int.reduceBEq, Int.reduceBNe, Bool.or_false, Bool.false_or, Bool.not_false, Bool.not_true, mbits, Int.reduceToNat, Int.reducePow, Int.toNat_natCast]
    refine W.cond rfl rfl (fun hc => ?_) (fun hc => ?_)
    · skip
      refine W.pure (ds := []) rfl fun K5 hK5 => ?_
      simp only [sx, ty, Bool.false_eq_true, Int.reduceEq, Int.reduceLT, Nat.reduceAdd, Nat.reduceSub, Nat.reduceMul, Nat.reduceLT, Nat.reduceLeDiff, Nat.reduceEqDiff, List.reduceReplicate, reduceIte, beq_self_eq_true, bne_self_eq_false, Int.reduceBEq, Int.reduceBNe, Bool.or_false, Bool.false_or, Bool.not_false, Bool.not_true, mbits, Int.reduceToNat, Int.reducePow, Int.toNat_natCast]; with_reducible refine hK5 _ ?_; clear hK5
      refine W.ret ⟨by simp, _, rfl, fun ρ w1 hb => ?_⟩
      rfl
    · skip
      have hU : smallF l = true := by cases hk : smallF l <;> simp [hk] at hc ⊢
      have hb1 : b.length ≤ 1000 := by simp [hU] at hc; omega
      obtain ⟨hn, h30, hok⟩ := smallF_ok hU hI
      have hall := allF_small h30
      have h2k : (allF l).length ≤ 3210 := by omega
      have hfm := framesF_len b
      have hw1 : IntKind.i64.wrap ((l.length : Int) + ((framesF b).1.length : Int)) = (((l ++ (framesF b).1).length : Nat) : Int) := by rw [wrap_id (by omega) (by omega), List.length_append]; omega
      have hw2 : IntKind.i64.wrap (((allF l).length : Int) + ((framesF b).2 : Int)) = (((allF l).length + (framesF b).2 : Nat) : Int) := by rw [wrap_id (by omega) (by omega)]; omega
      have hT : FramesF (allF l ++ b) = (l ++ (framesF b).1, (allF l).length + (framesF b).2, 0) := by rw [FramesF_ok (by rw [List.length_append]; omega), framesF_all hok]
      have hT2 : FramesF b = ((framesF b).1, (framesF b).2, 0) := FramesF_ok (by omega)
      refine W.skip (hK3 _ ?_)
      refine W.seqK fun K6 hK6 => W.region ?_
      refine WO.go 1 (ds := []) rfl ?_
      simp only [sx, ty, Bool.false_eq_true, Int.reduceEq, Int.reduceLT, Nat.reduceAdd, Nat.reduceSub, Nat.reduceMul, Nat.reduceLT, Nat.reduceLeDiff, Nat.reduceEqDiff, List.reduceReplicate, reduceIte, beq_self_eq_true, bne_self_eq_false, Int.reduceBEq, Int.reduceBNe, Bool.or_false, Bool.false_or, Bool.not_false, Bool.not_true, mbits, Int.reduceToNat, Int.reducePow, Int.toNat_natCast]
      refine WO.callM (fun x : (Option Addr × Nat) × (Option Addr × Nat) => .tuple #[.slice x.1.1 (allF l).length x.1.2, .slice x.2.1 l.length x.2.2, .bool true]) (fun lo x s9 => rBytes.rd (fun b => lo ≤ b) s9 [.slice x.1.1 (allF l).length x.1.2] (allF l) ∧ rInts.rd (fun b => lo ≤ b) s9 [.slice x.2.1 l.length x.2.2] (endsF l l.length)) (ds := []) rfl rfl rfl rfl co22 (fun ρ w1 hb => frames_spec (Rp.now hl (hb.first (by simp))) hn hok) fun x lo hrs hr => ?_
      obtain ⟨⟨hrp, hrc⟩, ⟨hep, hec⟩⟩ := x
      obtain ⟨hr1, hr2⟩ := hr
      simp only at hr1 hr2
      obtain ⟨_, _, he0g1, g1, g1b⟩ := Rp.slice_val hr1
      obtain ⟨_, _, rfl⟩ := (Value.slice.injEq _ _ _ _ _ _).mp he0g1
      have g1 : (allF l).length ≤ hrc := g1
      clear he0g1
      refine WO.go 7 (ds := []) rfl ?_
      simp only [sx, ty, Bool.false_eq_true, Int.reduceEq, Int.reduceLT, Nat.reduceAdd, Nat.reduceSub, Nat.reduceMul, Nat.reduceLT, Nat.reduceLeDiff, Nat.reduceEqDiff, List.reduceReplicate, reduceIte, beq_self_eq_true, bne_self_eq_false, Int.reduceBEq, Int.reduceBNe, Bool.or_false, Bool.false_or, Bool.not_false, Bool.not_true, mbits, Int.reduceToNat, Int.reducePow, Int.toNat_natCast]
      with_reducible refine WO.nil ?_
      refine hK6 _ ?_; clear hK6
      refine W.seqK fun K7 hK7 => ?_
      refine W.pure (ds := []) rfl fun K8 hK8 => ?_
      simp only [sx, ty, Bool.false_eq_true, Int.reduceEq, Int.reduceLT, Nat.reduceAdd, Nat.reduceSub, Nat.reduceMul, Nat.reduceLT, Nat.reduceLeDiff, Nat.reduceEqDiff, List.reduceReplicate, reduceIte, beq_self_eq_true, bne_self_eq_false, Int.reduceBEq, Int.reduceBNe, Bool.or_false, Bool.false_or, Bool.not_false, Bool.not_true, mbits, Int.reduceToNat, Int.reducePow, Int.toNat_natCast]; with_reducible refine hK8 _ ?_; clear hK8
      refine W.cond rfl rfl (fun hc => ?_) (fun hc => ?_)
      · skip
        simp at hc
      · skip
        refine W.skip (hK7 _ ?_)
        refine W.seqK fun K9 hK9 => W.region ?_
        refine WO.go 2 (ds := []) rfl ?_
        simp only [sx, ty, Bool.false_eq_true, Int.reduceEq, Int.reduceLT, Nat.reduceAdd, Nat.reduceSub, Nat.reduceMul, Nat.reduceLT, Nat.reduceLeDiff, Nat.reduceEqDiff, List.reduceReplicate, reduceIte, beq_self_eq_true, bne_self_eq_false, Int.reduceBEq, Int.reduceBNe, Bool.or_false, Bool.false_or, Bool.not_false, Bool.not_true, mbits, Int.reduceToNat, Int.reducePow, Int.toNat_natCast]
        obtain h9 | ⟨a1, olds1, ha1, hnl1, hSD1, hzD1, holD1, hatD1, hrdD1⟩ := Rp.slice_cells hr1
        · exact absurd (congrArg List.length h9) (by simp only [List.length_nil]; omega)
        have hE1 := bytes_cells (by rw [holD1]; exact Nat.mul_one _) hrdD1
        have hatE1 : At hrs a1 ((allF l).map (Value.int .u8)) := by rw [← hE1]; exact hatD1
        clear hE1
        subst ha1
        refine WO.appendFull (n := 0) (m := (allF l).length) [] ((allF l).map (.int .u8)) (ds := []) rfl rfl rfl rfl ⟨_, rfl, fun ρ w1 hb => ⟨⟨ρ 0, 0, none⟩, rfl, fun j v hv => by simp at hv⟩⟩ rfl ek23 rfl (by omega) (fun ρ w1 hb => ⟨a1, hrc, rfl, hatE1.now  hb (by simp) hSD1 hzD1⟩) (by simp) (by rw [maxLen_eq]; omega) (by omega) fun q1 cq1 => ?_
        simp only [Nat.zero_add, List.nil_append, St.pushO, List.cons_append]
        refine WO.go 1 (ds := []) rfl ?_
        simp only [sx, ty, Bool.false_eq_true, Int.reduceEq, Int.reduceLT, Nat.reduceAdd, Nat.reduceSub, Nat.reduceMul, Nat.reduceLT, Nat.reduceLeDiff, Nat.reduceEqDiff, List.reduceReplicate, reduceIte, beq_self_eq_true, bne_self_eq_false, Int.reduceBEq, Int.reduceBNe, Bool.or_false, Bool.false_or, Bool.not_false, Bool.not_true, mbits, Int.reduceToNat, Int.reducePow, Int.toNat_natCast]
        obtain h9 | ⟨a2, olds2, ha2, hnl2, hSD2, hzD2, holD2, hatD2, hrdD2⟩ := Rp.slice_cells hl2
        · exact absurd (congrArg List.length h9) (by simp only [List.length_nil]; omega)
        have hE2 := bytes_cells (by rw [holD2]; exact Nat.mul_one _) hrdD2
        have hatE2 : At w a2 (b.map (Value.int .u8)) := by rw [← hE2]; exact hatD2
        clear hE2
        subst ha2
        refine WO.append (k := 1) (n := (allF l).length) (m := b.length) (b.map (.int .u8)) (ds := []) rfl rfl rfl rfl rfl rfl rfl ek23 (fun ρ w1 hb => ⟨a2, c2, rfl, hatE2.now (S := fun _ => True) hb (by simp) hSD2 hzD2⟩) (by simp) (by simp [Value.oneCell']) (by rw [maxLen_eq]; omega) (by omega) fun p6 c6 => ?_
        simp only [setOwn, setN]
        simp only [sx, ty, Bool.false_eq_true, Int.reduceEq, Int.reduceLT, Nat.reduceAdd, Nat.reduceSub, Nat.reduceMul, Nat.reduceLT, Nat.reduceLeDiff, Nat.reduceEqDiff, List.reduceReplicate, reduceIte, beq_self_eq_true, bne_self_eq_false, Int.reduceBEq, Int.reduceBNe, Bool.or_false, Bool.false_or, Bool.not_false, Bool.not_true, mbits, Int.reduceToNat, Int.reducePow, Int.toNat_natCast]
        refine WO.callM (fun x : Option Addr × Nat => .tuple #[.slice x.1 (l ++ (framesF b).1).length x.2, .int .i64 ((allF l).length + (framesF b).2 : Nat), .int .i64 0]) (fun lo x s9 => rLists.rd (fun b => lo ≤ b) s9 [.slice x.1 (l ++ (framesF b).1).length x.2] (l ++ (framesF b).1)) (ds := []) rfl rfl rfl rfl co18 (fun ρ w1 hb => by have hrd : rBytes.rd (fun _ => True) w1 [.slice p6 ((allF l).length + b.length) c6] (allF l ++ b) := (own_slice (A := rByte) (k := 1) (S := fun _ => True) (xs := (allF l).map (.int .u8) ++ b.map (.int .u8)) (n := (allF l).length + b.length) hb rfl (by simp) (fun _ _ => trivial) (by rw [← List.map_append]; exact bytes_read (allF l ++ b))); have h9 := Frames_spec hrd (fun x hx => (List.mem_append.1 hx).elim (allF_isB hok x) (hb8 x)); rw [hT] at h9; exact h9) fun x lo hr4s hr4 => ?_
        obtain ⟨hr4p, hr4c⟩ := x
        simp only at hr4
        obtain ⟨_, _, he0g4, g4, g4b⟩ := Rp.slice_val hr4
        obtain ⟨_, _, rfl⟩ := (Value.slice.injEq _ _ _ _ _ _).mp he0g4
        have g4 : (l ++ (framesF b).1).length ≤ hr4c := g4
        clear he0g4
        have hapl : (l ++ (framesF b).1).length = l.length + (framesF b).1.length := List.length_append
        refine WO.go 7 (ds := []) rfl ?_
        simp only [sx, ty, Bool.false_eq_true, Int.reduceEq, Int.reduceLT, Nat.reduceAdd, Nat.reduceSub, Nat.reduceMul, Nat.reduceLT, Nat.reduceLeDiff, Nat.reduceEqDiff, List.reduceReplicate, reduceIte, beq_self_eq_true, bne_self_eq_false, Int.reduceBEq, Int.reduceBNe, Bool.or_false, Bool.false_or, Bool.not_false, Bool.not_true, mbits, Int.reduceToNat, Int.reducePow, Int.toNat_natCast]
        with_reducible refine WO.nil ?_
        refine hK9 _ ?_; clear hK9
        refine W.seqK fun K10 hK10 => W.region ?_
        refine WO.go 1 (ds := []) rfl ?_
        simp only [sx, ty, Bool.false_eq_true, Int.reduceEq, Int.reduceLT, Nat.reduceAdd, Nat.reduceSub, Nat.reduceMul, Nat.reduceLT, Nat.reduceLeDiff, Nat.reduceEqDiff, List.reduceReplicate, reduceIte, beq_self_eq_true, bne_self_eq_false, Int.reduceBEq, Int.reduceBNe, Bool.or_false, Bool.false_or, Bool.not_false, Bool.not_true, mbits, Int.reduceToNat, Int.reducePow, Int.toNat_natCast]
        refine WO.callM (fun x : Option Addr × Nat => .tuple #[.slice x.1 (framesF b).1.length x.2, .int .i64 ((framesF b).2 : Nat), .int .i64 0]) (fun lo x s9 => rLists.rd (fun b => lo ≤ b) s9 [.slice x.1 (framesF b).1.length x.2] (framesF b).1) (ds := []) rfl rfl rfl rfl co18 (fun ρ w1 hb => by have h9 := Frames_spec (Rp.now hl2 (hb.first (by simp))) hb8; rw [hT2] at h9; exact h9) fun x lo hr5s hr5 => ?_
        obtain ⟨hr5p, hr5c⟩ := x
        simp only at hr5
        refine WO.go 7 (ds := []) rfl ?_
        simp only [sx, ty, Bool.false_eq_true, Int.reduceEq, Int.reduceLT, Nat.reduceAdd, Nat.reduceSub, Nat.reduceMul, Nat.reduceLT, Nat.reduceLeDiff, Nat.reduceEqDiff, List.reduceReplicate, reduceIte, beq_self_eq_true, bne_self_eq_false, Int.reduceBEq, Int.reduceBNe, Bool.or_false, Bool.false_or, Bool.not_false, Bool.not_true, mbits, Int.reduceToNat, Int.reducePow, Int.toNat_natCast]
        with_reducible refine WO.nil ?_
        refine hK10 _ ?_; clear hK10
        refine W.seqK fun K11 hK11 => ?_
        refine W.join 72 (.val (.bool false)) [0, 5, 9, 12] (W.region ?_) ?_
        · skip
          refine WO.go 24 (ds := [some 49, some 50, some 51, some 52, some 53, some 54, some 55, some 56, some 57, some 58, some 59, some 60, some 61, some 62, some 63, some 64, some 65, some 66, some 67, some 68, some 69, some 70, some 71, some 72]) rfl ?_
          simp only [sx, ty, Bool.false_eq_true, Int.reduceEq, Int.reduceLT, Nat.reduceAdd, Nat.reduceSub, Nat.reduceMul, Nat.reduceLT, Nat.reduceLeDiff, Nat.reduceEqDiff, List.reduceReplicate, reduceIte, beq_self_eq_true, bne_self_eq_false, Int.reduceBEq, Int.reduceBNe, Bool.or_false, Bool.false_or, Bool.not_false, Bool.not_true, mbits, Int.reduceToNat, Int.reducePow, Int.toNat_natCast, hw1, hw2]
          with_reducible refine WO.nil ?_
          refine ⟨rfl, by simp [getE, bnd, keepE], ⟨_, rfl⟩, by simp [Own.bnd, bndL, bnd, boxO], by simp⟩
        · simp only [sx, ty, Bool.false_eq_true, Int.reduceEq, Int.reduceLT, Nat.reduceAdd, Nat.reduceSub, Nat.reduceMul, Nat.reduceLT, Nat.reduceLeDiff, Nat.reduceEqDiff, List.reduceReplicate, reduceIte, sxk, beq_self_eq_true, bne_self_eq_false, Int.reduceBEq, Int.reduceBNe, Bool.or_false, Bool.false_or, Bool.not_false, Bool.not_true, mbits, Int.reduceToNat, Int.reducePow, Int.toNat_natCast, hw1, hw2]
          refine W.cond rfl rfl (fun hc => ?_) (fun hc => ?_)
          · skip
            simp at hc
          · skip
            refine W.skip (hK11 _ ?_)
            refine W.join 4 (.val (.bool true)) [] (W.region ?_) ?_
            · skip
              refine WO.go 5 (ds := [some 73, some 74, some 75, some 76, some 77, some 78, some 79, some 80, some 81, some 82, some 83, some 84, some 85, some 86, some 87, some 88, some 89, some 4]) rfl ?_
              simp only [sx, ty, Bool.false_eq_true, Int.reduceEq, Int.reduceLT, Nat.reduceAdd, Nat.reduceSub, Nat.reduceMul, Nat.reduceLT, Nat.reduceLeDiff, Nat.reduceEqDiff, List.reduceReplicate, reduceIte, beq_self_eq_true, bne_self_eq_false, Int.reduceBEq, Int.reduceBNe, Bool.or_false, Bool.false_or, Bool.not_false, Bool.not_true, mbits, Int.reduceToNat, Int.reducePow, Int.toNat_natCast, hw1, hw2]
              obtain ⟨p8, c8, he8, hl8⟩ := Rp.sub (l := 0) (h := l.length) hr4 (by omega) (by simp)
              rw [sub_eqL (m := l.length) (by omega), List.drop_zero, List.take_left] at he8 hl8
              refine WO.slc (ds := [some 73, some 74, some 75, some 76, some 77, some 78, some 79, some 80, some 81, some 82, some 83, some 84, some 85, some 86, some 87, some 88, some 89, some 4]) rfl rfl rfl rfl rfl el32 rfl rfl (by simp [loS]) (by simp [loS, hiS]) (by simp [hiS] <;> omega) ?_
              rw [show slcV 1 hr4p hr4c (loS none).toNat (hiS (l ++ (framesF b).1).length (some (IntKind.i64, (l.length : Int)))).toNat = .slice p8 l.length c8 from he8]
              refine WO.go 1 (ds := [some 73, some 74, some 75, some 76, some 77, some 78, some 79, some 80, some 81, some 82, some 83, some 84, some 85, some 86, some 87, some 88, some 89, some 4]) rfl ?_
              simp only [sx, ty, Bool.false_eq_true, Int.reduceEq, Int.reduceLT, Nat.reduceAdd, Nat.reduceSub, Nat.reduceMul, Nat.reduceLT, Nat.reduceLeDiff, Nat.reduceEqDiff, List.reduceReplicate, reduceIte, beq_self_eq_true, bne_self_eq_false, Int.reduceBEq, Int.reduceBNe, Bool.or_false, Bool.false_or, Bool.not_false, Bool.not_true, mbits, Int.reduceToNat, Int.reducePow, Int.toNat_natCast, hw1, hw2]
              refine WO.call (.bool true) (ds := [some 73, some 74, some 75, some 76, some 77, some 78, some 79, some 80, some 81, some 82, some 83, some 84, some 85, some 86, some 87, some 88, some 89, some 4]) rfl rfl rfl rfl co20 (fun ρ w1 hb => sameL_self (Rp.keep hl8 (hb.at (by simp))) (Rp.now hl (hb.first (by simp)))) ?_
              refine WO.go 5 (ds := [some 73, some 74, some 75, some 76, some 77, some 78, some 79, some 80, some 81, some 82, some 83, some 84, some 85, some 86, some 87, some 88, some 89, some 4]) rfl ?_
              simp only [sx, ty, Bool.false_eq_true, Int.reduceEq, Int.reduceLT, Nat.reduceAdd, Nat.reduceSub, Nat.reduceMul, Nat.reduceLT, Nat.reduceLeDiff, Nat.reduceEqDiff, List.reduceReplicate, reduceIte, beq_self_eq_true, bne_self_eq_false, Int.reduceBEq, Int.reduceBNe, Bool.or_false, Bool.false_or, Bool.not_false, Bool.not_true, mbits, Int.reduceToNat, Int.reducePow, Int.toNat_natCast, hw1, hw2]
              obtain ⟨p9, c9, he9, hl9⟩ := Rp.dropS (l := l.length) hr4 (by simp)
              rw [List.drop_left] at he9 hl9
              refine WO.slc (ds := [some 73, some 74, some 75, some 76, some 77, some 78, some 79, some 80, some 81, some 82, some 83, some 84, some 85, some 86, some 87, some 88, some 89, some 4]) rfl rfl rfl rfl rfl el32 rfl rfl (by simp [loS]) (by simp [loS, hiS] <;> omega) (by simp [hiS] <;> omega) ?_
              rw [show slcV 1 hr4p hr4c (loS (some (IntKind.i64, (l.length : Int)))).toNat (hiS (l ++ (framesF b).1).length none).toNat = .slice p9 (framesF b).1.length c9 from he9]
              refine WO.go 1 (ds := [some 73, some 74, some 75, some 76, some 77, some 78, some 79, some 80, some 81, some 82, some 83, some 84, some 85, some 86, some 87, some 88, some 89, some 4]) rfl ?_
              simp only [sx, ty, Bool.false_eq_true, Int.reduceEq, Int.reduceLT, Nat.reduceAdd, Nat.reduceSub, Nat.reduceMul, Nat.reduceLT, Nat.reduceLeDiff, Nat.reduceEqDiff, List.reduceReplicate, reduceIte, beq_self_eq_true, bne_self_eq_false, Int.reduceBEq, Int.reduceBNe, Bool.or_false, Bool.false_or, Bool.not_false, Bool.not_true, mbits, Int.reduceToNat, Int.reducePow, Int.toNat_natCast, hw1, hw2]
              refine WO.call (.bool true) (ds := [some 73, some 74, some 75, some 76, some 77, some 78, some 79, some 80, some 81, some 82, some 83, some 84, some 85, some 86, some 87, some 88, some 89, some 4]) rfl rfl rfl rfl co20 (fun ρ w1 hb => sameL_self (Rp.keep hl9 (hb.at (by simp))) (Rp.keep hr5 (hb.at (by simp)))) ?_
              refine WO.go 2 (ds := [some 73, some 74, some 75, some 76, some 77, some 78, some 79, some 80, some 81, some 82, some 83, some 84, some 85, some 86, some 87, some 88, some 89, some 4]) rfl ?_
              simp only [sx, ty, Bool.false_eq_true, Int.reduceEq, Int.reduceLT, Nat.reduceAdd, Nat.reduceSub, Nat.reduceMul, Nat.reduceLT, Nat.reduceLeDiff, Nat.reduceEqDiff, List.reduceReplicate, reduceIte, beq_self_eq_true, bne_self_eq_false, Int.reduceBEq, Int.reduceBNe, Bool.or_false, Bool.false_or, Bool.not_false, Bool.not_true, mbits, Int.reduceToNat, Int.reducePow, Int.toNat_natCast, hw1, hw2]
              with_reducible refine WO.nil ?_
              refine ⟨rfl, by simp [getE, bnd, keepE], ⟨_, rfl⟩, by simp [Own.bnd, bndL, bnd, boxO], by simp⟩
            · simp only [sx, ty, Bool.false_eq_true, Int.reduceEq, Int.reduceLT, Nat.reduceAdd, Nat.reduceSub, Nat.reduceMul, Nat.reduceLT, Nat.reduceLeDiff, Nat.reduceEqDiff, List.reduceReplicate, reduceIte, sxk, beq_self_eq_true, bne_self_eq_false, Int.reduceBEq, Int.reduceBNe, Bool.or_false, Bool.false_or, Bool.not_false, Bool.not_true, mbits, Int.reduceToNat, Int.reducePow, Int.toNat_natCast, hw1, hw2]
              refine W.ret ⟨by simp, _, rfl, fun ρ w1 hb => ?_⟩
              rfl
/-- function 6 -/
theorem law4b {S S2 : Nat → Prop} {w : World} {v u : Value} {l : List (List Int)} {b : List Int} (hl : rLists.rd S w [v] l) (hl2 : rBytes.rd S2 w [u] b) (hI : ∀ x, x ∈ l → ∀ n, n ∈ x → isI n) (hb8 : ∀ x, x ∈ b → isB x) (hfl : 0 < (allF l).length) (hb0 : b.length = 0) : Gives Try.prog 6 #[v, u] w fun r _ => r = .bool true := by
  obtain ⟨p, c, rfl, hc1, hc2⟩ := Rp.slice_val hl
  obtain ⟨p2, c2, rfl, hc3, hc4⟩ := Rp.slice_val hl2
  have hl : (Rp.slice rInts).rd (fun _ => True) w _ l := Rp.any hl
  have hl2 : (Rp.slice rByte).rd (fun _ => True) w _ b := Rp.any hl2
  have hbn : b = [] := List.length_eq_zero_iff.1 hb0
  refine gives_of [.val (.slice p l.length c), .val (.slice p2 b.length c2)] 90 [.tmp 4] Try.func6 rfl rfl rfl (by simp) rfl rfl ?_
  refine W.pure (ds := []) rfl fun K1 hK1 => ?_
  simp only [sx, ty, Bool.false_eq_true, Int.reduceEq, Int.reduceLT, Nat.reduceAdd, Nat.reduceSub, Nat.reduceMul, Nat.reduceLT, Nat.reduceLeDiff, Nat.reduceEqDiff, List.reduceReplicate, reduceIte, beq_self_eq_true, bne_self_eq_false, Int.reduceBEq, Int.reduceBNe, Bool.or_false, Bool.false_or, Bool.not_false, Bool.not_true, mbits, Int.reduceToNat, Int.reducePow, Int.toNat_natCast]; with_reducible refine hK1 _ ?_; clear hK1
  refine W.seqK fun K2 hK2 => W.region ?_
  refine WO.call (.bool true) (ds := []) rfl rfl rfl rfl co9 (fun ρ w1 hb => head_spec w1) ?_
  refine WO.go 1 (ds := []) rfl ?_
  simp only [sx, ty, Bool.false_eq_true, Int.reduceEq, Int.reduceLT, Nat.reduceAdd, Nat.reduceSub, Nat.reduceMul, Nat.reduceLT, Nat.reduceLeDiff, Nat.reduceEqDiff, List.reduceReplicate, reduceIte, beq_self_eq_true, bne_self_eq_false, Int.reduceBEq, Int.reduceBNe, Bool.or_false, Bool.false_or, Bool.not_false, Bool.not_true, mbits, Int.reduceToNat, Int.reducePow, Int.toNat_natCast]
  with_reducible refine WO.nil ?_
  refine hK2 _ ?_; clear hK2
  refine W.seqK fun K3 hK3 => ?_
  refine W.join 23 (.val (.bool (!(smallF l) || decide ((1000 : Int) < (b.length : Int))))) [0, 1, 5] (W.region ?_) ?_
  · skip
    refine WO.go 1 (ds := [some 16, some 17, some 18, some 19, some 20, some 21, some 22, some 23]) rfl ?_
    simp only [sx, ty, Bool.false_eq_true, Int.reduceEq, Int.reduceLT, Nat.reduceAdd, Nat.reduceSub, Nat.reduceMul, Nat.reduceLT, Nat.reduceLeDiff, Nat.reduceEqDiff, List.reduceReplicate, reduceIte, beq_self_eq_true, bne_self_eq_false, Int.reduceBEq, Int.reduceBNe, Bool.or_false, Bool.false_or, Bool.not_false, Bool.not_true, mbits, Int.reduceToNat, Int.reducePow, Int.toNat_natCast]
    refine WO.call (.bool (smallF l)) (ds := [some 16, some 17, some 18, some 19, some 20, some 21, some 22, some 23]) rfl rfl rfl rfl co21 (fun ρ w1 hb => small_spec (Rp.now hl (hb.first (by simp)))) ?_
    refine WO.go 2 (ds := [some 16, some 17, some 18, some 19, some 20, some 21, some 22, some 23]) rfl ?_
    simp only [sx, ty, Bool.false_eq_true, Int.reduceEq, Int.reduceLT, Nat.reduceAdd, Nat.reduceSub, Nat.reduceMul, Nat.reduceLT, Nat.reduceLeDiff, Nat.reduceEqDiff, List.reduceReplicate, reduceIte, beq_self_eq_true, bne_self_eq_false, Int.reduceBEq, Int.reduceBNe, Bool.or_false, Bool.false_or, Bool.not_false, Bool.not_true, mbits, Int.reduceToNat, Int.reducePow, Int.toNat_natCast]
    refine WO.cases 19 _ rfl (fun hg19 => ?_) (fun hg19 => ?_)
    · skip
      refine WO.go 4 (ds := [some 16, some 17, some 18, some 19, some 20, some 21, some 22, some 23]) rfl ?_
      simp only [sx, ty, Bool.false_eq_true, Int.reduceEq, Int.reduceLT, Nat.reduceAdd, Nat.reduceSub, Nat.reduceMul, Nat.reduceLT, Nat.reduceLeDiff, Nat.reduceEqDiff, List.reduceReplicate, reduceIte, beq_self_eq_true, bne_self_eq_false, Int.reduceBEq, Int.reduceBNe, Bool.or_false, Bool.false_or, Bool.not_false, Bool.not_true, mbits, Int.reduceToNat, Int.reducePow, Int.toNat_natCast]
      with_reducible refine WO.nil ?_
      refine ⟨rfl, ?_, ⟨_, rfl⟩, by simp [Own.bnd, bndL, bnd, boxO], by simp⟩
      try rw [hg19]
      simp [getE, bnd, keepE]
    · skip
      refine WO.go 4 (ds := [some 16, some 17, some 18, some 19, some 20, some 21, some 22, some 23]) rfl ?_
      simp only [sx, ty, Bool.false_eq_true, Int.reduceEq, Int.reduceLT, Nat.reduceAdd, Nat.reduceSub, Nat.reduceMul, Nat.reduceLT, Nat.reduceLeDiff, Nat.reduceEqDiff, List.reduceReplicate, reduceIte, beq_self_eq_true, bne_self_eq_false, Int.reduceBEq, Int.reduceBNe, Bool.or_false, Bool.false_or, Bool.not_false, Bool.not_true, mbits, Int.reduceToNat, Int.reducePow, Int.toNat_natCast]
      with_reducible refine WO.nil ?_
      refine ⟨rfl, ?_, ⟨_, rfl⟩, by simp [Own.bnd, bndL, bnd, boxO], by simp⟩
      try rw [hg19]
      simp [getE, bnd, keepE]
  · simp only [sx, ty, Bool.false_eq_true, Int.reduceEq, Int.reduceLT, Nat.reduceAdd, Nat.reduceSub, Nat.reduceMul, Nat.reduceLT, Nat.reduceLeDiff, Nat.reduceEqDiff, List.reduceReplicate, reduceIte, sxk, beq_self_eq_true, bne_self_eq_false, Int.reduceBEq, Int.reduceBNe, Bool.or_false, Bool.false_or, Bool.not_false, Bool.not_true, mbits, Int.reduceToNat, Int.reducePow, Int.toNat_natCast]
    refine W.cond rfl rfl (fun hc => ?_) (fun hc => ?_)
    · skip
      refine W.pure (ds := []) rfl fun K5 hK5 => ?_
      simp only [sx, ty, Bool.false_eq_true, Int.reduceEq, Int.reduceLT, Nat.reduceAdd, Nat.reduceSub, Nat.reduceMul, Nat.reduceLT, Nat.reduceLeDiff, Nat.reduceEqDiff, List.reduceReplicate, reduceIte, beq_self_eq_true, bne_self_eq_false, Int.reduceBEq, Int.reduceBNe, Bool.or_false, Bool.false_or, Bool.not_false, Bool.not_true, mbits, Int.reduceToNat, Int.reducePow, Int.toNat_natCast]; with_reducible refine hK5 _ ?_; clear hK5
      refine W.ret ⟨by simp, _, rfl, fun ρ w1 hb => ?_⟩
      rfl
    · skip
      have hU : smallF l = true := by cases hk : smallF l <;> simp [hk] at hc ⊢
      have hb1 : b.length ≤ 1000 := by simp [hU] at hc; omega
      obtain ⟨hn, h30, hok⟩ := smallF_ok hU hI
      have hall := allF_small h30
      have h2k : (allF l).length ≤ 3210 := by omega
      have hfm := framesF_len b
      have hw1 : IntKind.i64.wrap ((l.length : Int) + ((framesF b).1.length : Int)) = (((l ++ (framesF b).1).length : Nat) : Int) := by rw [wrap_id (by omega) (by omega), List.length_append]; omega
      have hw2 : IntKind.i64.wrap (((allF l).length : Int) + ((framesF b).2 : Int)) = (((allF l).length + (framesF b).2 : Nat) : Int) := by rw [wrap_id (by omega) (by omega)]; omega
      have hT : FramesF (allF l ++ b) = (l ++ (framesF b).1, (allF l).length + (framesF b).2, 0) := by rw [FramesF_ok (by rw [List.length_append]; omega), framesF_all hok]
      have hT2 : FramesF b = ((framesF b).1, (framesF b).2, 0) := FramesF_ok (by omega)
      refine W.skip (hK3 _ ?_)
      refine W.seqK fun K6 hK6 => W.region ?_
      refine WO.go 1 (ds := []) rfl ?_
      simp only [sx, ty, Bool.false_eq_true, Int.reduceEq, Int.reduceLT, Nat.reduceAdd, Nat.reduceSub, Nat.reduceMul, Nat.reduceLT, Nat.reduceLeDiff, Nat.reduceEqDiff, List.reduceReplicate, reduceIte, beq_self_eq_true, bne_self_eq_false, Int.reduceBEq, Int.reduceBNe, Bool.or_false, Bool.false_or, Bool.not_false, Bool.not_true, mbits, Int.reduceToNat, Int.reducePow, Int.toNat_natCast]
      refine WO.callM (fun x : (Option Addr × Nat) × (Option Addr × Nat) => .tuple #[.slice x.1.1 (allF l).length x.1.2, .slice x.2.1 l.length x.2.2, .bool true]) (fun lo x s9 => rBytes.rd (fun b => lo ≤ b) s9 [.slice x.1.1 (allF l).length x.1.2] (allF l) ∧ rInts.rd (fun b => lo ≤ b) s9 [.slice x.2.1 l.length x.2.2] (endsF l l.length)) (ds := []) rfl rfl rfl rfl co22 (fun ρ w1 hb => frames_spec (Rp.now hl (hb.first (by simp))) hn hok) fun x lo hrs hr => ?_
      obtain ⟨⟨hrp, hrc⟩, ⟨hep, hec⟩⟩ := x
      obtain ⟨hr1, hr2⟩ := hr
      simp only at hr1 hr2
      obtain ⟨_, _, he0g1, g1, g1b⟩ := Rp.slice_val hr1
      obtain ⟨_, _, rfl⟩ := (Value.slice.injEq _ _ _ _ _ _).mp he0g1
      have g1 : (allF l).length ≤ hrc := g1
      clear he0g1
      refine WO.go 7 (ds := []) rfl ?_
      simp only [sx, ty, Bool.false_eq_true, Int.reduceEq, Int.reduceLT, Nat.reduceAdd, Nat.reduceSub, Nat.reduceMul, Nat.reduceLT, Nat.reduceLeDiff, Nat.reduceEqDiff, List.reduceReplicate, reduceIte, beq_self_eq_true, bne_self_eq_false, Int.reduceBEq, Int.reduceBNe, Bool.or_false, Bool.false_or, Bool.not_false, Bool.not_true, mbits, Int.reduceToNat, Int.reducePow, Int.toNat_natCast]
      with_reducible refine WO.nil ?_
      refine hK6 _ ?_; clear hK6
      refine W.seqK fun K7 hK7 => ?_
      refine W.pure (ds := []) rfl fun K8 hK8 => ?_
      simp only [sx, ty, Bool.false_eq_true, Int.reduceEq, Int.reduceLT, Nat.reduceAdd, Nat.reduceSub, Nat.reduceMul, Nat.reduceLT, Nat.reduceLeDiff, Nat.reduceEqDiff, List.reduceReplicate, reduceIte, beq_self_eq_true, bne_self_eq_false, Int.reduceBEq, Int.reduceBNe, Bool.or_false, Bool.false_or, Bool.not_false, Bool.not_true, mbits, Int.reduceToNat, Int.reducePow, Int.toNat_natCast]; with_reducible refine hK8 _ ?_; clear hK8
      refine W.cond rfl rfl (fun hc => ?_) (fun hc => ?_)
      · skip
        simp at hc
      · skip
        refine W.skip (hK7 _ ?_)
        refine W.seqK fun K9 hK9 => W.region ?_
        refine WO.go 2 (ds := []) rfl ?_
        simp only [sx, ty, Bool.false_eq_true, Int.reduceEq, Int.reduceLT, Nat.reduceAdd, Nat.reduceSub, Nat.reduceMul, Nat.reduceLT, Nat.reduceLeDiff, Nat.reduceEqDiff, List.reduceReplicate, reduceIte, beq_self_eq_true, bne_self_eq_false, Int.reduceBEq, Int.reduceBNe, Bool.or_false, Bool.false_or, Bool.not_false, Bool.not_true, mbits, Int.reduceToNat, Int.reducePow, Int.toNat_natCast]
        obtain h9 | ⟨a1, olds1, ha1, hnl1, hSD1, hzD1, holD1, hatD1, hrdD1⟩ := Rp.slice_cells hr1
        · exact absurd (congrArg List.length h9) (by simp only [List.length_nil]; omega)
        have hE1 := bytes_cells (by rw [holD1]; exact Nat.mul_one _) hrdD1
        have hatE1 : At hrs a1 ((allF l).map (Value.int .u8)) := by rw [← hE1]; exact hatD1
        clear hE1
        subst ha1
        refine WO.appendFull (n := 0) (m := (allF l).length) [] ((allF l).map (.int .u8)) (ds := []) rfl rfl rfl rfl ⟨_, rfl, fun ρ w1 hb => ⟨⟨ρ 0, 0, none⟩, rfl, fun j v hv => by simp at hv⟩⟩ rfl ek23 rfl (by omega) (fun ρ w1 hb => ⟨a1, hrc, rfl, hatE1.now  hb (by simp) hSD1 hzD1⟩) (by simp) (by rw [maxLen_eq]; omega) (by omega) fun q1 cq1 => ?_
        simp only [Nat.zero_add, List.nil_append, St.pushO, List.cons_append]
        refine WO.go 1 (ds := []) rfl ?_
        simp only [sx, ty, Bool.false_eq_true, Int.reduceEq, Int.reduceLT, Nat.reduceAdd, Nat.reduceSub, Nat.reduceMul, Nat.reduceLT, Nat.reduceLeDiff, Nat.reduceEqDiff, List.reduceReplicate, reduceIte, beq_self_eq_true, bne_self_eq_false, Int.reduceBEq, Int.reduceBNe, Bool.or_false, Bool.false_or, Bool.not_false, Bool.not_true, mbits, Int.reduceToNat, Int.reducePow, Int.toNat_natCast]
        refine WO.q (ds := []) rfl rfl rfl (QR.appNone rfl rfl (fun ρ w1 hb => ⟨_, _, _, rfl, own_cap (k := 1) hb rfl⟩) rfl hb0 ek23) ?_
        simp only [sx, ty, Bool.false_eq_true, Int.reduceEq, Int.reduceLT, Nat.reduceAdd, Nat.reduceSub, Nat.reduceMul, Nat.reduceLT, Nat.reduceLeDiff, Nat.reduceEqDiff, List.reduceReplicate, reduceIte, beq_self_eq_true, bne_self_eq_false, Int.reduceBEq, Int.reduceBNe, Bool.or_false, Bool.false_or, Bool.not_false, Bool.not_true, mbits, Int.reduceToNat, Int.reducePow, Int.toNat_natCast]
        refine WO.callM (fun x : Option Addr × Nat => .tuple #[.slice x.1 (l ++ (framesF b).1).length x.2, .int .i64 ((allF l).length + (framesF b).2 : Nat), .int .i64 0]) (fun lo x s9 => rLists.rd (fun b => lo ≤ b) s9 [.slice x.1 (l ++ (framesF b).1).length x.2] (l ++ (framesF b).1)) (ds := []) rfl rfl rfl rfl co18 (fun ρ w1 hb => by have hrd : rBytes.rd (fun _ => True) w1 [.slice q1 (allF l).length cq1] (allF l ++ b) := (by rw [hbn, List.append_nil]; exact own_slice (A := rByte) (k := 1) (S := fun _ => True) (xs := (allF l).map (.int .u8)) hb rfl (by simp) (fun _ _ => trivial) (bytes_read (allF l))); have h9 := Frames_spec hrd (fun x hx => (List.mem_append.1 hx).elim (allF_isB hok x) (hb8 x)); rw [hT] at h9; exact h9) fun x lo hr4s hr4 => ?_
        obtain ⟨hr4p, hr4c⟩ := x
        simp only at hr4
        obtain ⟨_, _, he0g4, g4, g4b⟩ := Rp.slice_val hr4
        obtain ⟨_, _, rfl⟩ := (Value.slice.injEq _ _ _ _ _ _).mp he0g4
        have g4 : (l ++ (framesF b).1).length ≤ hr4c := g4
        clear he0g4
        have hapl : (l ++ (framesF b).1).length = l.length + (framesF b).1.length := List.length_append
        refine WO.go 7 (ds := []) rfl ?_
        simp only [sx, ty, Bool.false_eq_true, Int.reduceEq, Int.reduceLT, Nat.reduceAdd, Nat.reduceSub, Nat.reduceMul, Nat.reduceLT, Nat.reduceLeDiff, Nat.reduceEqDiff, List.reduceReplicate, reduceIte, beq_self_eq_true, bne_self_eq_false, Int.reduceBEq, Int.reduceBNe, Bool.or_false, Bool.false_or, Bool.not_false, Bool.not_true, mbits, Int.reduceToNat, Int.reducePow, Int.toNat_natCast]
        with_reducible refine WO.nil ?_
        refine hK9 _ ?_; clear hK9
        refine W.seqK fun K10 hK10 => W.region ?_
        refine WO.go 1 (ds := []) rfl ?_
        simp only [sx, ty, Bool.false_eq_true, Int.reduceEq, Int.reduceLT, Nat.reduceAdd, Nat.reduceSub, Nat.reduceMul, Nat.reduceLT, Nat.reduceLeDiff, Nat.reduceEqDiff, List.reduceReplicate, reduceIte, beq_self_eq_true, bne_self_eq_false, Int.reduceBEq, Int.reduceBNe, Bool.or_false, Bool.false_or, Bool.not_false, Bool.not_true, mbits, Int.reduceToNat, Int.reducePow, Int.toNat_natCast]
        refine WO.callM (fun x : Option Addr × Nat => .tuple #[.slice x.1 (framesF b).1.length x.2, .int .i64 ((framesF b).2 : Nat), .int .i64 0]) (fun lo x s9 => rLists.rd (fun b => lo ≤ b) s9 [.slice x.1 (framesF b).1.length x.2] (framesF b).1) (ds := []) rfl rfl rfl rfl co18 (fun ρ w1 hb => by have h9 := Frames_spec (Rp.now hl2 (hb.first (by simp))) hb8; rw [hT2] at h9; exact h9) fun x lo hr5s hr5 => ?_
        obtain ⟨hr5p, hr5c⟩ := x
        simp only at hr5
        refine WO.go 7 (ds := []) rfl ?_
        simp only [sx, ty, Bool.false_eq_true, Int.reduceEq, Int.reduceLT, Nat.reduceAdd, Nat.reduceSub, Nat.reduceMul, Nat.reduceLT, Nat.reduceLeDiff, Nat.reduceEqDiff, List.reduceReplicate, reduceIte, beq_self_eq_true, bne_self_eq_false, Int.reduceBEq, Int.reduceBNe, Bool.or_false, Bool.false_or, Bool.not_false, Bool.not_true, mbits, Int.reduceToNat, Int.reducePow, Int.toNat_natCast]
        with_reducible refine WO.nil ?_
        refine hK10 _ ?_; clear hK10
        refine W.seqK fun K11 hK11 => ?_
        refine W.join 72 (.val (.bool false)) [0, 5, 9, 12] (W.region ?_) ?_
        · skip
          refine WO.go 24 (ds := [some 49, some 50, some 51, some 52, some 53, some 54, some 55, some 56, some 57, some 58, some 59, some 60, some 61, some 62, some 63, some 64, some 65, some 66, some 67, some 68, some 69, some 70, some 71, some 72]) rfl ?_
          simp only [sx, ty, Bool.false_eq_true, Int.reduceEq, Int.reduceLT, Nat.reduceAdd, Nat.reduceSub, Nat.reduceMul, Nat.reduceLT, Nat.reduceLeDiff, Nat.reduceEqDiff, List.reduceReplicate, reduceIte, beq_self_eq_true, bne_self_eq_false, Int.reduceBEq, Int.reduceBNe, Bool.or_false, Bool.false_or, Bool.not_false, Bool.not_true, mbits, Int.reduceToNat, Int.reducePow, Int.toNat_natCast, hw1, hw2]
          with_reducible refine WO.nil ?_
          refine ⟨rfl, by simp [getE, bnd, keepE], ⟨_, rfl⟩, by simp [Own.bnd, bndL, bnd, boxO], by simp⟩
        · simp only [sx, ty, Bool.false_eq_true, Int.reduceEq, Int.reduceLT, Nat.reduceAdd, Nat.reduceSub, Nat.reduceMul, Nat.reduceLT, Nat.reduceLeDiff, Nat.reduceEqDiff, List.reduceReplicate, reduceIte, sxk, beq_self_eq_true, bne_self_eq_false, Int.reduceBEq, Int.reduceBNe, Bool.or_false, Bool.false_or, Bool.not_false, Bool.not_true, mbits, Int.reduceToNat, Int.reducePow, Int.toNat_natCast, hw1, hw2]
          refine W.cond rfl rfl (fun hc => ?_) (fun hc => ?_)
          · skip
            simp at hc
          · skip
            refine W.skip (hK11 _ ?_)
            refine W.join 4 (.val (.bool true)) [] (W.region ?_) ?_
            · skip
              refine WO.go 5 (ds := [some 73, some 74, some 75, some 76, some 77, some 78, some 79, some 80, some 81, some 82, some 83, some 84, some 85, some 86, some 87, some 88, some 89, some 4]) rfl ?_
              simp only [sx, ty, Bool.false_eq_true, Int.reduceEq, Int.reduceLT, Nat.reduceAdd, Nat.reduceSub, Nat.reduceMul, Nat.reduceLT, Nat.reduceLeDiff, Nat.reduceEqDiff, List.reduceReplicate, reduceIte, beq_self_eq_true, bne_self_eq_false, Int.reduceBEq, Int.reduceBNe, Bool.or_false, Bool.false_or, Bool.not_false, Bool.not_true, mbits, Int.reduceToNat, Int.reducePow, Int.toNat_natCast, hw1, hw2]
              obtain ⟨p8, c8, he8, hl8⟩ := Rp.sub (l := 0) (h := l.length) hr4 (by omega) (by simp)
              rw [sub_eqL (m := l.length) (by omega), List.drop_zero, List.take_left] at he8 hl8
              refine WO.slc (ds := [some 73, some 74, some 75, some 76, some 77, some 78, some 79, some 80, some 81, some 82, some 83, some 84, some 85, some 86, some 87, some 88, some 89, some 4]) rfl rfl rfl rfl rfl el32 rfl rfl (by simp [loS]) (by simp [loS, hiS]) (by simp [hiS] <;> omega) ?_
              rw [show slcV 1 hr4p hr4c (loS none).toNat (hiS (l ++ (framesF b).1).length (some (IntKind.i64, (l.length : Int)))).toNat = .slice p8 l.length c8 from he8]
              refine WO.go 1 (ds := [some 73, some 74, some 75, some 76, some 77, some 78, some 79, some 80, some 81, some 82, some 83, some 84, some 85, some 86, some 87, some 88, some 89, some 4]) rfl ?_
              simp only [sx, ty, Bool.false_eq_true, Int.reduceEq, Int.reduceLT, Nat.reduceAdd, Nat.reduceSub, Nat.reduceMul, Nat.reduceLT, Nat.reduceLeDiff, Nat.reduceEqDiff, List.reduceReplicate, reduceIte, beq_self_eq_true, bne_self_eq_false, Int.reduceBEq, Int.reduceBNe, Bool.or_false, Bool.false_or, Bool.not_false, Bool.not_true, mbits, Int.reduceToNat, Int.reducePow, Int.toNat_natCast, hw1, hw2]
              refine WO.call (.bool true) (ds := [some 73, some 74, some 75, some 76, some 77, some 78, some 79, some 80, some 81, some 82, some 83, some 84, some 85, some 86, some 87, some 88, some 89, some 4]) rfl rfl rfl rfl co20 (fun ρ w1 hb => sameL_self (Rp.keep hl8 (hb.at (by simp))) (Rp.now hl (hb.first (by simp)))) ?_
              refine WO.go 5 (ds := [some 73, some 74, some 75, some 76, some 77, some 78, some 79, some 80, some 81, some 82, some 83, some 84, some 85, some 86, some 87, some 88, some 89, some 4]) rfl ?_
              simp only [sx, ty, Bool.false_eq_true, Int.reduceEq, Int.reduceLT, Nat.reduceAdd, Nat.reduceSub, Nat.reduceMul, Nat.reduceLT, Nat.reduceLeDiff, Nat.reduceEqDiff, List.reduceReplicate, reduceIte, beq_self_eq_true, bne_self_eq_false, Int.reduceBEq, Int.reduceBNe, Bool.or_false, Bool.false_or, Bool.not_false, Bool.not_true, mbits, Int.reduceToNat, Int.reducePow, Int.toNat_natCast, hw1, hw2]
              obtain ⟨p9, c9, he9, hl9⟩ := Rp.dropS (l := l.length) hr4 (by simp)
              rw [List.drop_left] at he9 hl9
              refine WO.slc (ds := [some 73, some 74, some 75, some 76, some 77, some 78, some 79, some 80, some 81, some 82, some 83, some 84, some 85, some 86, some 87, some 88, some 89, some 4]) rfl rfl rfl rfl rfl el32 rfl rfl (by simp [loS]) (by simp [loS, hiS] <;> omega) (by simp [hiS] <;> omega) ?_
              rw [show slcV 1 hr4p hr4c (loS (some (IntKind.i64, (l.length : Int)))).toNat (hiS (l ++ (framesF b).1).length none).toNat = .slice p9 (framesF b).1.length c9 from he9]
              refine WO.go 1 (ds := [some 73, some 74, some 75, some 76, some 77, some 78, some 79, some 80, some 81, some 82, some 83, some 84, some 85, some 86, some 87, some 88, some 89, some 4]) rfl ?_
              simp only [sx, ty, Bool.false_eq_true, Int.reduceEq, Int.reduceLT, Nat.reduceAdd, Nat.reduceSub, Nat.reduceMul, Nat.reduceLT, Nat.reduceLeDiff, Nat.reduceEqDiff, List.reduceReplicate, reduceIte, beq_self_eq_true, bne_self_eq_false, Int.reduceBEq, Int.reduceBNe, Bool.or_false, Bool.false_or, Bool.not_false, Bool.not_true, mbits, Int.reduceToNat, Int.reducePow, Int.toNat_natCast, hw1, hw2]
              refine WO.call (.bool true) (ds := [some 73, some 74, some 75, some 76, some 77, some 78, some 79, some 80, some 81, some 82, some 83, some 84, some 85, some 86, some 87, some 88, some 89, some 4]) rfl rfl rfl rfl co20 (fun ρ w1 hb => sameL_self (Rp.keep hl9 (hb.at (by simp))) (Rp.keep hr5 (hb.at (by simp)))) ?_
              refine WO.go 2 (ds := [some 73, some 74, some 75, some 76, some 77, some 78, some 79, some 80, some 81, some 82, some 83, some 84, some 85, some 86, some 87, some 88, some 89, some 4]) rfl ?_
              simp only [sx, ty, Bool.false_eq_true, Int.reduceEq, Int.reduceLT, Nat.reduceAdd, Nat.reduceSub, Nat.reduceMul, Nat.reduceLT, Nat.reduceLeDiff, Nat.reduceEqDiff, List.reduceReplicate, reduceIte, beq_self_eq_true, bne_self_eq_false, Int.reduceBEq, Int.reduceBNe, Bool.or_false, Bool.false_or, Bool.not_false, Bool.not_true, mbits, Int.reduceToNat, Int.reducePow, Int.toNat_natCast, hw1, hw2]
              with_reducible refine WO.nil ?_
              refine ⟨rfl, by simp [getE, bnd, keepE], ⟨_, rfl⟩, by simp [Own.bnd, bndL, bnd, boxO], by simp⟩
            · simp only [sx, ty, Bool.false_eq_true, Int.reduceEq, Int.reduceLT, Nat.reduceAdd, Nat.reduceSub, Nat.reduceMul, Nat.reduceLT, Nat.reduceLeDiff, Nat.reduceEqDiff, List.reduceReplicate, reduceIte, sxk, beq_self_eq_true, bne_self_eq_false, Int.reduceBEq, Int.reduceBNe, Bool.or_false, Bool.false_or, Bool.not_false, Bool.not_true, mbits, Int.reduceToNat, Int.reducePow, Int.toNat_natCast, hw1, hw2]
              refine W.ret ⟨by simp, _, rfl, fun ρ w1 hb => ?_⟩
              rfl
/-- function 6 -/
theorem law4c {S S2 : Nat → Prop} {w : World} {v u : Value} {l : List (List Int)} {b : List Int} (hl : rLists.rd S w [v] l) (hl2 : rBytes.rd S2 w [u] b) (hI : ∀ x, x ∈ l → ∀ n, n ∈ x → isI n) (hb8 : ∀ x, x ∈ b → isB x) (hl0 : (allF l).length = 0) (hbl : 0 < b.length) : Gives Try.prog 6 #[v, u] w fun r _ => r = .bool true := by
  obtain ⟨p, c, rfl, hc1, hc2⟩ := Rp.slice_val hl
  obtain ⟨p2, c2, rfl, hc3, hc4⟩ := Rp.slice_val hl2
  have hl : (Rp.slice rInts).rd (fun _ => True) w _ l := Rp.any hl
  have hl2 : (Rp.slice rByte).rd (fun _ => True) w _ b := Rp.any hl2
  have hln : allF l = [] := List.length_eq_zero_iff.1 hl0
  refine gives_of [.val (.slice p l.length c), .val (.slice p2 b.length c2)] 90 [.tmp 4] Try.func6 rfl rfl rfl (by simp) rfl rfl ?_
  refine W.pure (ds := []) rfl fun K1 hK1 => ?_
  simp only [sx, ty, Bool.false_eq_true, Int.reduceEq, Int.reduceLT, Nat.reduceAdd, Nat.reduceSub, Nat.reduceMul, Nat.reduceLT, Nat.reduceLeDiff, Nat.reduceEqDiff, List.reduceReplicate, reduceIte, beq_self_eq_true, bne_self_eq_false, Int.reduceBEq, Int.reduceBNe, Bool.or_false, Bool.false_or, Bool.not_false, Bool.not_true, mbits, Int.reduceToNat, Int.reducePow, Int.toNat_natCast]; with_reducible refine hK1 _ ?_; clear hK1
  refine W.seqK fun K2 hK2 => W.region ?_
  refine WO.call (.bool true) (ds := []) rfl rfl rfl rfl co9 (fun ρ w1 hb => head_spec w1) ?_
  refine WO.go 1 (ds := []) rfl ?_
  simp only [sx, ty, Bool.false_eq_true, Int.reduceEq, Int.reduceLT, Nat.reduceAdd, Nat.reduceSub, Nat.reduceMul, Nat.reduceLT, Nat.reduceLeDiff, Nat.reduceEqDiff, List.reduceReplicate, reduceIte, beq_self_eq_true, bne_self_eq_false, Int.reduceBEq, Int.reduceBNe, Bool.or_false, Bool.false_or, Bool.not_false, Bool.not_true, mbits, Int.reduceToNat, Int.reducePow, Int.toNat_natCast]
  with_reducible refine WO.nil ?_
  refine hK2 _ ?_; clear hK2
  refine W.seqK fun K3 hK3 => ?_
  refine W.join 23 (.val (.bool (!(smallF l) || decide ((1000 : Int) < (b.length : Int))))) [0, 1, 5] (W.region ?_) ?_
  · skip
    refine WO.go 1 (ds := [some 16, some 17, some 18, some 19, some 20, some 21, some 22, some 23]) rfl ?_
    simp only [sx, ty, Bool.false_eq_true, Int.reduceEq, Int.reduceLT, Nat.reduceAdd, Nat.reduceSub, Nat.reduceMul, Nat.reduceLT, Nat.reduceLeDiff, Nat.reduceEqDiff, List.reduceReplicate, reduceIte, beq_self_eq_true, bne_self_eq_false, Int.reduceBEq, Int.reduceBNe, Bool.or_false, Bool.false_or, Bool.not_false, Bool.not_true, mbits, Int.reduceToNat, Int.reducePow, Int.toNat_natCast]
    refine WO.call (.bool (smallF l)) (ds := [some 16, some 17, some 18, some 19, some 20, some 21, some 22, some 23]) rfl rfl rfl rfl co21 (fun ρ w1 hb => small_spec (Rp.now hl (hb.first (by simp)))) ?_
    refine WO.go 2 (ds := [some 16, some 17, some 18, some 19, some 20, some 21, some 22, some 23]) rfl ?_
    simp only [sx, ty, Bool.false_eq_true, Int.reduceEq, Int.reduceLT, Nat.reduceAdd, Nat.reduceSub, Nat.reduceMul, Nat.reduceLT, Nat.reduceLeDiff, Nat.reduceEqDiff, List.reduceReplicate, reduceIte, beq_self_eq_true, bne_self_eq_false, Int.reduceBEq, Int.reduceBNe, Bool.or_false, Bool.false_or, Bool.not_false, Bool.not_true, mbits, Int.reduceToNat, Int.reducePow, Int.toNat_natCast]
    refine WO.cases 19 _ rfl (fun hg19 => ?_) (fun hg19 => ?_)
    · skip
      refine WO.go 4 (ds := [some 16, some 17, some 18, some 19, some 20, some 21, some 22, some 23]) rfl ?_
      simp only [sx, ty, Bool.false_eq_true, Int.reduceEq, Int.reduceLT, Nat.reduceAdd, Nat.reduceSub, Nat.reduceMul, Nat.reduceLT, Nat.reduceLeDiff, Nat.reduceEqDiff, List.reduceReplicate, reduceIte, beq_self_eq_true, bne_self_eq_false, Int.reduceBEq, Int.reduceBNe, Bool.or_false, Bool.false_or, Bool.not_false, Bool.not_true, mbits, Int.reduceToNat, Int.reducePow, Int.toNat_natCast]
      with_reducible refine WO.nil ?_
      refine ⟨rfl, ?_, ⟨_, rfl⟩, by simp [Own.bnd, bndL, bnd, boxO], by simp⟩
      try rw [hg19]
      simp [getE, bnd, keepE]
    · skip
      refine WO.go 4 (ds := [some 16, some 17, some 18, some 19, some 20, some 21, some 22, some 23]) rfl ?_
      simp only [sx, ty, Bool.false_eq_true, Int.reduceEq, Int.reduceLT, Nat.reduceAdd, Nat.reduceSub, Nat.reduceMul, Nat.reduceLT, Nat.reduceLeDiff, Nat.reduceEqDiff, List.reduceReplicate, reduceIte, beq_self_eq_true, bne_self_eq_false, Int.reduceBEq, Int.reduceBNe, Bool.or_false, Bool.false_or, Bool.not_false, Bool.not_true, mbits, Int.reduceToNat, Int.reducePow, Int.toNat_natCast]
      with_reducible refine WO.nil ?_
      refine ⟨rfl, ?_, ⟨_, rfl⟩, by simp [Own.bnd, bndL, bnd, boxO], by simp⟩
      try rw [hg19]
      simp [getE, bnd, keepE]
  · simp only [sx, ty, Bool.false_eq_true, Int.reduceEq, Int.reduceLT, Nat.reduceAdd, Nat.reduceSub, Nat.reduceMul, Nat.reduceLT, Nat.reduceLeDiff, Nat.reduceEqDiff, List.reduceReplicate, reduceIte, sxk, beq_self_eq_true, bne_self_eq_false, Int.reduceBEq, Int.reduceBNe, Bool.or_false, Bool.false_or, Bool.not_false, Bool.not_true, mbits, Int.reduceToNat, Int.reducePow, Int.toNat_natCast]
    refine W.cond rfl rfl (fun hc => ?_) (fun hc => ?_)
    · skip
      refine W.pure (ds := []) rfl fun K5 hK5 => ?_
      simp only [sx, ty, Bool.false_eq_true, Int.reduceEq, Int.reduceLT, Nat.reduceAdd, Nat.reduceSub, Nat.reduceMul, Nat.reduceLT, Nat.reduceLeDiff, Nat.reduceEqDiff, List.reduceReplicate, reduceIte, beq_self_eq_true, bne_self_eq_false, Int.reduceBEq, Int.reduceBNe, Bool.or_false, Bool.false_or, Bool.not_false, Bool.not_true, mbits, Int.reduceToNat, Int.reducePow, Int.toNat_natCast]; with_reducible refine hK5 _ ?_; clear hK5
      refine W.ret ⟨by simp, _, rfl, fun ρ w1 hb => ?_⟩
      rfl
    · skip
      have hU : smallF l = true := by cases hk : smallF l <;> simp [hk] at hc ⊢
      have hb1 : b.length ≤ 1000 := by simp [hU] at hc; omega
      obtain ⟨hn, h30, hok⟩ := smallF_ok hU hI
      have hall := allF_small h30
      have h2k : (allF l).length ≤ 3210 := by omega
      have hfm := framesF_len b
      have hw1 : IntKind.i64.wrap ((l.length : Int) + ((framesF b).1.length : Int)) = (((l ++ (framesF b).1).length : Nat) : Int) := by rw [wrap_id (by omega) (by omega), List.length_append]; omega
      have hw2 : IntKind.i64.wrap (((allF l).length : Int) + ((framesF b).2 : Int)) = (((allF l).length + (framesF b).2 : Nat) : Int) := by rw [wrap_id (by omega) (by omega)]; omega
      have hT : FramesF (allF l ++ b) = (l ++ (framesF b).1, (allF l).length + (framesF b).2, 0) := by rw [FramesF_ok (by rw [List.length_append]; omega), framesF_all hok]
      have hT2 : FramesF b = ((framesF b).1, (framesF b).2, 0) := FramesF_ok (by omega)
      refine W.skip (hK3 _ ?_)
      refine W.seqK fun K6 hK6 => W.region ?_
      refine WO.go 1 (ds := []) rfl ?_
      simp only [sx, ty, Bool.false_eq_true, Int.reduceEq, Int.reduceLT, Nat.reduceAdd, Nat.reduceSub, Nat.reduceMul, Nat.reduceLT, Nat.reduceLeDiff, Nat.reduceEqDiff, List.reduceReplicate, reduceIte, beq_self_eq_true, bne_self_eq_false, Int.reduceBEq, Int.reduceBNe, Bool.or_false, Bool.false_or, Bool.not_false, Bool.not_true, mbits, Int.reduceToNat, Int.reducePow, Int.toNat_natCast]
      refine WO.callM (fun x : (Option Addr × Nat) × (Option Addr × Nat) => .tuple #[.slice x.1.1 (allF l).length x.1.2, .slice x.2.1 l.length x.2.2, .bool true]) (fun lo x s9 => rBytes.rd (fun b => lo ≤ b) s9 [.slice x.1.1 (allF l).length x.1.2] (allF l) ∧ rInts.rd (fun b => lo ≤ b) s9 [.slice x.2.1 l.length x.2.2] (endsF l l.length)) (ds := []) rfl rfl rfl rfl co22 (fun ρ w1 hb => frames_spec (Rp.now hl (hb.first (by simp))) hn hok) fun x lo hrs hr => ?_
      obtain ⟨⟨hrp, hrc⟩, ⟨hep, hec⟩⟩ := x
      obtain ⟨hr1, hr2⟩ := hr
      simp only at hr1 hr2
      obtain ⟨_, _, he0g1, g1, g1b⟩ := Rp.slice_val hr1
      obtain ⟨_, _, rfl⟩ := (Value.slice.injEq _ _ _ _ _ _).mp he0g1
      have g1 : (allF l).length ≤ hrc := g1
      clear he0g1
      refine WO.go 7 (ds := []) rfl ?_
      simp only [sx, ty, Bool.false_eq_true, Int.reduceEq, Int.reduceLT, Nat.reduceAdd, Nat.reduceSub, Nat.reduceMul, Nat.reduceLT, Nat.reduceLeDiff, Nat.reduceEqDiff, List.reduceReplicate, reduceIte, beq_self_eq_true, bne_self_eq_false, Int.reduceBEq, Int.reduceBNe, Bool.or_false, Bool.false_or, Bool.not_false, Bool.not_true, mbits, Int.reduceToNat, Int.reducePow, Int.toNat_natCast]
      with_reducible refine WO.nil ?_
      refine hK6 _ ?_; clear hK6
      refine W.seqK fun K7 hK7 => ?_
      refine W.pure (ds := []) rfl fun K8 hK8 => ?_
      simp only [sx, ty, Bool.false_eq_true, Int.reduceEq, Int.reduceLT, Nat.reduceAdd, Nat.reduceSub, Nat.reduceMul, Nat.reduceLT, Nat.reduceLeDiff, Nat.reduceEqDiff, List.reduceReplicate, reduceIte, beq_self_eq_true, bne_self_eq_false, Int.reduceBEq, Int.reduceBNe, Bool.or_false, Bool.false_or, Bool.not_false, Bool.not_true, mbits, Int.reduceToNat, Int.reducePow, Int.toNat_natCast]; with_reducible refine hK8 _ ?_; clear hK8
      refine W.cond rfl rfl (fun hc => ?_) (fun hc => ?_)
      · skip
        simp at hc
      · skip
        refine W.skip (hK7 _ ?_)
        refine W.seqK fun K9 hK9 => W.region ?_
        refine WO.go 2 (ds := []) rfl ?_
        simp only [sx, ty, Bool.false_eq_true, Int.reduceEq, Int.reduceLT, Nat.reduceAdd, Nat.reduceSub, Nat.reduceMul, Nat.reduceLT, Nat.reduceLeDiff, Nat.reduceEqDiff, List.reduceReplicate, reduceIte, beq_self_eq_true, bne_self_eq_false, Int.reduceBEq, Int.reduceBNe, Bool.or_false, Bool.false_or, Bool.not_false, Bool.not_true, mbits, Int.reduceToNat, Int.reducePow, Int.toNat_natCast]
        refine WO.q (ds := []) rfl rfl rfl (QR.appNone rfl rfl (fun ρ w1 hb => ⟨_, _, _, rfl, Nat.le_refl _⟩) rfl hl0 ek23) ?_
        refine WO.go 1 (ds := []) rfl ?_
        simp only [sx, ty, Bool.false_eq_true, Int.reduceEq, Int.reduceLT, Nat.reduceAdd, Nat.reduceSub, Nat.reduceMul, Nat.reduceLT, Nat.reduceLeDiff, Nat.reduceEqDiff, List.reduceReplicate, reduceIte, beq_self_eq_true, bne_self_eq_false, Int.reduceBEq, Int.reduceBNe, Bool.or_false, Bool.false_or, Bool.not_false, Bool.not_true, mbits, Int.reduceToNat, Int.reducePow, Int.toNat_natCast]
        obtain h9 | ⟨a2, olds2, ha2, hnl2, hSD2, hzD2, holD2, hatD2, hrdD2⟩ := Rp.slice_cells hl2
        · exact absurd (congrArg List.length h9) (by simp only [List.length_nil]; omega)
        have hE2 := bytes_cells (by rw [holD2]; exact Nat.mul_one _) hrdD2
        have hatE2 : At w a2 (b.map (Value.int .u8)) := by rw [← hE2]; exact hatD2
        clear hE2
        subst ha2
        refine WO.appendFull (n := 0) (m := b.length) [] (b.map (.int .u8)) (ds := []) rfl rfl rfl rfl ⟨_, rfl, fun ρ w1 hb => ⟨⟨ρ 0, 0, none⟩, rfl, fun j v hv => by simp at hv⟩⟩ rfl ek23 rfl (by omega) (fun ρ w1 hb => ⟨a2, c2, rfl, hatE2.now (S := fun _ => True) hb (by simp) hSD2 hzD2⟩) (by simp) (by rw [maxLen_eq]; omega) (by omega) fun q1 cq1 => ?_
        simp only [Nat.zero_add, List.nil_append, St.pushO, List.cons_append]
        simp only [sx, ty, Bool.false_eq_true, Int.reduceEq, Int.reduceLT, Nat.reduceAdd, Nat.reduceSub, Nat.reduceMul, Nat.reduceLT, Nat.reduceLeDiff, Nat.reduceEqDiff, List.reduceReplicate, reduceIte, beq_self_eq_true, bne_self_eq_false, Int.reduceBEq, Int.reduceBNe, Bool.or_false, Bool.false_or, Bool.not_false, Bool.not_true, mbits, Int.reduceToNat, Int.reducePow, Int.toNat_natCast]
        refine WO.callM (fun x : Option Addr × Nat => .tuple #[.slice x.1 (l ++ (framesF b).1).length x.2, .int .i64 ((allF l).length + (framesF b).2 : Nat), .int .i64 0]) (fun lo x s9 => rLists.rd (fun b => lo ≤ b) s9 [.slice x.1 (l ++ (framesF b).1).length x.2] (l ++ (framesF b).1)) (ds := []) rfl rfl rfl rfl co18 (fun ρ w1 hb => by have hrd : rBytes.rd (fun _ => True) w1 [.slice q1 b.length cq1] (allF l ++ b) := (by rw [hln, List.nil_append]; exact own_slice (A := rByte) (k := 1) (S := fun _ => True) (xs := b.map (.int .u8)) hb rfl (by simp) (fun _ _ => trivial) (bytes_read b)); have h9 := Frames_spec hrd (fun x hx => (List.mem_append.1 hx).elim (allF_isB hok x) (hb8 x)); rw [hT] at h9; exact h9) fun x lo hr4s hr4 => ?_
        obtain ⟨hr4p, hr4c⟩ := x
        simp only at hr4
        obtain ⟨_, _, he0g4, g4, g4b⟩ := Rp.slice_val hr4
        obtain ⟨_, _, rfl⟩ := (Value.slice.injEq _ _ _ _ _ _).mp he0g4
        have g4 : (l ++ (framesF b).1).length ≤ hr4c := g4
        clear he0g4
        have hapl : (l ++ (framesF b).1).length = l.length + (framesF b).1.length := List.length_append
        refine WO.go 7 (ds := []) rfl ?_
        simp only [sx, ty, Bool.false_eq_true, Int.reduceEq, Int.reduceLT, Nat.reduceAdd, Nat.reduceSub, Nat.reduceMul, Nat.reduceLT, Nat.reduceLeDiff, Nat.reduceEqDiff, List.reduceReplicate, reduceIte, beq_self_eq_true, bne_self_eq_false, Int.reduceBEq, Int.reduceBNe, Bool.or_false, Bool.false_or, Bool.not_false, Bool.not_true, mbits, Int.reduceToNat, Int.reducePow, Int.toNat_natCast]
        with_reducible refine WO.nil ?_
        refine hK9 _ ?_; clear hK9
        refine W.seqK fun K10 hK10 => W.region ?_
        refine WO.go 1 (ds := []) rfl ?_
        simp only [sx, ty, Bool.false_eq_true, Int.reduceEq, Int.reduceLT, Nat.reduceAdd, Nat.reduceSub, Nat.reduceMul, Nat.reduceLT, Nat.reduceLeDiff, Nat.reduceEqDiff, List.reduceReplicate, reduceIte, beq_self_eq_true, bne_self_eq_false, Int.reduceBEq, Int.reduceBNe, Bool.or_false, Bool.false_or, Bool.not_false, Bool.not_true, mbits, Int.reduceToNat, Int.reducePow, Int.toNat_natCast]
        refine WO.callM (fun x : Option Addr × Nat => .tuple #[.slice x.1 (framesF b).1.length x.2, .int .i64 ((framesF b).2 : Nat), .int .i64 0]) (fun lo x s9 => rLists.rd (fun b => lo ≤ b) s9 [.slice x.1 (framesF b).1.length x.2] (framesF b).1) (ds := []) rfl rfl rfl rfl co18 (fun ρ w1 hb => by have h9 := Frames_spec (Rp.now hl2 (hb.first (by simp))) hb8; rw [hT2] at h9; exact h9) fun x lo hr5s hr5 => ?_
        obtain ⟨hr5p, hr5c⟩ := x
        simp only at hr5
        refine WO.go 7 (ds := []) rfl ?_
        simp only [sx, ty, Bool.false_eq_true, Int.reduceEq, Int.reduceLT, Nat.reduceAdd, Nat.reduceSub, Nat.reduceMul, Nat.reduceLT, Nat.reduceLeDiff, Nat.reduceEqDiff, List.reduceReplicate, reduceIte, beq_self_eq_true, bne_self_eq_false, Int.reduceBEq, Int.reduceBNe, Bool.or_false, Bool.false_or, Bool.not_false, Bool.not_true, mbits, Int.reduceToNat, Int.reducePow, Int.toNat_natCast]
        with_reducible refine WO.nil ?_
        refine hK10 _ ?_; clear hK10
        refine W.seqK fun K11 hK11 => ?_
        refine W.join 72 (.val (.bool false)) [0, 5, 9, 12] (W.region ?_) ?_
        · skip
          refine WO.go 24 (ds := [some 49, some 50, some 51, some 52, some 53, some 54, some 55, some 56, some 57, some 58, some 59, some 60, some 61, some 62, some 63, some 64, some 65, some 66, some 67, some 68, some 69, some 70, some 71, some 72]) rfl ?_
          simp only [sx, ty, Bool.false_eq_true, Int.reduceEq, Int.reduceLT, Nat.reduceAdd, Nat.reduceSub, Nat.reduceMul, Nat.reduceLT, Nat.reduceLeDiff, Nat.reduceEqDiff, List.reduceReplicate, reduceIte, beq_self_eq_true, bne_self_eq_false, Int.reduceBEq, Int.reduceBNe, Bool.or_false, Bool.false_or, Bool.not_false, Bool.not_true, mbits, Int.reduceToNat, Int.reducePow, Int.toNat_natCast, hw1, hw2]
          with_reducible refine WO.nil ?_
          refine ⟨rfl, by simp [getE, bnd, keepE], ⟨_, rfl⟩, by simp [Own.bnd, bndL, bnd, boxO], by simp⟩
        · simp only [sx, ty, Bool.false_eq_true, Int.reduceEq, Int.reduceLT, Nat.reduceAdd, Nat.reduceSub, Nat.reduceMul, Nat.reduceLT, Nat.reduceLeDiff, Nat.reduceEqDiff, List.reduceReplicate, reduceIte, sxk, beq_self_eq_true, bne_self_eq_false, Int.reduceBEq, Int.reduceBNe, Bool.or_false, Bool.false_or, Bool.not_false, Bool.not_true, mbits, Int.reduceToNat, Int.reducePow, Int.toNat_natCast, hw1, hw2]
          refine W.cond rfl rfl (fun hc => ?_) (fun hc => ?_)
          · skip
            simp at hc
          · skip
            refine W.skip (hK11 _ ?_)
            refine W.join 4 (.val (.bool true)) [] (W.region ?_) ?_
            · skip
              refine WO.go 5 (ds := [some 73, some 74, some 75, some 76, some 77, some 78, some 79, some 80, some 81, some 82, some 83, some 84, some 85, some 86, some 87, some 88, some 89, some 4]) rfl ?_
              simp only [sx, ty, Bool.false_eq_true, Int.reduceEq, Int.reduceLT, Nat.reduceAdd, Nat.reduceSub, Nat.reduceMul, Nat.reduceLT, Nat.reduceLeDiff, Nat.reduceEqDiff, List.reduceReplicate, reduceIte, beq_self_eq_true, bne_self_eq_false, Int.reduceBEq, Int.reduceBNe, Bool.or_false, Bool.false_or, Bool.not_false, Bool.not_true, mbits, Int.reduceToNat, Int.reducePow, Int.toNat_natCast, hw1, hw2]
              obtain ⟨p8, c8, he8, hl8⟩ := Rp.sub (l := 0) (h := l.length) hr4 (by omega) (by simp)
              rw [sub_eqL (m := l.length) (by omega), List.drop_zero, List.take_left] at he8 hl8
              refine WO.slc (ds := [some 73, some 74, some 75, some 76, some 77, some 78, some 79, some 80, some 81, some 82, some 83, some 84, some 85, some 86, some 87, some 88, some 89, some 4]) rfl rfl rfl rfl rfl el32 rfl rfl (by simp [loS]) (by simp [loS, hiS]) (by simp [hiS] <;> omega) ?_
              rw [show slcV 1 hr4p hr4c (loS none).toNat (hiS (l ++ (framesF b).1).length (some (IntKind.i64, (l.length : Int)))).toNat = .slice p8 l.length c8 from he8]
              refine WO.go 1 (ds := [some 73, some 74, some 75, some 76, some 77, some 78, some 79, some 80, some 81, some 82, some 83, some 84, some 85, some 86, some 87, some 88, some 89, some 4]) rfl ?_
              simp only [sx, ty, Bool.false_eq_true, Int.reduceEq, Int.reduceLT, Nat.reduceAdd, Nat.reduceSub, Nat.reduceMul, Nat.reduceLT, Nat.reduceLeDiff, Nat.reduceEqDiff, List.reduceReplicate, reduceIte, beq_self_eq_true, bne_self_eq_false, Int.reduceBEq, Int.reduceBNe, Bool.or_false, Bool.false_or, Bool.not_false, Bool.not_true, mbits, Int.reduceToNat, Int.reducePow, Int.toNat_natCast, hw1, hw2]
              refine WO.call (.bool true) (ds := [some 73, some 74, some 75, some 76, some 77, some 78, some 79, some 80, some 81, some 82, some 83, some 84, some 85, some 86, some 87, some 88, some 89, some 4]) rfl rfl rfl rfl co20 (fun ρ w1 hb => sameL_self (Rp.keep hl8 (hb.at (by simp))) (Rp.now hl (hb.first (by simp)))) ?_
              refine WO.go 5 (ds := [some 73, some 74, some 75, some 76, some 77, some 78, some 79, some 80, some 81, some 82, some 83, some 84, some 85, some 86, some 87, some 88, some 89, some 4]) rfl ?_
              simp only [sx, ty, Bool.false_eq_true, Int.reduceEq, Int.reduceLT, Nat.reduceAdd, Nat.reduceSub, Nat.reduceMul, Nat.reduceLT, Nat.reduceLeDiff, Nat.reduceEqDiff, List.reduceReplicate, reduceIte, beq_self_eq_true, bne_self_eq_false, Int.reduceBEq, Int.reduceBNe, Bool.or_false, Bool.false_or, Bool.not_false, Bool.not_true, mbits, Int.reduceToNat, Int.reducePow, Int.toNat_natCast, hw1, hw2]
              obtain ⟨p9, c9, he9, hl9⟩ := Rp.dropS (l := l.length) hr4 (by simp)
              rw [List.drop_left] at he9 hl9
              refine WO.slc (ds := [some 73, some 74, some 75, some 76, some 77, some 78, some 79, some 80, some 81, some 82, some 83, some 84, some 85, some 86, some 87, some 88, some 89, some 4]) rfl rfl rfl rfl rfl el32 rfl rfl (by simp [loS]) (by simp [loS, hiS] <;> omega) (by simp [hiS] <;> omega) ?_
              rw [show slcV 1 hr4p hr4c (loS (some (IntKind.i64, (l.length : Int)))).toNat (hiS (l ++ (framesF b).1).length none).toNat = .slice p9 (framesF b).1.length c9 from he9]
              refine WO.go 1 (ds := [some 73, some 74, some 75, some 76, some 77, some 78, some 79, some 80, some 81, some 82, some 83, some 84, some 85, some 86, some 87, some 88, some 89, some 4]) rfl ?_
              simp only [sx, ty, Bool.false_eq_true, Int.reduceEq, Int.reduceLT, Nat.reduceAdd, Nat.reduceSub, Nat.reduceMul, Nat.reduceLT, Nat.reduceLeDiff, Nat.reduceEqDiff, List.reduceReplicate, reduceIte, beq_self_eq_true, bne_self_eq_false, Int.reduceBEq, Int.reduceBNe, Bool.or_false, Bool.false_or, Bool.not_false, Bool.not_true, mbits, Int.reduceToNat, Int.reducePow, Int.toNat_natCast, hw1, hw2]
              refine WO.call (.bool true) (ds := [some 73, some 74, some 75, some 76, some 77, some 78, some 79, some 80, some 81, some 82, some 83, some 84, some 85, some 86, some 87, some 88, some 89, some 4]) rfl rfl rfl rfl co20 (fun ρ w1 hb => sameL_self (Rp.keep hl9 (hb.at (by simp))) (Rp.keep hr5 (hb.at (by simp)))) ?_
              refine WO.go 2 (ds := [some 73, some 74, some 75, some 76, some 77, some 78, some 79, some 80, some 81, some 82, some 83, some 84, some 85, some 86, some 87, some 88, some 89, some 4]) rfl ?_
              simp only [sx, ty, Bool.false_eq_true, Int.reduceEq, Int.reduceLT, Nat.reduceAdd, Nat.reduceSub, Nat.reduceMul, Nat.reduceLT, Nat.reduceLeDiff, Nat.reduceEqDiff, List.reduceReplicate, reduceIte, beq_self_eq_true, bne_self_eq_false, Int.reduceBEq, Int.reduceBNe, Bool.or_false, Bool.false_or, Bool.not_false, Bool.not_true, mbits, Int.reduceToNat, Int.reducePow, Int.toNat_natCast, hw1, hw2]
              with_reducible refine WO.nil ?_
              refine ⟨rfl, by simp [getE, bnd, keepE], ⟨_, rfl⟩, by simp [Own.bnd, bndL, bnd, boxO], by simp⟩
            · simp only [sx, ty, Bool.false_eq_true, Int.reduceEq, Int.reduceLT, Nat.reduceAdd, Nat.reduceSub, Nat.reduceMul, Nat.reduceLT, Nat.reduceLeDiff, Nat.reduceEqDiff, List.reduceReplicate, reduceIte, sxk, beq_self_eq_true, bne_self_eq_false, Int.reduceBEq, Int.reduceBNe, Bool.or_false, Bool.false_or, Bool.not_false, Bool.not_true, mbits, Int.reduceToNat, Int.reducePow, Int.toNat_natCast, hw1, hw2]
              refine W.ret ⟨by simp, _, rfl, fun ρ w1 hb => ?_⟩
              rfl
/-- function 6 -/
theorem law4d {S S2 : Nat → Prop} {w : World} {v u : Value} {l : List (List Int)} {b : List Int} (hl : rLists.rd S w [v] l) (hl2 : rBytes.rd S2 w [u] b) (hI : ∀ x, x ∈ l → ∀ n, n ∈ x → isI n) (hb8 : ∀ x, x ∈ b → isB x) (hl0 : (allF l).length = 0) (hb0 : b.length = 0) : Gives Try.prog 6 #[v, u] w fun r _ => r = .bool true := by
  obtain ⟨p, c, rfl, hc1, hc2⟩ := Rp.slice_val hl
  obtain ⟨p2, c2, rfl, hc3, hc4⟩ := Rp.slice_val hl2
  have hl : (Rp.slice rInts).rd (fun _ => True) w _ l := Rp.any hl
  have hl2 : (Rp.slice rByte).rd (fun _ => True) w _ b := Rp.any hl2
  have hln : allF l = [] := List.length_eq_zero_iff.1 hl0
  have hbn : b = [] := List.length_eq_zero_iff.1 hb0
  refine gives_of [.val (.slice p l.length c), .val (.slice p2 b.length c2)] 90 [.tmp 4] Try.func6 rfl rfl rfl (by simp) rfl rfl ?_
  refine W.pure (ds := []) rfl fun K1 hK1 => ?_
  simp only [sx, ty, Bool.false_eq_true, Int.reduceEq, Int.reduceLT, Nat.reduceAdd, Nat.reduceSub, Nat.reduceMul, Nat.reduceLT, Nat.reduceLeDiff, Nat.reduceEqDiff, List.reduceReplicate, reduceIte, beq_self_eq_true, bne_self_eq_false, Int.reduceBEq, Int.reduceBNe, Bool.or_false, Bool.false_or, Bool.not_false, Bool.not_true, mbits, Int.reduceToNat, Int.reducePow, Int.toNat_natCast]; with_reducible refine hK1 _ ?_; clear hK1
  refine W.seqK fun K2 hK2 => W.region ?_
  refine WO.call (.bool true) (ds := []) rfl rfl rfl rfl co9 (fun ρ w1 hb => head_spec w1) ?_
  refine WO.go 1 (ds := []) rfl ?_
  simp only [sx, ty, Bool.false_eq_true, Int.reduceEq, Int.reduceLT, Nat.reduceAdd, Nat.reduceSub, Nat.reduceMul, Nat.reduceLT, Nat.reduceLeDiff, Nat.reduceEqDiff, List.reduceReplicate, reduceIte, beq_self_eq_true, bne_self_eq_false, Int.reduceBEq, Int.reduceBNe, Bool.or_false, Bool.false_or, Bool.not_false, Bool.not_true, mbits, Int.reduceToNat, Int.reducePow, Int.toNat_natCast]
  with_reducible refine WO.nil ?_
  refine hK2 _ ?_; clear hK2
  refine W.seqK fun K3 hK3 => ?_
  refine W.join 23 (.val (.bool (!(smallF l) || decide ((1000 : Int) < (b.length : Int))))) [0, 1, 5] (W.region ?_) ?_
  · skip
    refine WO.go 1 (ds := [some 16, some 17, some 18, some 19, some 20, some 21, some 22, some 23]) rfl ?_
    simp only [sx, ty, Bool.false_eq_true, Int.reduceEq, Int.reduceLT, Nat.reduceAdd, Nat.reduceSub, Nat.reduceMul, Nat.reduceLT, Nat.reduceLeDiff, Nat.reduceEqDiff, List.reduceReplicate, reduceIte, beq_self_eq_true, bne_self_eq_false, Int.reduceBEq, Int.reduceBNe, Bool.or_false, Bool.false_or, Bool.not_false, Bool.not_true, mbits, Int.reduceToNat, Int.reducePow, Int.toNat_natCast]
    refine WO.call (.bool (smallF l)) (ds := [some 16, some 17, some 18, some 19, some 20, some 21, some 22, some 23]) rfl rfl rfl rfl co21 (fun ρ w1 hb => small_spec (Rp.now hl (hb.first (by simp)))) ?_
    refine WO.go 2 (ds := [some 16, some 17, some 18, some 19, some 20, some 21, some 22, some 23]) rfl ?_
    simp only [sx, ty, Bool.false_eq_true, Int.reduceEq, Int.reduceLT, Nat.reduceAdd, Nat.reduceSub, Nat.reduceMul, Nat.reduceLT, Nat.reduceLeDiff, Nat.reduceEqDiff, List.reduceReplicate, reduceIte, beq_self_eq_true, bne_self_eq_false, Int.reduceBEq, Int.reduceBNe, Bool.or_false, Bool.false_or, Bool.not_false, Bool.not_true, mbits, Int.reduceToNat, Int.reducePow, Int.toNat_natCast]
    refine WO.cases 19 _ rfl (fun hg19 => ?_) (fun hg19 => ?_)
    · skip
      refine WO.go 4 (ds := [some 16, some 17, some 18, some 19, some 20, some 21, some 22, some 23]) rfl ?_
      simp only [sx, ty, Bool.false_eq_true, Int.reduceEq, Int.reduceLT, Nat.reduceAdd, Nat.reduceSub, Nat.reduceMul, Nat.reduceLT, Nat.reduceLeDiff, Nat.reduceEqDiff, List.reduceReplicate, reduceIte, beq_self_eq_true, bne_self_eq_false, Int.reduceBEq, Int.reduceBNe, Bool.or_false, Bool.false_or, Bool.not_false, Bool.not_true, mbits, Int.reduceToNat, Int.reducePow, Int.toNat_natCast]
      with_reducible refine WO.nil ?_
      refine ⟨rfl, ?_, ⟨_, rfl⟩, by simp [Own.bnd, bndL, bnd, boxO], by simp⟩
      try rw [hg19]
      simp [getE, bnd, keepE]
    · skip
      refine WO.go 4 (ds := [some 16, some 17, some 18, some 19, some 20, some 21, some 22, some 23]) rfl ?_
      simp only [sx, ty, Bool.false_eq_true, Int.reduceEq, Int.reduceLT, Nat.reduceAdd, Nat.reduceSub, Nat.reduceMul, Nat.reduceLT, Nat.reduceLeDiff, Nat.reduceEqDiff, List.reduceReplicate, reduceIte, beq_self_eq_true, bne_self_eq_false, Int.reduceBEq, Int.reduceBNe, Bool.or_false, Bool.false_or, Bool.not_false, Bool.not_true, mbits, Int.reduceToNat, Int.reducePow, Int.toNat_natCast]
      with_reducible refine WO.nil ?_
      refine ⟨rfl, ?_, ⟨_, rfl⟩, by simp [Own.bnd, bndL, bnd, boxO], by simp⟩
      try rw [hg19]
      simp [getE, bnd, keepE]
  · simp only [sx, ty, Bool.false_eq_true, Int.reduceEq, Int.reduceLT, Nat.reduceAdd, Nat.reduceSub, Nat.reduceMul, Nat.reduceLT, Nat.reduceLeDiff, Nat.reduceEqDiff, List.reduceReplicate, reduceIte, sxk, beq_self_eq_true, bne_self_eq_false, Int.reduceBEq, Int.reduceBNe, Bool.or_false, Bool.false_or, Bool.not_false, Bool.not_true, mbits, Int.reduceToNat, Int.reducePow, Int.toNat_natCast]
    refine W.cond rfl rfl (fun hc => ?_) (fun hc => ?_)
    · skip
      refine W.pure (ds := []) rfl fun K5 hK5 => ?_
      simp only [sx, ty, Bool.false_eq_true, Int.reduceEq, Int.reduceLT, Nat.reduceAdd, Nat.reduceSub, Nat.reduceMul, Nat.reduceLT, Nat.reduceLeDiff, Nat.reduceEqDiff, List.reduceReplicate, reduceIte, beq_self_eq_true, bne_self_eq_false, Int.reduceBEq, Int.reduceBNe, Bool.or_false, Bool.false_or, Bool.not_false, Bool.not_true, mbits, Int.reduceToNat, Int.reducePow, Int.toNat_natCast]; with_reducible refine hK5 _ ?_; clear hK5
      refine W.ret ⟨by simp, _, rfl, fun ρ w1 hb => ?_⟩
      rfl
    · skip
      have hU : smallF l = true := by cases hk : smallF l <;> simp [hk] at hc ⊢
      have hb1 : b.length ≤ 1000 := by simp [hU] at hc; omega
      obtain ⟨hn, h30, hok⟩ := smallF_ok hU hI
      have hall := allF_small h30
      have h2k : (allF l).length ≤ 3210 := by omega
      have hfm := framesF_len b
      have hw1 : IntKind.i64.wrap ((l.length : Int) + ((framesF b).1.length : Int)) = (((l ++ (framesF b).1).length : Nat) : Int) := by rw [wrap_id (by omega) (by omega), List.length_append]; omega
      have hw2 : IntKind.i64.wrap (((allF l).length : Int) + ((framesF b).2 : Int)) = (((allF l).length + (framesF b).2 : Nat) : Int) := by rw [wrap_id (by omega) (by omega)]; omega
      have hT : FramesF (allF l ++ b) = (l ++ (framesF b).1, (allF l).length + (framesF b).2, 0) := by rw [FramesF_ok (by rw [List.length_append]; omega), framesF_all hok]
      have hT2 : FramesF b = ((framesF b).1, (framesF b).2, 0) := FramesF_ok (by omega)
      refine W.skip (hK3 _ ?_)
      refine W.seqK fun K6 hK6 => W.region ?_
      refine WO.go 1 (ds := []) rfl ?_
      simp only [sx, ty, Bool.false_eq_true, Int.reduceEq, Int.reduceLT, Nat.reduceAdd, Nat.reduceSub, Nat.reduceMul, Nat.reduceLT, Nat.reduceLeDiff, Nat.reduceEqDiff, List.reduceReplicate, reduceIte, beq_self_eq_true, bne_self_eq_false, Int.reduceBEq, Int.reduceBNe, Bool.or_false, Bool.false_or, Bool.not_false, Bool.not_true, mbits, Int.reduceToNat, Int.reducePow, Int.toNat_natCast]
      refine WO.callM (fun x : (Option Addr × Nat) × (Option Addr × Nat) => .tuple #[.slice x.1.1 (allF l).length x.1.2, .slice x.2.1 l.length x.2.2, .bool true]) (fun lo x s9 => rBytes.rd (fun b => lo ≤ b) s9 [.slice x.1.1 (allF l).length x.1.2] (allF l) ∧ rInts.rd (fun b => lo ≤ b) s9 [.slice x.2.1 l.length x.2.2] (endsF l l.length)) (ds := []) rfl rfl rfl rfl co22 (fun ρ w1 hb => frames_spec (Rp.now hl (hb.first (by simp))) hn hok) fun x lo hrs hr => ?_
      obtain ⟨⟨hrp, hrc⟩, ⟨hep, hec⟩⟩ := x
      obtain ⟨hr1, hr2⟩ := hr
      simp only at hr1 hr2
      obtain ⟨_, _, he0g1, g1, g1b⟩ := Rp.slice_val hr1
      obtain ⟨_, _, rfl⟩ := (Value.slice.injEq _ _ _ _ _ _).mp he0g1
      have g1 : (allF l).length ≤ hrc := g1
      clear he0g1
      refine WO.go 7 (ds := []) rfl ?_
      simp only [sx, ty, Bool.false_eq_true, Int.reduceEq, Int.reduceLT, Nat.reduceAdd, Nat.reduceSub, Nat.reduceMul, Nat.reduceLT, Nat.reduceLeDiff, Nat.reduceEqDiff, List.reduceReplicate, reduceIte, beq_self_eq_true, bne_self_eq_false, Int.reduceBEq, Int.reduceBNe, Bool.or_false, Bool.false_or, Bool.not_false, Bool.not_true, mbits, Int.reduceToNat, Int.reducePow, Int.toNat_natCast]
      with_reducible refine WO.nil ?_
      refine hK6 _ ?_; clear hK6
      refine W.seqK fun K7 hK7 => ?_
      refine W.pure (ds := []) rfl fun K8 hK8 => ?_
      simp only [sx, ty, Bool.false_eq_true, Int.reduceEq, Int.reduceLT, Nat.reduceAdd, Nat.reduceSub, Nat.reduceMul, Nat.reduceLT, Nat.reduceLeDiff, Nat.reduceEqDiff, List.reduceReplicate, reduceIte, beq_self_eq_true, bne_self_eq_false, Int.reduceBEq, Int.reduceBNe, Bool.or_false, Bool.false_or, Bool.not_false, Bool.not_true, mbits, Int.reduceToNat, Int.reducePow, Int.toNat_natCast]; with_reducible refine hK8 _ ?_; clear hK8
      refine W.cond rfl rfl (fun hc => ?_) (fun hc => ?_)
      · skip
        simp at hc
      · skip
        refine W.skip (hK7 _ ?_)
        refine W.seqK fun K9 hK9 => W.region ?_
        refine WO.go 2 (ds := []) rfl ?_
        simp only [sx, ty, Bool.false_eq_true, Int.reduceEq, Int.reduceLT, Nat.reduceAdd, Nat.reduceSub, Nat.reduceMul, Nat.reduceLT, Nat.reduceLeDiff, Nat.reduceEqDiff, List.reduceReplicate, reduceIte, beq_self_eq_true, bne_self_eq_false, Int.reduceBEq, Int.reduceBNe, Bool.or_false, Bool.false_or, Bool.not_false, Bool.not_true, mbits, Int.reduceToNat, Int.reducePow, Int.toNat_natCast]
        refine WO.q (ds := []) rfl rfl rfl (QR.appNone rfl rfl (fun ρ w1 hb => ⟨_, _, _, rfl, Nat.le_refl _⟩) rfl hl0 ek23) ?_
        refine WO.go 1 (ds := []) rfl ?_
        simp only [sx, ty, Bool.false_eq_true, Int.reduceEq, Int.reduceLT, Nat.reduceAdd, Nat.reduceSub, Nat.reduceMul, Nat.reduceLT, Nat.reduceLeDiff, Nat.reduceEqDiff, List.reduceReplicate, reduceIte, beq_self_eq_true, bne_self_eq_false, Int.reduceBEq, Int.reduceBNe, Bool.or_false, Bool.false_or, Bool.not_false, Bool.not_true, mbits, Int.reduceToNat, Int.reducePow, Int.toNat_natCast]
        refine WO.q (ds := []) rfl rfl rfl (QR.appNone rfl rfl (fun ρ w1 hb => ⟨_, _, _, rfl, Nat.le_refl _⟩) rfl hb0 ek23) ?_
        simp only [sx, ty, Bool.false_eq_true, Int.reduceEq, Int.reduceLT, Nat.reduceAdd, Nat.reduceSub, Nat.reduceMul, Nat.reduceLT, Nat.reduceLeDiff, Nat.reduceEqDiff, List.reduceReplicate, reduceIte, beq_self_eq_true, bne_self_eq_false, Int.reduceBEq, Int.reduceBNe, Bool.or_false, Bool.false_or, Bool.not_false, Bool.not_true, mbits, Int.reduceToNat, Int.reducePow, Int.toNat_natCast]
        refine WO.callM (fun x : Option Addr × Nat => .tuple #[.slice x.1 (l ++ (framesF b).1).length x.2, .int .i64 ((allF l).length + (framesF b).2 : Nat), .int .i64 0]) (fun lo x s9 => rLists.rd (fun b => lo ≤ b) s9 [.slice x.1 (l ++ (framesF b).1).length x.2] (l ++ (framesF b).1)) (ds := []) rfl rfl rfl rfl co18 (fun ρ w1 hb => by have hrd : rBytes.rd (fun _ => True) w1 [.slice (some ⟨ρ 0, 0, none⟩) 0 0] (allF l ++ b) := (by rw [hln, hbn]; exact ⟨_, _, _, rfl, rfl, Nat.le_refl _, by rw [maxLen_eq]; omega, .inl rfl⟩); have h9 := Frames_spec hrd (fun x hx => (List.mem_append.1 hx).elim (allF_isB hok x) (hb8 x)); rw [hT] at h9; exact h9) fun x lo hr4s hr4 => ?_
        obtain ⟨hr4p, hr4c⟩ := x
        simp only at hr4
        obtain ⟨_, _, he0g4, g4, g4b⟩ := Rp.slice_val hr4
        obtain ⟨_, _, rfl⟩ := (Value.slice.injEq _ _ _ _ _ _).mp he0g4
        have g4 : (l ++ (framesF b).1).length ≤ hr4c := g4
        clear he0g4
        have hapl : (l ++ (framesF b).1).length = l.length + (framesF b).1.length := List.length_append
        refine WO.go 7 (ds := []) rfl ?_
        simp only [sx, ty, Bool.false_eq_true, Int.reduceEq, Int.reduceLT, Nat.reduceAdd, Nat.reduceSub, Nat.reduceMul, Nat.reduceLT, Nat.reduceLeDiff, Nat.reduceEqDiff, List.reduceReplicate, reduceIte, beq_self_eq_true, bne_self_eq_false, Int.reduceBEq, Int.reduceBNe, Bool.or_false, Bool.false_or, Bool.not_false, Bool.not_true, mbits, Int.reduceToNat, Int.reducePow, Int.toNat_natCast]
        with_reducible refine WO.nil ?_
        refine hK9 _ ?_; clear hK9
        refine W.seqK fun K10 hK10 => W.region ?_
        refine WO.go 1 (ds := []) rfl ?_
        simp only [sx, ty, Bool.false_eq_true, Int.reduceEq, Int.reduceLT, Nat.reduceAdd, Nat.reduceSub, Nat.reduceMul, Nat.reduceLT, Nat.reduceLeDiff, Nat.reduceEqDiff, List.reduceReplicate, reduceIte, beq_self_eq_true, bne_self_eq_false, Int.reduceBEq, Int.reduceBNe, Bool.or_false, Bool.false_or, Bool.not_false, Bool.not_true, mbits, Int.reduceToNat, Int.reducePow, Int.toNat_natCast]
        refine WO.callM (fun x : Option Addr × Nat => .tuple #[.slice x.1 (framesF b).1.length x.2, .int .i64 ((framesF b).2 : Nat), .int .i64 0]) (fun lo x s9 => rLists.rd (fun b => lo ≤ b) s9 [.slice x.1 (framesF b).1.length x.2] (framesF b).1) (ds := []) rfl rfl rfl rfl co18 (fun ρ w1 hb => by have h9 := Frames_spec (Rp.now hl2 (hb.first (by simp))) hb8; rw [hT2] at h9; exact h9) fun x lo hr5s hr5 => ?_
        obtain ⟨hr5p, hr5c⟩ := x
        simp only at hr5
        refine WO.go 7 (ds := []) rfl ?_
        simp only [sx, ty, Bool.false_eq_true, Int.reduceEq, Int.reduceLT, Nat.reduceAdd, Nat.reduceSub, Nat.reduceMul, Nat.reduceLT, Nat.reduceLeDiff, Nat.reduceEqDiff, List.reduceReplicate, reduceIte, beq_self_eq_true, bne_self_eq_false, Int.reduceBEq, Int.reduceBNe, Bool.or_false, Bool.false_or, Bool.not_false, Bool.not_true, mbits, Int.reduceToNat, Int.reducePow, Int.toNat_natCast]
        with_reducible refine WO.nil ?_
        refine hK10 _ ?_; clear hK10
        refine W.seqK fun K11 hK11 => ?_
        refine W.join 72 (.val (.bool false)) [0, 5, 9, 12] (W.region ?_) ?_
        · skip
          refine WO.go 24 (ds := [some 49, some 50, some 51, some 52, some 53, some 54, some 55, some 56, some 57, some 58, some 59, some 60, some 61, some 62, some 63, some 64, some 65, some 66, some 67, some 68, some 69, some 70, some 71, some 72]) rfl ?_
          simp only [sx, ty, Bool.false_eq_true, Int.reduceEq, Int.reduceLT, Nat.reduceAdd, Nat.reduceSub, Nat.reduceMul, Nat.reduceLT, Nat.reduceLeDiff, Nat.reduceEqDiff, List.reduceReplicate, reduceIte, beq_self_eq_true, bne_self_eq_false, Int.reduceBEq, Int.reduceBNe, Bool.or_false, Bool.false_or, Bool.not_false, Bool.not_true, mbits, Int.reduceToNat, Int.reducePow, Int.toNat_natCast, hw1, hw2]
          with_reducible refine WO.nil ?_
          refine ⟨rfl, by simp [getE, bnd, keepE], ⟨_, rfl⟩, by simp [Own.bnd, bndL, bnd, boxO], by simp⟩
        · simp only [sx, ty, Bool.false_eq_true, Int.reduceEq, Int.reduceLT, Nat.reduceAdd, Nat.reduceSub, Nat.reduceMul, Nat.reduceLT, Nat.reduceLeDiff, Nat.reduceEqDiff, List.reduceReplicate, reduceIte, sxk, beq_self_eq_true, bne_self_eq_false, Int.reduceBEq, Int.reduceBNe, Bool.or_false, Bool.false_or, Bool.not_false, Bool.not_true, mbits, Int.reduceToNat, Int.reducePow, Int.toNat_natCast, hw1, hw2]
          refine W.cond rfl rfl (fun hc => ?_) (fun hc => ?_)
          · skip
            simp at hc
          · skip
            refine W.skip (hK11 _ ?_)
            refine W.join 4 (.val (.bool true)) [] (W.region ?_) ?_
            · skip
              refine WO.go 5 (ds := [some 73, some 74, some 75, some 76, some 77, some 78, some 79, some 80, some 81, some 82, some 83, some 84, some 85, some 86, some 87, some 88, some 89, some 4]) rfl ?_
              simp only [sx, ty, Bool.false_eq_true, Int.reduceEq, Int.reduceLT, Nat.reduceAdd, Nat.reduceSub, Nat.reduceMul, Nat.reduceLT, Nat.reduceLeDiff, Nat.reduceEqDiff, List.reduceReplicate, reduceIte, beq_self_eq_true, bne_self_eq_false, Int.reduceBEq, Int.reduceBNe, Bool.or_false, Bool.false_or, Bool.not_false, Bool.not_true, mbits, Int.reduceToNat, Int.reducePow, Int.toNat_natCast, hw1, hw2]
              obtain ⟨p8, c8, he8, hl8⟩ := Rp.sub (l := 0) (h := l.length) hr4 (by omega) (by simp)
              rw [sub_eqL (m := l.length) (by omega), List.drop_zero, List.take_left] at he8 hl8
              refine WO.slc (ds := [some 73, some 74, some 75, some 76, some 77, some 78, some 79, some 80, some 81, some 82, some 83, some 84, some 85, some 86, some 87, some 88, some 89, some 4]) rfl rfl rfl rfl rfl el32 rfl rfl (by simp [loS]) (by simp [loS, hiS]) (by simp [hiS] <;> omega) ?_
              rw [show slcV 1 hr4p hr4c (loS none).toNat (hiS (l ++ (framesF b).1).length (some (IntKind.i64, (l.length : Int)))).toNat = .slice p8 l.length c8 from he8]
              refine WO.go 1 (ds := [some 73, some 74, some 75, some 76, some 77, some 78, some 79, some 80, some 81, some 82, some 83, some 84, some 85, some 86, some 87, some 88, some 89, some 4]) rfl ?_
              simp only [sx, ty, Bool.false_eq_true, Int.reduceEq, Int.reduceLT, Nat.reduceAdd, Nat.reduceSub, Nat.reduceMul, Nat.reduceLT, Nat.reduceLeDiff, Nat.reduceEqDiff, List.reduceReplicate, reduceIte, beq_self_eq_true, bne_self_eq_false, Int.reduceBEq, Int.reduceBNe, Bool.or_false, Bool.false_or, Bool.not_false, Bool.not_true, mbits, Int.reduceToNat, Int.reducePow, Int.toNat_natCast, hw1, hw2]
              refine WO.call (.bool true) (ds := [some 73, some 74, some 75, some 76, some 77, some 78, some 79, some 80, some 81, some 82, some 83, some 84, some 85, some 86, some 87, some 88, some 89, some 4]) rfl rfl rfl rfl co20 (fun ρ w1 hb => sameL_self (Rp.keep hl8 (hb.at (by simp))) (Rp.now hl (hb.first (by simp)))) ?_
              refine WO.go 5 (ds := [some 73, some 74, some 75, some 76, some 77, some 78, some 79, some 80, some 81, some 82, some 83, some 84, some 85, some 86, some 87, some 88, some 89, some 4]) rfl ?_
              simp only [sx, ty, Bool.false_eq_true, Int.reduceEq, Int.reduceLT, Nat.reduceAdd, Nat.reduceSub, Nat.reduceMul, Nat.reduceLT, Nat.reduceLeDiff, Nat.reduceEqDiff, List.reduceReplicate, reduceIte, beq_self_eq_true, bne_self_eq_false, Int.reduceBEq, Int.reduceBNe, Bool.or_false, Bool.false_or, Bool.not_false, Bool.not_true, mbits, Int.reduceToNat, Int.reducePow, Int.toNat_natCast, hw1, hw2]
              obtain ⟨p9, c9, he9, hl9⟩ := Rp.dropS (l := l.length) hr4 (by simp)
              rw [List.drop_left] at he9 hl9
              refine WO.slc (ds := [some 73, some 74, some 75, some 76, some 77, some 78, some 79, some 80, some 81, some 82, some 83, some 84, some 85, some 86, some 87, some 88, some 89, some 4]) rfl rfl rfl rfl rfl el32 rfl rfl (by simp [loS]) (by simp [loS, hiS] <;> omega) (by simp [hiS] <;> omega) ?_
              rw [show slcV 1 hr4p hr4c (loS (some (IntKind.i64, (l.length : Int)))).toNat (hiS (l ++ (framesF b).1).length none).toNat = .slice p9 (framesF b).1.length c9 from he9]
              refine WO.go 1 (ds := [some 73, some 74, some 75, some 76, some 77, some 78, some 79, some 80, some 81, some 82, some 83, some 84, some 85, some 86, some 87, some 88, some 89, some 4]) rfl ?_
              simp only [sx, ty, Bool.false_eq_true, Int.reduceEq, Int.reduceLT, Nat.reduceAdd, Nat.reduceSub, Nat.reduceMul, Nat.reduceLT, Nat.reduceLeDiff, Nat.reduceEqDiff, List.reduceReplicate, reduceIte, beq_self_eq_true, bne_self_eq_false, Int.reduceBEq, Int.reduceBNe, Bool.or_false, Bool.false_or, Bool.not_false, Bool.not_true, mbits, Int.reduceToNat, Int.reducePow, Int.toNat_natCast, hw1, hw2]
              refine WO.call (.bool true) (ds := [some 73, some 74, some 75, some 76, some 77, some 78, some 79, some 80, some 81, some 82, some 83, some 84, some 85, some 86, some 87, some 88, some 89, some 4]) rfl rfl rfl rfl co20 (fun ρ w1 hb => sameL_self (Rp.keep hl9 (hb.at (by simp))) (Rp.keep hr5 (hb.at (by simp)))) ?_
              refine WO.go 2 (ds := [some 73, some 74, some 75, some 76, some 77, some 78, some 79, some 80, some 81, some 82, some 83, some 84, some 85, some 86, some 87, some 88, some 89, some 4]) rfl ?_
              simp only [sx, ty, Bool.false_eq_true, Int.reduceEq, Int.reduceLT, Nat.reduceAdd, Nat.reduceSub, Nat.reduceMul, Nat.reduceLT, Nat.reduceLeDiff, Nat.reduceEqDiff, List.reduceReplicate, reduceIte, beq_self_eq_true, bne_self_eq_false, Int.reduceBEq, Int.reduceBNe, Bool.or_false, Bool.false_or, Bool.not_false, Bool.not_true, mbits, Int.reduceToNat, Int.reducePow, Int.toNat_natCast, hw1, hw2]
              with_reducible refine WO.nil ?_
              refine ⟨rfl, by simp [getE, bnd, keepE], ⟨_, rfl⟩, by simp [Own.bnd, bndL, bnd, boxO], by simp⟩
            · simp only [sx, ty, Bool.false_eq_true, Int.reduceEq, Int.reduceLT, Nat.reduceAdd, Nat.reduceSub, Nat.reduceMul, Nat.reduceLT, Nat.reduceLeDiff, Nat.reduceEqDiff, List.reduceReplicate, reduceIte, sxk, beq_self_eq_true, bne_self_eq_false, Int.reduceBEq, Int.reduceBNe, Bool.or_false, Bool.false_or, Bool.not_false, Bool.not_true, mbits, Int.reduceToNat, Int.reducePow, Int.toNat_natCast, hw1, hw2]
              refine W.ret ⟨by simp, _, rfl, fun ρ w1 hb => ?_⟩
              rfl

theorem law4 {S S2 : Nat → Prop} {w : World} {v u : Value} {l : List (List Int)} {b : List Int} (hl : rLists.rd S w [v] l) (hl2 : rBytes.rd S2 w [u] b) (hI : ∀ x, x ∈ l → ∀ n, n ∈ x → isI n) (hb8 : ∀ x, x ∈ b → isB x) : Gives Try.prog 6 #[v, u] w fun r _ => r = .bool true := by
  rcases Nat.eq_zero_or_pos (allF l).length with h1 | h1 <;> rcases Nat.eq_zero_or_pos b.length with h2 | h2
  · exact law4d hl hl2 hI hb8 h1 h2
  · exact law4c hl hl2 hI hb8 h1 h2
  · exact law4b hl hl2 hI hb8 h1 h2
  · exact law4a hl hl2 hI hb8 h1 h2
/-- function 8 -/
theorem law6 {S S2 : Nat → Prop} {w : World} {v u : Value} {l b : List Int} {less : Int} (hl : rInts.rd S w [v] l) (hl2 : rBytes.rd S2 w [u] b) (hI : ∀ x, x ∈ l → isI x) (hb8 : ∀ x, x ∈ b → isB x) (hless : 0 ≤ less ∧ less ≤ 65535) : Gives Try.prog 8 #[v, u, .int .u16 less] w fun r _ => r = .bool true := by
  obtain ⟨p, c, rfl, hc1, hc2⟩ := Rp.slice_val hl
  obtain ⟨p2, c2, rfl, hc3, hc4⟩ := Rp.slice_val hl2
  have hl : (Rp.slice rInt).rd (fun _ => True) w _ l := Rp.any hl
  have hl2 : (Rp.slice rByte).rd (fun _ => True) w _ b := Rp.any hl2
  refine gives_of [.val (.slice p l.length c), .val (.slice p2 b.length c2), .val (.int .u16 less)] 70 [.tmp 6] Try.func8 rfl rfl rfl (by simp) rfl rfl ?_
  refine W.pure (ds := []) rfl fun K1 hK1 => ?_
  simp only [sx, ty, Bool.false_eq_true, Int.reduceEq, Int.reduceLT, Nat.reduceAdd, Nat.reduceSub, Nat.reduceMul, Nat.reduceLT, Nat.reduceLeDiff, Nat.reduceEqDiff, List.reduceReplicate, reduceIte, beq_self_eq_true, bne_self_eq_false, Int.reduceBEq, Int.reduceBNe, Bool.or_false, Bool.false_or, Bool.not_false, Bool.not_true, mbits, Int.reduceToNat, Int.reducePow, Int.toNat_natCast]; with_reducible refine hK1 _ ?_; clear hK1
  refine W.seqK fun K2 hK2 => W.region ?_
  refine WO.call (.bool true) (ds := []) rfl rfl rfl rfl co9 (fun ρ w1 hb => head_spec w1) ?_
  refine WO.go 1 (ds := []) rfl ?_
  simp only [sx, ty, Bool.false_eq_true, Int.reduceEq, Int.reduceLT, Nat.reduceAdd, Nat.reduceSub, Nat.reduceMul, Nat.reduceLT, Nat.reduceLeDiff, Nat.reduceEqDiff, List.reduceReplicate, reduceIte, beq_self_eq_true, bne_self_eq_false, Int.reduceBEq, Int.reduceBNe, Bool.or_false, Bool.false_or, Bool.not_false, Bool.not_true, mbits, Int.reduceToNat, Int.reducePow, Int.toNat_natCast]
  with_reducible refine WO.nil ?_
  refine hK2 _ ?_; clear hK2
  refine W.seqK fun K3 hK3 => ?_
  refine W.join 27 (.val (.bool (decide (300 < l.length ∨ b.length = 0 ∨ 300 < b.length)))) [0, 1, 2, 7] (W.region ?_) ?_
  · skip
    refine WO.go 4 (ds := [some 15, some 16, some 17, some 18, some 19, some 20, some 21, some 22, some 23, some 24, some 25, some 26, some 27]) rfl ?_
    simp only [sx, ty, Bool.false_eq_true, Int.reduceEq, Int.reduceLT, Nat.reduceAdd, Nat.reduceSub, Nat.reduceMul, Nat.reduceLT, Nat.reduceLeDiff, Nat.reduceEqDiff, List.reduceReplicate, reduceIte, beq_self_eq_true, bne_self_eq_false, Int.reduceBEq, Int.reduceBNe, Bool.or_false, Bool.false_or, Bool.not_false, Bool.not_true, mbits, Int.reduceToNat, Int.reducePow, Int.toNat_natCast]
    refine WO.cases 18 _ rfl (fun hg18 => ?_) (fun hg18 => ?_)
    · skip
      refine WO.go 9 (ds := [some 15, some 16, some 17, some 18, some 19, some 20, some 21, some 22, some 23, some 24, some 25, some 26, some 27]) rfl ?_
      simp only [sx, ty, Bool.false_eq_true, Int.reduceEq, Int.reduceLT, Nat.reduceAdd, Nat.reduceSub, Nat.reduceMul, Nat.reduceLT, Nat.reduceLeDiff, Nat.reduceEqDiff, List.reduceReplicate, reduceIte, beq_self_eq_true, bne_self_eq_false, Int.reduceBEq, Int.reduceBNe, Bool.or_false, Bool.false_or, Bool.not_false, Bool.not_true, mbits, Int.reduceToNat, Int.reducePow, Int.toNat_natCast]
      with_reducible refine WO.nil ?_
      refine ⟨rfl, ?_, ⟨_, rfl⟩, by simp [Own.bnd, bndL, bnd, boxO], by simp⟩
      try rw [hg18]
      try rw [hg23]
      simp [getE, bnd, keepE]
      try simp at hg18
      try simp at hg23
      try simp [hg23]
      try (rw [Bool.eq_iff_iff]; simp; omega)
      try omega
      try simp
      try omega
    · skip
      refine WO.go 5 (ds := [some 15, some 16, some 17, some 18, some 19, some 20, some 21, some 22, some 23, some 24, some 25, some 26, some 27]) rfl ?_
      simp only [sx, ty, Bool.false_eq_true, Int.reduceEq, Int.reduceLT, Nat.reduceAdd, Nat.reduceSub, Nat.reduceMul, Nat.reduceLT, Nat.reduceLeDiff, Nat.reduceEqDiff, List.reduceReplicate, reduceIte, beq_self_eq_true, bne_self_eq_false, Int.reduceBEq, Int.reduceBNe, Bool.or_false, Bool.false_or, Bool.not_false, Bool.not_true, mbits, Int.reduceToNat, Int.reducePow, Int.toNat_natCast]
      refine WO.cases 23 _ rfl (fun hg23 => ?_) (fun hg23 => ?_)
      · skip
        refine WO.go 4 (ds := [some 15, some 16, some 17, some 18, some 19, some 20, some 21, some 22, some 23, some 24, some 25, some 26, some 27]) rfl ?_
        simp only [sx, ty, Bool.false_eq_true, Int.reduceEq, Int.reduceLT, Nat.reduceAdd, Nat.reduceSub, Nat.reduceMul, Nat.reduceLT, Nat.reduceLeDiff, Nat.reduceEqDiff, List.reduceReplicate, reduceIte, beq_self_eq_true, bne_self_eq_false, Int.reduceBEq, Int.reduceBNe, Bool.or_false, Bool.false_or, Bool.not_false, Bool.not_true, mbits, Int.reduceToNat, Int.reducePow, Int.toNat_natCast]
        with_reducible refine WO.nil ?_
        refine ⟨rfl, ?_, ⟨_, rfl⟩, by simp [Own.bnd, bndL, bnd, boxO], by simp⟩
        try rw [hg18]
        try rw [hg23]
        simp [getE, bnd, keepE]
        try simp at hg18
        try simp at hg23
        try simp [hg23]
        try (rw [Bool.eq_iff_iff]; simp; omega)
        try omega
        try simp
        try omega
      · skip
        refine WO.go 4 (ds := [some 15, some 16, some 17, some 18, some 19, some 20, some 21, some 22, some 23, some 24, some 25, some 26, some 27]) rfl ?_
        simp only [sx, ty, Bool.false_eq_true, Int.reduceEq, Int.reduceLT, Nat.reduceAdd, Nat.reduceSub, Nat.reduceMul, Nat.reduceLT, Nat.reduceLeDiff, Nat.reduceEqDiff, List.reduceReplicate, reduceIte, beq_self_eq_true, bne_self_eq_false, Int.reduceBEq, Int.reduceBNe, Bool.or_false, Bool.false_or, Bool.not_false, Bool.not_true, mbits, Int.reduceToNat, Int.reducePow, Int.toNat_natCast]
        with_reducible refine WO.nil ?_
        refine ⟨rfl, ?_, ⟨_, rfl⟩, by simp [Own.bnd, bndL, bnd, boxO], by simp⟩
        try rw [hg18]
        try rw [hg23]
        simp [getE, bnd, keepE]
        try simp at hg18
        try simp at hg23
        try simp [hg23]
        try (rw [Bool.eq_iff_iff]; simp; omega)
        try omega
        try simp
        try omega
  · simp only [sx, ty, Bool.false_eq_true, Int.reduceEq, Int.reduceLT, Nat.reduceAdd, Nat.reduceSub, Nat.reduceMul, Nat.reduceLT, Nat.reduceLeDiff, Nat.reduceEqDiff, List.reduceReplicate, reduceIte, sxk, beq_self_eq_true, bne_self_eq_false, Int.reduceBEq, Int.reduceBNe, Bool.or_false, Bool.false_or, Bool.not_false, Bool.not_true, mbits, Int.reduceToNat, Int.reducePow, Int.toNat_natCast]
    refine W.cond rfl rfl (fun hc => ?_) (fun hc => ?_)
    · skip
      have h0 : (300 < l.length ∨ b.length = 0 ∨ 300 < b.length) := by simpa using hc
      refine W.pure (ds := []) rfl fun K5 hK5 => ?_
      simp only [sx, ty, Bool.false_eq_true, Int.reduceEq, Int.reduceLT, Nat.reduceAdd, Nat.reduceSub, Nat.reduceMul, Nat.reduceLT, Nat.reduceLeDiff, Nat.reduceEqDiff, List.reduceReplicate, reduceIte, beq_self_eq_true, bne_self_eq_false, Int.reduceBEq, Int.reduceBNe, Bool.or_false, Bool.false_or, Bool.not_false, Bool.not_true, mbits, Int.reduceToNat, Int.reducePow, Int.toNat_natCast]; with_reducible refine hK5 _ ?_; clear hK5
      refine W.ret ⟨by simp, _, rfl, fun ρ w1 hb => ?_⟩
      rfl
    · skip
      have h0 : ¬ (300 < l.length ∨ b.length = 0 ∨ 300 < b.length) := by simpa using hc
      have hl40 : ¬ 4000 < l.length := by omega
      have hbne : b ≠ [] := fun h => h0 (.inr (.inl (by rw [h]; rfl)))
      have hg1 := GetF_none (getF_behind hI (by omega) hbne)
      have hp8 := putF_isB hI (show l.length ≤ 4000 by omega)
      have hpl := putF_len l
      obtain ⟨m, hm, hml⟩ := rem16 (n := (putF l).length) hless (by omega)
      have hdn : ¬ (((putF l).length : Int) = 0) := by omega
      have hg2 := GetF_none (getF_torn hI (by omega) hml)
      refine W.skip (hK3 _ ?_)
      refine W.seqK fun K6 hK6 => W.region ?_
      refine WO.go 1 (ds := []) rfl ?_
      simp only [sx, ty, Bool.false_eq_true, Int.reduceEq, Int.reduceLT, Nat.reduceAdd, Nat.reduceSub, Nat.reduceMul, Nat.reduceLT, Nat.reduceLeDiff, Nat.reduceEqDiff, List.reduceReplicate, reduceIte, beq_self_eq_true, bne_self_eq_false, Int.reduceBEq, Int.reduceBNe, Bool.or_false, Bool.false_or, Bool.not_false, Bool.not_true, mbits, Int.reduceToNat, Int.reducePow, Int.toNat_natCast]
      refine WO.callM (fun x : Option Addr × Nat => .tuple #[.slice x.1 (putF l).length x.2, .int .i64 0]) (fun lo x s9 => rBytes.rd (fun b => lo ≤ b) s9 [.slice x.1 (putF l).length x.2] (putF l)) (ds := []) rfl rfl rfl rfl co10 (fun ρ w1 hb => by have h9 := Put_spec (Rp.now hl (hb.first (by simp))) hI; rw [PutF_ok hl40] at h9; exact h9) fun x lo hr1s hr1 => ?_
      obtain ⟨hr1p, hr1c⟩ := x
      simp only at hr1
      obtain ⟨_, _, he0g1, g1, g1b⟩ := Rp.slice_val hr1
      obtain ⟨_, _, rfl⟩ := (Value.slice.injEq _ _ _ _ _ _).mp he0g1
      have g1 : (putF l).length ≤ hr1c := g1
      clear he0g1
      refine WO.go 5 (ds := []) rfl ?_
      simp only [sx, ty, Bool.false_eq_true, Int.reduceEq, Int.reduceLT, Nat.reduceAdd, Nat.reduceSub, Nat.reduceMul, Nat.reduceLT, Nat.reduceLeDiff, Nat.reduceEqDiff, List.reduceReplicate, reduceIte, beq_self_eq_true, bne_self_eq_false, Int.reduceBEq, Int.reduceBNe, Bool.or_false, Bool.false_or, Bool.not_false, Bool.not_true, mbits, Int.reduceToNat, Int.reducePow, Int.toNat_natCast]
      with_reducible refine WO.nil ?_
      refine hK6 _ ?_; clear hK6
      refine W.seqK fun K7 hK7 => ?_
      refine W.join 40 (.val (.bool false)) [1, 2, 7, 8] (W.region ?_) ?_
      · skip
        refine WO.go 7 (ds := [some 34, some 35, some 36, some 37, some 38, some 39, some 40]) rfl ?_
        simp only [sx, ty, Bool.false_eq_true, Int.reduceEq, Int.reduceLT, Nat.reduceAdd, Nat.reduceSub, Nat.reduceMul, Nat.reduceLT, Nat.reduceLeDiff, Nat.reduceEqDiff, List.reduceReplicate, reduceIte, beq_self_eq_true, bne_self_eq_false, Int.reduceBEq, Int.reduceBNe, Bool.or_false, Bool.false_or, Bool.not_false, Bool.not_true, mbits, Int.reduceToNat, Int.reducePow, Int.toNat_natCast]
        with_reducible refine WO.nil ?_
        refine ⟨rfl, ?_, ⟨_, rfl⟩, by simp [Own.bnd, bndL, bnd, boxO], by simp⟩
        try simp [getE, bnd, keepE]
        try exact fun h => by rw [h] at hpl; simp at hpl
      · simp only [sx, ty, Bool.false_eq_true, Int.reduceEq, Int.reduceLT, Nat.reduceAdd, Nat.reduceSub, Nat.reduceMul, Nat.reduceLT, Nat.reduceLeDiff, Nat.reduceEqDiff, List.reduceReplicate, reduceIte, sxk, beq_self_eq_true, bne_self_eq_false, Int.reduceBEq, Int.reduceBNe, Bool.or_false, Bool.false_or, Bool.not_false, Bool.not_true, mbits, Int.reduceToNat, Int.reducePow, Int.toNat_natCast]
        refine W.cond rfl rfl (fun hc => ?_) (fun hc => ?_)
        · skip
          simp at hc
        · skip
          refine W.skip (hK7 _ ?_)
          refine W.seqK fun K9 hK9 => W.region ?_
          refine WO.go 2 (ds := []) rfl ?_
          simp only [sx, ty, Bool.false_eq_true, Int.reduceEq, Int.reduceLT, Nat.reduceAdd, Nat.reduceSub, Nat.reduceMul, Nat.reduceLT, Nat.reduceLeDiff, Nat.reduceEqDiff, List.reduceReplicate, reduceIte, beq_self_eq_true, bne_self_eq_false, Int.reduceBEq, Int.reduceBNe, Bool.or_false, Bool.false_or, Bool.not_false, Bool.not_true, mbits, Int.reduceToNat, Int.reducePow, Int.toNat_natCast]
          obtain h9 | ⟨a1, olds1, ha1, hnl1, hSD1, hzD1, holD1, hatD1, hrdD1⟩ := Rp.slice_cells hr1
          · exact absurd (congrArg List.length h9) (by simp only [List.length_nil]; omega)
          have hE1 := bytes_cells (by rw [holD1]; exact Nat.mul_one _) hrdD1
          have hatE1 : At hr1s a1 ((putF l).map (Value.int .u8)) := by rw [← hE1]; exact hatD1
          clear hE1
          subst ha1
          refine WO.appendFull (n := 0) (m := (putF l).length) [] ((putF l).map (.int .u8)) (ds := []) rfl rfl rfl rfl ⟨_, rfl, fun ρ w1 hb => ⟨⟨ρ 0, 0, none⟩, rfl, fun j v hv => by simp at hv⟩⟩ rfl ek23 rfl (by omega) (fun ρ w1 hb => ⟨a1, hr1c, rfl, hatE1.now  hb (by simp) hSD1 hzD1⟩) (by simp) (by rw [maxLen_eq]; omega) (by omega) fun q1 cq1 => ?_
          simp only [Nat.zero_add, List.nil_append, St.pushO, List.cons_append]
          refine WO.go 1 (ds := []) rfl ?_
          simp only [sx, ty, Bool.false_eq_true, Int.reduceEq, Int.reduceLT, Nat.reduceAdd, Nat.reduceSub, Nat.reduceMul, Nat.reduceLT, Nat.reduceLeDiff, Nat.reduceEqDiff, List.reduceReplicate, reduceIte, beq_self_eq_true, bne_self_eq_false, Int.reduceBEq, Int.reduceBNe, Bool.or_false, Bool.false_or, Bool.not_false, Bool.not_true, mbits, Int.reduceToNat, Int.reducePow, Int.toNat_natCast]
          obtain h9 | ⟨a2, olds2, ha2, hnl2, hSD2, hzD2, holD2, hatD2, hrdD2⟩ := Rp.slice_cells hl2
          · exact absurd (congrArg List.length h9) (by simp only [List.length_nil]; omega)
          have hE2 := bytes_cells (by rw [holD2]; exact Nat.mul_one _) hrdD2
          have hatE2 : At w a2 (b.map (Value.int .u8)) := by rw [← hE2]; exact hatD2
          clear hE2
          subst ha2
          refine WO.append (k := 1) (n := (putF l).length) (m := b.length) (b.map (.int .u8)) (ds := []) rfl rfl rfl rfl rfl rfl rfl ek23 (fun ρ w1 hb => ⟨a2, c2, rfl, hatE2.now (S := fun _ => True) hb (by simp) hSD2 hzD2⟩) (by simp) (by simp [Value.oneCell']) (by rw [maxLen_eq]; omega) (by omega) fun p6 c6 => ?_
          simp only [setOwn, setN]
          simp only [sx, ty, Bool.false_eq_true, Int.reduceEq, Int.reduceLT, Nat.reduceAdd, Nat.reduceSub, Nat.reduceMul, Nat.reduceLT, Nat.reduceLeDiff, Nat.reduceEqDiff, List.reduceReplicate, reduceIte, beq_self_eq_true, bne_self_eq_false, Int.reduceBEq, Int.reduceBNe, Bool.or_false, Bool.false_or, Bool.not_false, Bool.not_true, mbits, Int.reduceToNat, Int.reducePow, Int.toNat_natCast]
          refine WO.callM (fun x : Option Addr × Nat => .tuple #[.slice x.1 0 x.2, .int .i64 7]) (fun lo x s9 => rInts.rd (fun b => lo ≤ b) s9 [.slice x.1 0 x.2] ([] : List Int)) (ds := []) rfl rfl rfl rfl co15 (fun ρ w1 hb => by have hrd : rBytes.rd (fun _ => True) w1 [.slice p6 ((putF l).length + b.length) c6] (putF l ++ b) := (by have e3 : nth [SX.Own.cells 5 [], (SX.Own.slice 5 1 (.slice p6 ((putF l).length + b.length) c6) ((putF l).length + b.length) ((putF l).map (.int .u8) ++ b.map (.int .u8)))] 1 = some (SX.Own.slice 5 1 (.slice p6 ((putF l).length + b.length) c6) ((putF l).length + b.length) ((putF l).map (.int .u8) ++ b.map (.int .u8))) := rfl; have e4 := own_slice (A := rByte) (k := 1) (S := fun _ => True) (T := 5) (p := p6) (c := c6) (xs := (putF l).map (.int .u8) ++ b.map (.int .u8)) (n := (putF l).length + b.length) (ys := putF l ++ b) hb; have e5 := e4 e3 (by simp) (fun _ _ => trivial) (by rw [← List.map_append]; exact bytes_read (putF l ++ b)); exact e5); have h9 := Get_spec hrd (fun x hx => (List.mem_append.1 hx).elim (hp8 x) (hb8 x)); rw [hg1] at h9; exact h9) fun x lo hr2s hr2 => ?_
          obtain ⟨hr2p, hr2c⟩ := x
          simp only at hr2
          refine WO.go 5 (ds := []) rfl ?_
          simp only [sx, ty, Bool.false_eq_true, Int.reduceEq, Int.reduceLT, Nat.reduceAdd, Nat.reduceSub, Nat.reduceMul, Nat.reduceLT, Nat.reduceLeDiff, Nat.reduceEqDiff, List.reduceReplicate, reduceIte, beq_self_eq_true, bne_self_eq_false, Int.reduceBEq, Int.reduceBNe, Bool.or_false, Bool.false_or, Bool.not_false, Bool.not_true, mbits, Int.reduceToNat, Int.reducePow, Int.toNat_natCast]
          with_reducible refine WO.nil ?_
          refine hK9 _ ?_; clear hK9
          refine W.seqK fun K10 hK10 => W.region ?_
          refine WO.go 5 (ds := []) rfl ?_
          simp only [sx, ty, Bool.false_eq_true, Int.reduceEq, Int.reduceLT, Nat.reduceAdd, Nat.reduceSub, Nat.reduceMul, Nat.reduceLT, Nat.reduceLeDiff, Nat.reduceEqDiff, List.reduceReplicate, reduceIte, beq_self_eq_true, bne_self_eq_false, Int.reduceBEq, Int.reduceBNe, Bool.or_false, Bool.false_or, Bool.not_false, Bool.not_true, mbits, Int.reduceToNat, Int.reducePow, Int.toNat_natCast]
          refine WO.go 1 (ds := []) rfl ?_
          simp only [sx, ty, Bool.false_eq_true, Int.reduceEq, Int.reduceLT, Nat.reduceAdd, Nat.reduceSub, Nat.reduceMul, Nat.reduceLT, Nat.reduceLeDiff, Nat.reduceEqDiff, List.reduceReplicate, reduceIte, beq_self_eq_true, bne_self_eq_false, Int.reduceBEq, Int.reduceBNe, Bool.or_false, Bool.false_or, Bool.not_false, Bool.not_true, mbits, Int.reduceToNat, Int.reducePow, Int.toNat_natCast, if_neg hdn, hm]
          obtain ⟨p7, c7, he7, hl7⟩ := Rp.sub (l := 0) (h := m) hr1 (by omega) (by omega)
          rw [sub_eqL (m := m) (by omega), List.drop_zero] at he7 hl7
          refine WO.slc (ds := []) rfl rfl rfl rfl rfl el23 rfl rfl (by simp [loS]) (by simp [loS, hiS]) (by simp [hiS] <;> omega) ?_
          rw [show slcV 1 (some a1) hr1c (loS none).toNat (hiS (putF l).length (some (IntKind.i64, (m : Int)))).toNat = .slice p7 ((putF l).take m).length c7 from he7]
          simp only [sx, ty, Bool.false_eq_true, Int.reduceEq, Int.reduceLT, Nat.reduceAdd, Nat.reduceSub, Nat.reduceMul, Nat.reduceLT, Nat.reduceLeDiff, Nat.reduceEqDiff, List.reduceReplicate, reduceIte, beq_self_eq_true, bne_self_eq_false, Int.reduceBEq, Int.reduceBNe, Bool.or_false, Bool.false_or, Bool.not_false, Bool.not_true, mbits, Int.reduceToNat, Int.reducePow, Int.toNat_natCast]
          refine WO.callM (fun x : Option Addr × Nat => .tuple #[.slice x.1 0 x.2, .int .i64 7]) (fun lo x s9 => rInts.rd (fun b => lo ≤ b) s9 [.slice x.1 0 x.2] ([] : List Int)) (ds := []) rfl rfl rfl rfl co15 (fun ρ w1 hb => by have h9 := Get_spec (Rp.keep hl7 (hb.at (by simp))) (fun x hx => hp8 x (List.mem_of_mem_take hx)); rw [hg2] at h9; exact h9) fun x lo hr3s hr3 => ?_
          obtain ⟨hr3p, hr3c⟩ := x
          simp only at hr3
          refine WO.go 5 (ds := []) rfl ?_
          simp only [sx, ty, Bool.false_eq_true, Int.reduceEq, Int.reduceLT, Nat.reduceAdd, Nat.reduceSub, Nat.reduceMul, Nat.reduceLT, Nat.reduceLeDiff, Nat.reduceEqDiff, List.reduceReplicate, reduceIte, beq_self_eq_true, bne_self_eq_false, Int.reduceBEq, Int.reduceBNe, Bool.or_false, Bool.false_or, Bool.not_false, Bool.not_true, mbits, Int.reduceToNat, Int.reducePow, Int.toNat_natCast]
          with_reducible refine WO.nil ?_
          refine hK10 _ ?_; clear hK10
          refine W.join 6 (.val (.bool true)) [] (W.region ?_) ?_
          · skip
            refine WO.go 10 (ds := [some 61, some 62, some 63, some 64, some 65, some 66, some 67, some 68, some 69, some 6]) rfl ?_
            simp only [sx, ty, Bool.false_eq_true, Int.reduceEq, Int.reduceLT, Nat.reduceAdd, Nat.reduceSub, Nat.reduceMul, Nat.reduceLT, Nat.reduceLeDiff, Nat.reduceEqDiff, List.reduceReplicate, reduceIte, beq_self_eq_true, bne_self_eq_false, Int.reduceBEq, Int.reduceBNe, Bool.or_false, Bool.false_or, Bool.not_false, Bool.not_true, mbits, Int.reduceToNat, Int.reducePow, Int.toNat_natCast]
            with_reducible refine WO.nil ?_
            refine ⟨rfl, by simp [getE, bnd, keepE], ⟨_, rfl⟩, by simp [Own.bnd, bndL, bnd, boxO], by simp⟩
          · simp only [sx, ty, Bool.false_eq_true, Int.reduceEq, Int.reduceLT, Nat.reduceAdd, Nat.reduceSub, Nat.reduceMul, Nat.reduceLT, Nat.reduceLeDiff, Nat.reduceEqDiff, List.reduceReplicate, reduceIte, sxk, beq_self_eq_true, bne_self_eq_false, Int.reduceBEq, Int.reduceBNe, Bool.or_false, Bool.false_or, Bool.not_false, Bool.not_true, mbits, Int.reduceToNat, Int.reducePow, Int.toNat_natCast]
            refine W.ret ⟨by simp, _, rfl, fun ρ w1 hb => ?_⟩
            rfl
end Go.Proofs.Ytnbfdncmlbegmaa
