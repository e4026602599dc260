/-
  Keys: the signs of a bar: walks of the reference.
-/
import Derived.Test.YtpkbghnjfjnoiaaDoorK6
set_option linter.unusedVariables false
set_option linter.unusedSimpArgs false
set_option maxHeartbeats 1000000
namespace Go.Proofs.YtpkbghnjfjnoiaaDoor
open Go Go.SX Go.RowKit

theorem fgo_cond {l : List Pit} {s : List Int} {p : Pit} {y : Nat} (h : y < l.length) (h2 : y < s.length) : (((l[y]?.map pk = some (pk p)) ∧ s[y]?.getD 0 ≠ 0) ↔ ((l[y].1 == p.1) && ((l[y].2.2 == p.2.2) && (s[y] != 0))) = true) := by
  rw [getIdx l h, getIdx s h2]
  simp [pk, and_assoc]
theorem fgo_yes {l : List Pit} {s : List Int} {p : Pit} {y : Nat} (h : y < l.length) (h2 : y < s.length) (hc : ((l[y].1 == p.1) && ((l[y].2.2 == p.2.2) && (s[y] != 0))) = true) : fgo l s p (y + 1) = some (s[y] - 10) := by
  simp only [fgo]
  rw [if_pos ((fgo_cond h h2).2 hc), getIdx s h2]; rfl
theorem fgo_no {l : List Pit} {s : List Int} {p : Pit} {y : Nat} (h : y < l.length) (h2 : y < s.length) (hc : ((l[y].1 == p.1) && ((l[y].2.2 == p.2.2) && (s[y] != 0))) = false) : fgo l s p (y + 1) = fgo l s p y := by
  simp only [fgo]
  rw [if_neg (fun h' => by have := (fgo_cond h h2).1 h'; rw [hc] at this; cases this)]
theorem sg_bound {k : Int} {l : List Pit} (hv : l.all validP = true) : ∀ n, n ≤ l.length → ∀ (j : Nat) x, (sgRun k (l.take n)).2[j]? = some x → -100 ≤ x ∧ x ≤ 100
  | 0, _, j, x, h => by simp [sgRun_nil] at h
  | n + 1, hn, j, x, h => by
    have hvn := validP_iff.1 (List.all_eq_true.1 hv l[n] (List.getElem_mem (by omega)))
    have ih := sg_bound (k := k) hv n (by omega)
    rw [sgRun_snoc k l (by omega)] at h
    unfold sgStep at h
    have key : ∀ z, -100 ≤ z ∧ z ≤ 100 → ((sgRun k (l.take n)).2 ++ [z])[j]? = some x → -100 ≤ x ∧ x ≤ 100 := fun z hz h => by
      rw [List.getElem?_append] at h
      split at h
      · exact ih j x h
      · cases hj : j - (sgRun k (l.take n)).2.length with
        | zero => rw [hj] at h; simp at h; omega
        | succ q => rw [hj] at h; simp at h
    split at h
    · exact key 0 (by omega) h
    · exact key _ (by omega) h
theorem sg_out_yes {k : Int} {l : List Pit} {i : Nat} (h : i < l.length) (hc : stGet k (sgRun k (l.take i)).1 l[i] = l[i].2.1) : (sgRun k (l.take (i + 1))).2 = (sgRun k (l.take i)).2 ++ [0] := by
  rw [sgRun_snoc k l h]; unfold sgStep; rw [if_pos hc]
theorem sg_out_no {k : Int} {l : List Pit} {i : Nat} (h : i < l.length) (hc : ¬ stGet k (sgRun k (l.take i)).1 l[i] = l[i].2.1) : (sgRun k (l.take (i + 1))).2 = (sgRun k (l.take i)).2 ++ [10 + l[i].2.1] := by
  rw [sgRun_snoc k l h]; unfold sgStep; rw [if_neg hc]
theorem rd_out {k : Int} {z : List (Pit × Int)} {i : Nat} {q : Pit × Int} (hq : z[i]? = some q) : (rdRun k (z.take (i + 1))).2 = (rdRun k (z.take i)).2 ++ [(q.1.1, stGet k (rdMap (rdRun k (z.take i)).1 q) q.1, q.1.2.2)] := by
  obtain ⟨h', hqi⟩ := List.getElem?_eq_some_iff.1 hq
  rw [rdRun_snoc k z h', hqi]; rfl
theorem rd_bound {l : List Pit} {s : List Int} {i : Nat} (hi : i ≤ l.length) (hsl : s.length = l.length) (hno : ∀ j, j < i → ∀ q, (l.zip s)[j]? = some q → rdOk q = true) (j : Nat) (x : Int) (hj : j < i) (h : s[j]? = some x) : -100 ≤ x ∧ x ≤ 100 := by
  have hjl : j < l.length := by omega
  have hjs : j < s.length := by omega
  have h9 := hno j hj _ (zip_get hjl hjs)
  rw [getIdx s hjs] at h
  obtain rfl := Option.some.inj h
  simp only [rdOk, Bool.and_eq_true, Bool.or_eq_true, decide_eq_true_eq, within_iff] at h9
  omega
theorem rd_val_sign {k : Int} {m : PM} {q : Pit × Int} (h : ¬ q.2 = 0) : stGet k (rdMap m q) q.1 = q.2 - 10 := by
  unfold rdMap; rw [if_neg h, stGet_set, if_pos rfl]
theorem rd_val_none {k : Int} {l : List Pit} {s : List Int} (hl : s.length = l.length) {i : Nat} (h : i < l.length) (hv : within 0 6 l[i].1 = true) {q : Pit × Int} (hq : q.1 = l[i]) (h0 : q.2 = 0) : stGet k (rdMap (rdRun k ((l.zip s).take i)).1 q) q.1 = forceF k l s i l[i] := by
  unfold rdMap forceF stGet
  rw [if_pos h0, hq, rd_force k l s hl l[i] i (by omega), ralter_eq hv]
/-- function 41 -/
theorem force_spec {S S2 : Nat → Prop} {w : World} {v u : Value} {l : List Pit} {s : List Int} (hl : rPits.rd S w [v] l) (hl2 : rInts.rd S2 w [u] s) {k : Int} (hk : isKey k = true) {n : Nat} (hn : n < l.length) (hns : n ≤ s.length) (hsb : ∀ (j : Nat) x, j < n → s[j]? = some x → -100 ≤ x ∧ x ≤ 100) :
    Gives Tryd.prog 41 #[.int .i64 k, v, u, .int .i64 n] w fun r _ => r = .int .i64 (forceF k l s n l[n]) := by
  obtain ⟨p, c, rfl, hc1, hc2⟩ := Rp.slice_val hl
  obtain ⟨p2, c2, rfl, hc3, hc4⟩ := Rp.slice_val hl2
  have hl : (Rp.slice rPit).rd (fun _ => True) w _ l := Rp.any hl
  have hl2 : (Rp.slice rInt).rd (fun _ => True) w _ s := Rp.any hl2
  refine gives_of [.val (.int .i64 k), .val (.slice p l.length c), .val (.slice p2 s.length c2), .val (.int .i64 n)] 59 [.tmp 8] Tryd.func41 rfl rfl rfl (by simp) rfl rfl ?_
  refine W.pure (ds := []) rfl fun K1 hK1 => ?_
  simp only [sx, ty, Bool.false_eq_true, Int.reduceEq, Int.reduceLT, Nat.reduceAdd, Nat.reduceSub, Nat.reduceMul, Nat.reduceLT, Nat.reduceLeDiff, Nat.reduceEqDiff, List.reduceReplicate, reduceIte, beq_self_eq_true, bne_self_eq_false, Int.reduceBEq, Int.reduceBNe, Bool.or_false, Bool.false_or, Bool.not_false, Bool.not_true]; with_reducible refine hK1 _ ?_; clear hK1
  refine W.seqK fun K2 hK2 => ?_
  refine W.pure (ds := []) rfl fun K3 hK3 => ?_
  simp only [sx, ty, Bool.false_eq_true, Int.reduceEq, Int.reduceLT, Nat.reduceAdd, Nat.reduceSub, Nat.reduceMul, Nat.reduceLT, Nat.reduceLeDiff, Nat.reduceEqDiff, List.reduceReplicate, reduceIte, beq_self_eq_true, bne_self_eq_false, Int.reduceBEq, Int.reduceBNe, Bool.or_false, Bool.false_or, Bool.not_false, Bool.not_true]; with_reducible refine hK3 _ ?_; clear hK3
  refine W.block ?_
  refine W.loopK (X := Nat) [0, 1, 2, 3] (fun x => [(9, .val (.int .i64 ((x : Int) - 1)))]) (fun x => x ≤ n ∧ fgo l s l[n] x = fgo l s l[n] n) (fun x => x) n ?_ ?_ ?_
  · exact ⟨rfl, by simp [getE, bnd, keepE, wrap_id (x := (n : Int) - 1) (by omega) (by omega)], ⟨[], by simp⟩, by simp [Own.bnd, bndL, bnd, boxO], by simp⟩
  · skip
    exact ⟨Nat.le_refl _, rfl⟩
  · rintro x ⟨hx, hf⟩
    simp only [sx, ty, Bool.false_eq_true, Int.reduceEq, Int.reduceLT, Nat.reduceAdd, Nat.reduceSub, Nat.reduceMul, Nat.reduceLT, Nat.reduceLeDiff, Nat.reduceEqDiff, List.reduceReplicate, reduceIte, sxk, beq_self_eq_true, bne_self_eq_false, Int.reduceBEq, Int.reduceBNe, Bool.or_false, Bool.false_or, Bool.not_false, Bool.not_true]
    refine W.seqK fun K4 hK4 => ?_
    refine W.pure (ds := []) rfl fun K5 hK5 => ?_
    simp only [sx, ty, Bool.false_eq_true, Int.reduceEq, Int.reduceLT, Nat.reduceAdd, Nat.reduceSub, Nat.reduceMul, Nat.reduceLT, Nat.reduceLeDiff, Nat.reduceEqDiff, List.reduceReplicate, reduceIte, beq_self_eq_true, bne_self_eq_false, Int.reduceBEq, Int.reduceBNe, Bool.or_false, Bool.false_or, Bool.not_false, Bool.not_true]; with_reducible refine hK5 _ ?_; clear hK5
    refine W.cond rfl rfl (fun hc => ?_) (fun hc => ?_)
    · skip
      have hx0 : 1 ≤ x := by simp at hc; omega
      obtain ⟨y, rfl⟩ : ∃ y, x = y + 1 := ⟨x - 1, by omega⟩
      have hyl : y < l.length := by omega
      have hys : y < s.length := by omega
      simp only [show (((y + 1 : Nat) : Int) - 1) = (y : Int) by omega]
      refine W.skip (hK4 _ ?_)
      refine W.seqK fun K6 hK6 => ?_
      refine W.block ?_
      refine W.join 46 (.val (.bool ((l[y].1 == l[n].1) && ((l[y].2.2 == l[n].2.2) && (s[y] != 0))))) [0, 1, 2, 3, 9] (W.regionQ mixed (by kernel_rfl) ?_) ?_
      · skip
        refine WQ.go 2 (ds := [some 16, some 17, some 18, some 19, some 20, some 21, some 22, some 23, some 24, some 25, some 26, some 27, some 28, some 29, some 30, some 31, some 32, some 33, some 34, some 35, some 36, some 37, some 38, some 39, some 40, some 41, some 42, some 43, some 44, some 45, some 46]) rfl ?_
        simp only [sx, ty, Bool.false_eq_true, Int.reduceEq, Int.reduceLT, Nat.reduceAdd, Nat.reduceSub, Nat.reduceMul, Nat.reduceLT, Nat.reduceLeDiff, Nat.reduceEqDiff, List.reduceReplicate, reduceIte, sxq, Bool.false_eq_true, beq_self_eq_true, bne_self_eq_false, Int.reduceBEq, Int.reduceBNe, Bool.or_false, Bool.false_or, Bool.not_false, Bool.not_true]
        refine WQ.elemF (y := l[y]) hl (by simp [St.put]) (ds := [some 16, some 17, some 18, some 19, some 20, some 21, some 22, some 23, some 24, some 25, some 26, some 27, some 28, some 29, some 30, some 31, some 32, some 33, some 34, some 35, some 36, some 37, some 38, some 39, some 40, some 41, some 42, some 43, some 44, some 45, some 46]) rfl rfl rfl (by simp [St.put]) (fun _ => rfl) rfl (by simp [St.put]) (fun _ _ => rfl) rfl rfl rfl rfl rfl rfl el24 fo46_0 agg3 sz3 (by decide) (.inr rfl) (by omega) (getIdx l hyl) fun p q ces hces => ?_
        obtain rfl := rPit_open hces
        clear hces
        refine WQ.go 2 (ds := [some 16, some 17, some 18, some 19, some 20, some 21, some 22, some 23, some 24, some 25, some 26, some 27, some 28, some 29, some 30, some 31, some 32, some 33, some 34, some 35, some 36, some 37, some 38, some 39, some 40, some 41, some 42, some 43, some 44, some 45, some 46]) rfl ?_
        simp only [sx, ty, Bool.false_eq_true, Int.reduceEq, Int.reduceLT, Nat.reduceAdd, Nat.reduceSub, Nat.reduceMul, Nat.reduceLT, Nat.reduceLeDiff, Nat.reduceEqDiff, List.reduceReplicate, reduceIte, sxq, Bool.false_eq_true, beq_self_eq_true, bne_self_eq_false, Int.reduceBEq, Int.reduceBNe, Bool.or_false, Bool.false_or, Bool.not_false, Bool.not_true]
        refine WQ.elemF (y := l[n]) hl (by simp [St.put]) (ds := [some 16, some 17, some 18, some 19, some 20, some 21, some 22, some 23, some 24, some 25, some 26, some 27, some 28, some 29, some 30, some 31, some 32, some 33, some 34, some 35, some 36, some 37, some 38, some 39, some 40, some 41, some 42, some 43, some 44, some 45, some 46]) rfl rfl rfl (by simp [St.put]) (fun _ => rfl) rfl (by simp [St.put]) (fun _ _ => rfl) rfl rfl rfl rfl rfl rfl el24 fo46_0 agg3 sz3 (by decide) (.inr rfl) (by omega) (getIdx l hn) fun p q ces hces => ?_
        obtain rfl := rPit_open hces
        clear hces
        refine WQ.go 2 (ds := [some 16, some 17, some 18, some 19, some 20, some 21, some 22, some 23, some 24, some 25, some 26, some 27, some 28, some 29, some 30, some 31, some 32, some 33, some 34, some 35, some 36, some 37, some 38, some 39, some 40, some 41, some 42, some 43, some 44, some 45, some 46]) rfl ?_
        simp only [sx, ty, Bool.false_eq_true, Int.reduceEq, Int.reduceLT, Nat.reduceAdd, Nat.reduceSub, Nat.reduceMul, Nat.reduceLT, Nat.reduceLeDiff, Nat.reduceEqDiff, List.reduceReplicate, reduceIte, sxq, Bool.false_eq_true, beq_self_eq_true, bne_self_eq_false, Int.reduceBEq, Int.reduceBNe, Bool.or_false, Bool.false_or, Bool.not_false, Bool.not_true]
        refine WQ.cases 27 _ rfl (fun hg27 => ?_) (fun hg27 => ?_)
        · skip
          refine WQ.go 2 (ds := [some 16, some 17, some 18, some 19, some 20, some 21, some 22, some 23, some 24, some 25, some 26, some 27, some 28, some 29, some 30, some 31, some 32, some 33, some 34, some 35, some 36, some 37, some 38, some 39, some 40, some 41, some 42, some 43, some 44, some 45, some 46]) rfl ?_
          simp only [sx, ty, Bool.false_eq_true, Int.reduceEq, Int.reduceLT, Nat.reduceAdd, Nat.reduceSub, Nat.reduceMul, Nat.reduceLT, Nat.reduceLeDiff, Nat.reduceEqDiff, List.reduceReplicate, reduceIte, sxq, Bool.false_eq_true, beq_self_eq_true, bne_self_eq_false, Int.reduceBEq, Int.reduceBNe, Bool.or_false, Bool.false_or, Bool.not_false, Bool.not_true]
          refine WQ.elemF (y := l[y]) hl (by simp [St.put]) (ds := [some 16, some 17, some 18, some 19, some 20, some 21, some 22, some 23, some 24, some 25, some 26, some 27, some 28, some 29, some 30, some 31, some 32, some 33, some 34, some 35, some 36, some 37, some 38, some 39, some 40, some 41, some 42, some 43, some 44, some 45, some 46]) rfl rfl rfl (by simp [St.put]) (fun _ => rfl) rfl (by simp [St.put]) (fun _ _ => rfl) rfl rfl rfl rfl rfl rfl el24 fo46_2 agg3 sz3 (by decide) (.inr rfl) (by omega) (getIdx l hyl) fun p q ces hces => ?_
          obtain rfl := rPit_open hces
          clear hces
          refine WQ.go 2 (ds := [some 16, some 17, some 18, some 19, some 20, some 21, some 22, some 23, some 24, some 25, some 26, some 27, some 28, some 29, some 30, some 31, some 32, some 33, some 34, some 35, some 36, some 37, some 38, some 39, some 40, some 41, some 42, some 43, some 44, some 45, some 46]) rfl ?_
          simp only [sx, ty, Bool.false_eq_true, Int.reduceEq, Int.reduceLT, Nat.reduceAdd, Nat.reduceSub, Nat.reduceMul, Nat.reduceLT, Nat.reduceLeDiff, Nat.reduceEqDiff, List.reduceReplicate, reduceIte, sxq, Bool.false_eq_true, beq_self_eq_true, bne_self_eq_false, Int.reduceBEq, Int.reduceBNe, Bool.or_false, Bool.false_or, Bool.not_false, Bool.not_true]
          refine WQ.elemF (y := l[n]) hl (by simp [St.put]) (ds := [some 16, some 17, some 18, some 19, some 20, some 21, some 22, some 23, some 24, some 25, some 26, some 27, some 28, some 29, some 30, some 31, some 32, some 33, some 34, some 35, some 36, some 37, some 38, some 39, some 40, some 41, some 42, some 43, some 44, some 45, some 46]) rfl rfl rfl (by simp [St.put]) (fun _ => rfl) rfl (by simp [St.put]) (fun _ _ => rfl) rfl rfl rfl rfl rfl rfl el24 fo46_2 agg3 sz3 (by decide) (.inr rfl) (by omega) (getIdx l hn) fun p q ces hces => ?_
          obtain rfl := rPit_open hces
          clear hces
          refine WQ.go 3 (ds := [some 16, some 17, some 18, some 19, some 20, some 21, some 22, some 23, some 24, some 25, some 26, some 27, some 28, some 29, some 30, some 31, some 32, some 33, some 34, some 35, some 36, some 37, some 38, some 39, some 40, some 41, some 42, some 43, some 44, some 45, some 46]) rfl ?_
          simp only [sx, ty, Bool.false_eq_true, Int.reduceEq, Int.reduceLT, Nat.reduceAdd, Nat.reduceSub, Nat.reduceMul, Nat.reduceLT, Nat.reduceLeDiff, Nat.reduceEqDiff, List.reduceReplicate, reduceIte, sxq, Bool.false_eq_true, beq_self_eq_true, bne_self_eq_false, Int.reduceBEq, Int.reduceBNe, Bool.or_false, Bool.false_or, Bool.not_false, Bool.not_true]
          refine WQ.cases 40 _ rfl (fun hg40 => ?_) (fun hg40 => ?_)
          · skip
            refine WQ.go 2 (ds := [some 16, some 17, some 18, some 19, some 20, some 21, some 22, some 23, some 24, some 25, some 26, some 27, some 28, some 29, some 30, some 31, some 32, some 33, some 34, some 35, some 36, some 37, some 38, some 39, some 40, some 41, some 42, some 43, some 44, some 45, some 46]) rfl ?_
            simp only [sx, ty, Bool.false_eq_true, Int.reduceEq, Int.reduceLT, Nat.reduceAdd, Nat.reduceSub, Nat.reduceMul, Nat.reduceLT, Nat.reduceLeDiff, Nat.reduceEqDiff, List.reduceReplicate, reduceIte, sxq, Bool.false_eq_true, beq_self_eq_true, bne_self_eq_false, Int.reduceBEq, Int.reduceBNe, Bool.or_false, Bool.false_or, Bool.not_false, Bool.not_true]
            refine WQ.elem (y := s[y]) hl2 (by simp [St.put]) (ds := [some 16, some 17, some 18, some 19, some 20, some 21, some 22, some 23, some 24, some 25, some 26, some 27, some 28, some 29, some 30, some 31, some 32, some 33, some 34, some 35, some 36, some 37, some 38, some 39, some 40, some 41, some 42, some 43, some 44, some 45, some 46]) rfl rfl rfl (by simp [St.put]) (fun _ => rfl) rfl rfl rfl rfl rfl el25 agg3 sz3 (.inr rfl) (by omega) (getIdx s hys) fun p ces hces => ?_
            obtain rfl := rInt_open hces
            clear hces
            refine WQ.go 2 (ds := [some 16, some 17, some 18, some 19, some 20, some 21, some 22, some 23, some 24, some 25, some 26, some 27, some 28, some 29, some 30, some 31, some 32, some 33, some 34, some 35, some 36, some 37, some 38, some 39, some 40, some 41, some 42, some 43, some 44, some 45, some 46]) rfl ?_
            simp only [sx, ty, Bool.false_eq_true, Int.reduceEq, Int.reduceLT, Nat.reduceAdd, Nat.reduceSub, Nat.reduceMul, Nat.reduceLT, Nat.reduceLeDiff, Nat.reduceEqDiff, List.reduceReplicate, reduceIte, sxq, Bool.false_eq_true, beq_self_eq_true, bne_self_eq_false, Int.reduceBEq, Int.reduceBNe, Bool.or_false, Bool.false_or, Bool.not_false, Bool.not_true]
            with_reducible refine WQ.nil ?_
            refine ⟨rfl, ?_, ⟨_, rfl⟩, by simp [Own.bnd, bndL, bnd, boxO], by simp⟩
            try rw [hg27]
            try rw [hg40]
            simp [getE, bnd, keepE]
            try simp_all
          · skip
            refine WQ.go 6 (ds := [some 16, some 17, some 18, some 19, some 20, some 21, some 22, some 23, some 24, some 25, some 26, some 27, some 28, some 29, some 30, some 31, some 32, some 33, some 34, some 35, some 36, some 37, some 38, some 39, some 40, some 41, some 42, some 43, some 44, some 45, some 46]) rfl ?_
            simp only [sx, ty, Bool.false_eq_true, Int.reduceEq, Int.reduceLT, Nat.reduceAdd, Nat.reduceSub, Nat.reduceMul, Nat.reduceLT, Nat.reduceLeDiff, Nat.reduceEqDiff, List.reduceReplicate, reduceIte, sxq, Bool.false_eq_true, beq_self_eq_true, bne_self_eq_false, Int.reduceBEq, Int.reduceBNe, Bool.or_false, Bool.false_or, Bool.not_false, Bool.not_true]
            with_reducible refine WQ.nil ?_
            refine ⟨rfl, ?_, ⟨_, rfl⟩, by simp [Own.bnd, bndL, bnd, boxO], by simp⟩
            try rw [hg27]
            try rw [hg40]
            simp [getE, bnd, keepE]
            try simp_all
        · skip
          refine WQ.go 19 (ds := [some 16, some 17, some 18, some 19, some 20, some 21, some 22, some 23, some 24, some 25, some 26, some 27, some 28, some 29, some 30, some 31, some 32, some 33, some 34, some 35, some 36, some 37, some 38, some 39, some 40, some 41, some 42, some 43, some 44, some 45, some 46]) rfl ?_
          simp only [sx, ty, Bool.false_eq_true, Int.reduceEq, Int.reduceLT, Nat.reduceAdd, Nat.reduceSub, Nat.reduceMul, Nat.reduceLT, Nat.reduceLeDiff, Nat.reduceEqDiff, List.reduceReplicate, reduceIte, sxq, Bool.false_eq_true, beq_self_eq_true, bne_self_eq_false, Int.reduceBEq, Int.reduceBNe, Bool.or_false, Bool.false_or, Bool.not_false, Bool.not_true]
          with_reducible refine WQ.nil ?_
          refine ⟨rfl, ?_, ⟨_, rfl⟩, by simp [Own.bnd, bndL, bnd, boxO], by simp⟩
          try rw [hg27]
          try rw [hg40]
          simp [getE, bnd, keepE]
          try simp_all
      · simp only [sx, ty, Bool.false_eq_true, Int.reduceEq, Int.reduceLT, Nat.reduceAdd, Nat.reduceSub, Nat.reduceMul, Nat.reduceLT, Nat.reduceLeDiff, Nat.reduceEqDiff, List.reduceReplicate, reduceIte, sxk, beq_self_eq_true, bne_self_eq_false, Int.reduceBEq, Int.reduceBNe, Bool.or_false, Bool.false_or, Bool.not_false, Bool.not_true]
        refine W.cond rfl rfl (fun hc => ?_) (fun hc => ?_)
        · skip
          refine W.seqK fun K8 hK8 => W.region ?_
          refine WO.go 2 (ds := []) rfl ?_
          simp only [sx, ty, Bool.false_eq_true, Int.reduceEq, Int.reduceLT, Nat.reduceAdd, Nat.reduceSub, Nat.reduceMul, Nat.reduceLT, Nat.reduceLeDiff, Nat.reduceEqDiff, List.reduceReplicate, reduceIte, beq_self_eq_true, bne_self_eq_false, Int.reduceBEq, Int.reduceBNe, Bool.or_false, Bool.false_or, Bool.not_false, Bool.not_true]
          refine WO.elem (y := s[y]) hl2 (by simp [St.put]) (ds := []) rfl rfl rfl (by simp [St.put]) (fun _ => rfl) rfl rfl rfl rfl rfl el25 agg3 sz3 (.inr rfl) (by omega) (getIdx s hys) fun p ces hces => ?_
          obtain rfl := rInt_open hces
          clear hces
          refine WO.go 2 (ds := []) rfl ?_
          simp only [sx, ty, Bool.false_eq_true, Int.reduceEq, Int.reduceLT, Nat.reduceAdd, Nat.reduceSub, Nat.reduceMul, Nat.reduceLT, Nat.reduceLeDiff, Nat.reduceEqDiff, List.reduceReplicate, reduceIte, beq_self_eq_true, bne_self_eq_false, Int.reduceBEq, Int.reduceBNe, Bool.or_false, Bool.false_or, Bool.not_false, Bool.not_true]
          with_reducible refine WO.nil ?_
          refine hK8 _ ?_; clear hK8
          refine W.ret ⟨by simp, _, rfl, fun ρ w1 hb => ?_⟩
          have hb9 := hsb y s[y] (by omega) (getIdx s hys)
          simp only [den]
          rw [wrap_id (x := s[y] - 10) (by omega) (by omega)]
          unfold forceF
          rw [← hf, fgo_yes hyl hys hc]; rfl
        · skip
          refine W.skip (hK6 _ ?_)
          refine W.region ?_
          refine WO.go 3 (ds := []) rfl ?_
          simp only [sx, ty, Bool.false_eq_true, Int.reduceEq, Int.reduceLT, Nat.reduceAdd, Nat.reduceSub, Nat.reduceMul, Nat.reduceLT, Nat.reduceLeDiff, Nat.reduceEqDiff, List.reduceReplicate, reduceIte, beq_self_eq_true, bne_self_eq_false, Int.reduceBEq, Int.reduceBNe, Bool.or_false, Bool.false_or, Bool.not_false, Bool.not_true]
          with_reducible refine WO.nil ?_
          refine ⟨y, ?_, by first | omega | (simp; omega), rfl, by simp [getE, bnd, keepE, wrap_id (x := (y : Int) - 1) (by omega) (by omega)], ⟨_, rfl⟩, by simp [Own.bnd, bndL, bnd, boxO], by simp⟩
          exact ⟨by omega, by rw [← hf, fgo_no hyl hys hc]⟩
    · skip
      have hx0 : x = 0 := by simp at hc; omega
      subst hx0
      have hf0 : fgo l s l[n] n = none := hf.symm
      refine W.exit (hK2 _ ?_)
      refine W.seqK fun K9 hK9 => W.region ?_
      refine WO.go 3 (ds := []) rfl ?_
      simp only [sx, ty, Bool.false_eq_true, Int.reduceEq, Int.reduceLT, Nat.reduceAdd, Nat.reduceSub, Nat.reduceMul, Nat.reduceLT, Nat.reduceLeDiff, Nat.reduceEqDiff, List.reduceReplicate, reduceIte, beq_self_eq_true, bne_self_eq_false, Int.reduceBEq, Int.reduceBNe, Bool.or_false, Bool.false_or, Bool.not_false, Bool.not_true]
      refine WO.elemF (y := l[n]) hl (by simp [St.put]) (ds := []) rfl rfl rfl (by simp [St.put]) (fun _ => rfl) rfl (by simp [St.put]) (fun _ _ => rfl) rfl rfl rfl rfl rfl rfl el24 fo46_0 agg3 sz3 (by decide) (.inr rfl) (by omega) (getIdx l hn) fun p q ces hces => ?_
      obtain rfl := rPit_open hces
      clear hces
      simp only [sx, ty, Bool.false_eq_true, Int.reduceEq, Int.reduceLT, Nat.reduceAdd, Nat.reduceSub, Nat.reduceMul, Nat.reduceLT, Nat.reduceLeDiff, Nat.reduceEqDiff, List.reduceReplicate, reduceIte, beq_self_eq_true, bne_self_eq_false, Int.reduceBEq, Int.reduceBNe, Bool.or_false, Bool.false_or, Bool.not_false, Bool.not_true]
      refine WO.call (.int .i64 (ralterF k l[n].1)) (ds := []) rfl rfl rfl rfl co31 (fun ρ w1 hb => ralter_spec w1 _ _ hk) ?_
      refine WO.go 1 (ds := []) rfl ?_
      simp only [sx, ty, Bool.false_eq_true, Int.reduceEq, Int.reduceLT, Nat.reduceAdd, Nat.reduceSub, Nat.reduceMul, Nat.reduceLT, Nat.reduceLeDiff, Nat.reduceEqDiff, List.reduceReplicate, reduceIte, beq_self_eq_true, bne_self_eq_false, Int.reduceBEq, Int.reduceBNe, Bool.or_false, Bool.false_or, Bool.not_false, Bool.not_true]
      with_reducible refine WO.nil ?_
      refine hK9 _ ?_; clear hK9
      refine W.ret ⟨by simp, _, rfl, fun ρ w1 hb => ?_⟩
      simp only [den]
      unfold forceF
      rw [hf0]; rfl
/-- function 17 -/
theorem rsigns_spec {S : Nat → Prop} {w : World} {v : Value} {l : List Pit} (hl : rPits.rd S w [v] l) (k : Int) : Gives Tryd.prog 17 #[.int .i64 k, v] w fun r w' =>
    ∃ p c, r = .tuple #[.slice p (signsF k l).1.length c, .int .i64 (signsF k l).2] ∧ rInts.rd (fun b => w.heap.size ≤ b) w' [.slice p (signsF k l).1.length c] (signsF k l).1 := by
  obtain ⟨p, c, rfl, hc1, hc2⟩ := Rp.slice_val hl
  have hl : (Rp.slice rPit).rd (fun _ => True) w _ l := Rp.any hl
  refine gives_of [.val (.int .i64 k), .val (.slice p l.length c)] 56 [.tmp 4, .tmp 5] Tryd.func17 rfl rfl rfl (by simp) rfl rfl ?_
  refine W.pure (ds := []) rfl fun K1 hK1 => ?_
  simp only [sx, ty, Bool.false_eq_true, Int.reduceEq, Int.reduceLT, Nat.reduceAdd, Nat.reduceSub, Nat.reduceMul, Nat.reduceLT, Nat.reduceLeDiff, Nat.reduceEqDiff, List.reduceReplicate, reduceIte, beq_self_eq_true, bne_self_eq_false, Int.reduceBEq, Int.reduceBNe, Bool.or_false, Bool.false_or, Bool.not_false, Bool.not_true]; with_reducible refine hK1 _ ?_; clear hK1
  refine W.seqK fun K2 hK2 => ?_
  refine W.pure (ds := []) rfl fun K3 hK3 => ?_
  simp only [sx, ty, Bool.false_eq_true, Int.reduceEq, Int.reduceLT, Nat.reduceAdd, Nat.reduceSub, Nat.reduceMul, Nat.reduceLT, Nat.reduceLeDiff, Nat.reduceEqDiff, List.reduceReplicate, reduceIte, beq_self_eq_true, bne_self_eq_false, Int.reduceBEq, Int.reduceBNe, Bool.or_false, Bool.false_or, Bool.not_false, Bool.not_true]; with_reducible refine hK3 _ ?_; clear hK3
  refine W.cond rfl rfl (fun hc => ?_) (fun hc => ?_)
  · skip
    have h0 : 1000 < l.length := by simp at hc; omega
    refine W.pure (ds := []) rfl fun K4 hK4 => ?_
    simp only [sx, ty, Bool.false_eq_true, Int.reduceEq, Int.reduceLT, Nat.reduceAdd, Nat.reduceSub, Nat.reduceMul, Nat.reduceLT, Nat.reduceLeDiff, Nat.reduceEqDiff, List.reduceReplicate, reduceIte, beq_self_eq_true, bne_self_eq_false, Int.reduceBEq, Int.reduceBNe, Bool.or_false, Bool.false_or, Bool.not_false, Bool.not_true]; with_reducible refine hK4 _ ?_; clear hK4
    refine W.ret ⟨by simp, _, rfl, fun ρ w1 hb => ?_⟩
    rw [signsF_long h0]
    exact ⟨none, 0, rfl, Rp.slice_nil (by omega)⟩
  · skip
    have h0 : ¬ 1000 < l.length := by simp at hc; omega
    refine W.skip (hK2 _ ?_)
    refine W.seqK fun K5 hK5 => ?_
    refine W.pure (ds := []) rfl fun K6 hK6 => ?_
    simp only [sx, ty, Bool.false_eq_true, Int.reduceEq, Int.reduceLT, Nat.reduceAdd, Nat.reduceSub, Nat.reduceMul, Nat.reduceLT, Nat.reduceLeDiff, Nat.reduceEqDiff, List.reduceReplicate, reduceIte, beq_self_eq_true, bne_self_eq_false, Int.reduceBEq, Int.reduceBNe, Bool.or_false, Bool.false_or, Bool.not_false, Bool.not_true]; with_reducible refine hK6 _ ?_; clear hK6
    refine W.block ?_
    refine W.loopK (X := Nat) [0, 1] (fun x => [(6, .val (.int .i64 x))]) (fun x => x ≤ l.length ∧ ∀ j, j < x → ∀ q, l[j]? = some q → validP q = true) (fun x => l.length - x) 0 ?_ ?_ ?_
    · exact ⟨rfl, by simp [getE, bnd, keepE], ⟨[], by simp⟩, by simp [Own.bnd, bndL, bnd, boxO], by simp⟩
    · skip
      exact ⟨Nat.zero_le _, fun j h => by omega⟩
    · rintro i ⟨hi, hno⟩
      simp only [sx, ty, Bool.false_eq_true, Int.reduceEq, Int.reduceLT, Nat.reduceAdd, Nat.reduceSub, Nat.reduceMul, Nat.reduceLT, Nat.reduceLeDiff, Nat.reduceEqDiff, List.reduceReplicate, reduceIte, sxk, beq_self_eq_true, bne_self_eq_false, Int.reduceBEq, Int.reduceBNe, Bool.or_false, Bool.false_or, Bool.not_false, Bool.not_true]
      refine W.seqK fun K7 hK7 => ?_
      refine W.pure (ds := []) rfl fun K8 hK8 => ?_
      simp only [sx, ty, Bool.false_eq_true, Int.reduceEq, Int.reduceLT, Nat.reduceAdd, Nat.reduceSub, Nat.reduceMul, Nat.reduceLT, Nat.reduceLeDiff, Nat.reduceEqDiff, List.reduceReplicate, reduceIte, beq_self_eq_true, bne_self_eq_false, Int.reduceBEq, Int.reduceBNe, Bool.or_false, Bool.false_or, Bool.not_false, Bool.not_true]; with_reducible refine hK8 _ ?_; clear hK8
      refine W.cond rfl rfl (fun hc => ?_) (fun hc => ?_)
      · skip
        have hlt : i < l.length := by simpa using hc
        refine W.skip (hK7 _ ?_)
        refine W.seqK fun K9 hK9 => ?_
        refine W.block ?_
        refine W.seqK fun K10 hK10 => W.region ?_
        refine WO.go 2 (ds := []) rfl ?_
        simp only [sx, ty, Bool.false_eq_true, Int.reduceEq, Int.reduceLT, Nat.reduceAdd, Nat.reduceSub, Nat.reduceMul, Nat.reduceLT, Nat.reduceLeDiff, Nat.reduceEqDiff, List.reduceReplicate, reduceIte, beq_self_eq_true, bne_self_eq_false, Int.reduceBEq, Int.reduceBNe, Bool.or_false, Bool.false_or, Bool.not_false, Bool.not_true]
        refine WO.elem (y := l[i]) hl (by simp [St.put]) (ds := []) rfl rfl rfl (by simp [St.put]) (fun _ => rfl) rfl rfl rfl rfl rfl el24 agg46 sz46 (.inl rfl) (by omega) (getIdx l hlt) fun p ces hces => ?_
        obtain rfl := rPit_open hces
        clear hces
        simp only [sx, ty, Bool.false_eq_true, Int.reduceEq, Int.reduceLT, Nat.reduceAdd, Nat.reduceSub, Nat.reduceMul, Nat.reduceLT, Nat.reduceLeDiff, Nat.reduceEqDiff, List.reduceReplicate, reduceIte, beq_self_eq_true, bne_self_eq_false, Int.reduceBEq, Int.reduceBNe, Bool.or_false, Bool.false_or, Bool.not_false, Bool.not_true]
        refine WO.call (.bool (validP l[i])) (ds := []) rfl rfl rfl rfl co40 (fun ρ w1 hb => rpitch_spec w1 l[i]) ?_
        refine WO.go 1 (ds := []) rfl ?_
        simp only [sx, ty, Bool.false_eq_true, Int.reduceEq, Int.reduceLT, Nat.reduceAdd, Nat.reduceSub, Nat.reduceMul, Nat.reduceLT, Nat.reduceLeDiff, Nat.reduceEqDiff, List.reduceReplicate, reduceIte, beq_self_eq_true, bne_self_eq_false, Int.reduceBEq, Int.reduceBNe, Bool.or_false, Bool.false_or, Bool.not_false, Bool.not_true]
        with_reducible refine WO.nil ?_
        refine hK10 _ ?_; clear hK10
        refine W.cond rfl rfl (fun hc => ?_) (fun hc => ?_)
        · skip
          have hbad : validP l[i] = false := by simpa using hc
          refine W.pure (ds := []) rfl fun K11 hK11 => ?_
          simp only [sx, ty, Bool.false_eq_true, Int.reduceEq, Int.reduceLT, Nat.reduceAdd, Nat.reduceSub, Nat.reduceMul, Nat.reduceLT, Nat.reduceLeDiff, Nat.reduceEqDiff, List.reduceReplicate, reduceIte, beq_self_eq_true, bne_self_eq_false, Int.reduceBEq, Int.reduceBNe, Bool.or_false, Bool.false_or, Bool.not_false, Bool.not_true]; with_reducible refine hK11 _ ?_; clear hK11
          refine W.ret ⟨by simp, _, rfl, fun ρ w1 hb => ?_⟩
          rw [signsF_bad h0 (by rw [all_false (getIdx l hlt) hbad, Bool.and_false])]
          exact ⟨none, 0, rfl, Rp.slice_nil (by omega)⟩
        · skip
          have hok : validP l[i] = true := by simpa using hc
          refine W.skip (hK9 _ ?_)
          refine W.region ?_
          refine WO.go 3 (ds := []) rfl ?_
          simp only [sx, ty, Bool.false_eq_true, Int.reduceEq, Int.reduceLT, Nat.reduceAdd, Nat.reduceSub, Nat.reduceMul, Nat.reduceLT, Nat.reduceLeDiff, Nat.reduceEqDiff, List.reduceReplicate, reduceIte, beq_self_eq_true, bne_self_eq_false, Int.reduceBEq, Int.reduceBNe, Bool.or_false, Bool.false_or, Bool.not_false, Bool.not_true]
          with_reducible refine WO.nil ?_
          refine ⟨i + 1, ?_, by first | omega | (simp; omega), rfl, by simp [getE, bnd, keepE, wrap_succ (show i + 1 ≤ 9223372036854775807 by omega)], ⟨_, rfl⟩, by simp [Own.bnd, bndL, bnd, boxO], by simp⟩
          refine ⟨hlt, fun j hj y hy => ?_⟩
          rcases Nat.lt_succ_iff_lt_or_eq.1 hj with h | rfl
          · exact hno j h y hy
          · rw [getIdx l hlt] at hy; obtain rfl := Option.some.inj hy; exact hok
      · skip
        obtain rfl : i = l.length := Nat.le_antisymm hi (by simpa using hc)
        have hv : l.all validP = true := all_idx (Nat.le_refl _) hno
        refine W.exit (hK5 _ ?_)
        refine W.seqK fun K12 hK12 => ?_
        refine W.seqK fun K13 hK13 => W.region ?_
        refine WO.go 1 (ds := []) rfl ?_
        simp only [sx, ty, Bool.false_eq_true, Int.reduceEq, Int.reduceLT, Nat.reduceAdd, Nat.reduceSub, Nat.reduceMul, Nat.reduceLT, Nat.reduceLeDiff, Nat.reduceEqDiff, List.reduceReplicate, reduceIte, beq_self_eq_true, bne_self_eq_false, Int.reduceBEq, Int.reduceBNe, Bool.or_false, Bool.false_or, Bool.not_false, Bool.not_true]
        refine WO.call (.bool (isKey k)) (ds := []) rfl rfl rfl rfl co22 (fun ρ w1 hb => rKey_spec w1 k) ?_
        refine WO.go 1 (ds := []) rfl ?_
        simp only [sx, ty, Bool.false_eq_true, Int.reduceEq, Int.reduceLT, Nat.reduceAdd, Nat.reduceSub, Nat.reduceMul, Nat.reduceLT, Nat.reduceLeDiff, Nat.reduceEqDiff, List.reduceReplicate, reduceIte, beq_self_eq_true, bne_self_eq_false, Int.reduceBEq, Int.reduceBNe, Bool.or_false, Bool.false_or, Bool.not_false, Bool.not_true]
        with_reducible refine WO.nil ?_
        refine hK13 _ ?_; clear hK13
        refine W.cond rfl rfl (fun hc => ?_) (fun hc => ?_)
        · skip
          have hk : isKey k = false := by simpa using hc
          refine W.pure (ds := []) rfl fun K14 hK14 => ?_
          simp only [sx, ty, Bool.false_eq_true, Int.reduceEq, Int.reduceLT, Nat.reduceAdd, Nat.reduceSub, Nat.reduceMul, Nat.reduceLT, Nat.reduceLeDiff, Nat.reduceEqDiff, List.reduceReplicate, reduceIte, beq_self_eq_true, bne_self_eq_false, Int.reduceBEq, Int.reduceBNe, Bool.or_false, Bool.false_or, Bool.not_false, Bool.not_true]; with_reducible refine hK14 _ ?_; clear hK14
          refine W.ret ⟨by simp, _, rfl, fun ρ w1 hb => ?_⟩
          rw [signsF_bad h0 (by rw [hk, Bool.false_and])]
          exact ⟨none, 0, rfl, Rp.slice_nil (by omega)⟩
        · skip
          have hk : isKey k = true := by simpa using hc
          refine W.skip (hK12 _ ?_)
          refine W.pure (ds := []) rfl fun K15 hK15 => ?_
          simp only [sx, ty, Bool.false_eq_true, Int.reduceEq, Int.reduceLT, Nat.reduceAdd, Nat.reduceSub, Nat.reduceMul, Nat.reduceLT, Nat.reduceLeDiff, Nat.reduceEqDiff, List.reduceReplicate, reduceIte, beq_self_eq_true, bne_self_eq_false, Int.reduceBEq, Int.reduceBNe, Bool.or_false, Bool.false_or, Bool.not_false, Bool.not_true]; with_reducible refine hK15 _ ?_; clear hK15
          refine W.seqK fun K16 hK16 => ?_
          refine W.pure (ds := []) rfl fun K17 hK17 => ?_
          simp only [sx, ty, Bool.false_eq_true, Int.reduceEq, Int.reduceLT, Nat.reduceAdd, Nat.reduceSub, Nat.reduceMul, Nat.reduceLT, Nat.reduceLeDiff, Nat.reduceEqDiff, List.reduceReplicate, reduceIte, beq_self_eq_true, bne_self_eq_false, Int.reduceBEq, Int.reduceBNe, Bool.or_false, Bool.false_or, Bool.not_false, Bool.not_true]; with_reducible refine hK17 _ ?_; clear hK17
          refine W.block ?_
          refine W.ownNil 3 1 ?_
          simp only [sx, ty, Bool.false_eq_true, Int.reduceEq, Int.reduceLT, Nat.reduceAdd, Nat.reduceSub, Nat.reduceMul, Nat.reduceLT, Nat.reduceLeDiff, Nat.reduceEqDiff, List.reduceReplicate, reduceIte]
          refine W.loopO (X := Nat × Option Addr × Nat) [0, 1] (fun x => [(7, .val (.slice x.2.1 x.1 x.2.2)), (8, .val (.int .i64 x.1))]) (fun x => [.slice 3 1 (.slice x.2.1 x.1 x.2.2) x.1 ((sgRun k (l.take x.1)).2.map (.int .i64))]) (fun x => [((fun _ => True), w)]) (fun x => x.1 ≤ l.length) (fun x => l.length - x.1) (0, none, 0) ?_ ?_ ?_
          · exact ⟨rfl, by simp [getE, bnd, keepE], ⟨[], by simp [sgRun_nil]⟩, by simp [Own.bnd, bndL, bnd, boxO], by simp⟩
          · skip
            exact Nat.zero_le _
          · rintro ⟨i, p3, c3⟩ hi
            simp only at hi
            simp only [sx, ty, Bool.false_eq_true, Int.reduceEq, Int.reduceLT, Nat.reduceAdd, Nat.reduceSub, Nat.reduceMul, Nat.reduceLT, Nat.reduceLeDiff, Nat.reduceEqDiff, List.reduceReplicate, reduceIte, sxk, beq_self_eq_true, bne_self_eq_false, Int.reduceBEq, Int.reduceBNe, Bool.or_false, Bool.false_or, Bool.not_false, Bool.not_true]
            refine W.seqK fun K18 hK18 => ?_
            refine W.pure (ds := []) rfl fun K19 hK19 => ?_
            simp only [sx, ty, Bool.false_eq_true, Int.reduceEq, Int.reduceLT, Nat.reduceAdd, Nat.reduceSub, Nat.reduceMul, Nat.reduceLT, Nat.reduceLeDiff, Nat.reduceEqDiff, List.reduceReplicate, reduceIte, beq_self_eq_true, bne_self_eq_false, Int.reduceBEq, Int.reduceBNe, Bool.or_false, Bool.false_or, Bool.not_false, Bool.not_true]; with_reducible refine hK19 _ ?_; clear hK19
            refine W.cond rfl rfl (fun hc => ?_) (fun hc => ?_)
            · skip
              have hlt : i < l.length := by simpa using hc
              have hvi := validP_iff.1 (List.all_eq_true.1 hv l[i] (List.getElem_mem hlt))
              refine W.skip (hK18 _ ?_)
              refine W.seqK fun K20 hK20 => ?_
              refine W.block ?_
              refine W.pure (ds := []) rfl fun K21 hK21 => ?_
              simp only [sx, ty, Bool.false_eq_true, Int.reduceEq, Int.reduceLT, Nat.reduceAdd, Nat.reduceSub, Nat.reduceMul, Nat.reduceLT, Nat.reduceLeDiff, Nat.reduceEqDiff, List.reduceReplicate, reduceIte, beq_self_eq_true, bne_self_eq_false, Int.reduceBEq, Int.reduceBNe, Bool.or_false, Bool.false_or, Bool.not_false, Bool.not_true]; with_reducible refine hK21 _ ?_; clear hK21
              refine W.seqK fun K22 hK22 => ?_
              refine W.seqK fun K23 hK23 => ?_
              refine W.regionQ mixed (by kernel_rfl) ?_
              refine WQ.go 4 (ds := []) rfl ?_
              simp only [sx, ty, Bool.false_eq_true, Int.reduceEq, Int.reduceLT, Nat.reduceAdd, Nat.reduceSub, Nat.reduceMul, Nat.reduceLT, Nat.reduceLeDiff, Nat.reduceEqDiff, List.reduceReplicate, reduceIte, sxq, Bool.false_eq_true, beq_self_eq_true, bne_self_eq_false, Int.reduceBEq, Int.reduceBNe, Bool.or_false, Bool.false_or, Bool.not_false, Bool.not_true]
              refine WQ.call (.int .i64 (stGet k (sgRun k (l.take i)).1 l[i])) (ds := []) rfl rfl rfl rfl co41 (fun ρ w1 hb => by rw [← sg_forceF k l hv hlt]; exact force_spec (Rp.now hl (hb.first (by simp))) (own_slice (A := rInt) (S := fun _ => True) (k := 0) hb rfl (sgRun_len k l i hi).symm (fun _ _ => trivial) (ints_read _)) hk hlt (by rw [sgRun_len k l i hi]; exact Nat.le_refl _) (fun j x _ h => sg_bound hv i hi j x h)) ?_
              refine WQ.go 2 (ds := []) rfl ?_
              simp only [sx, ty, Bool.false_eq_true, Int.reduceEq, Int.reduceLT, Nat.reduceAdd, Nat.reduceSub, Nat.reduceMul, Nat.reduceLT, Nat.reduceLeDiff, Nat.reduceEqDiff, List.reduceReplicate, reduceIte, sxq, Bool.false_eq_true, beq_self_eq_true, bne_self_eq_false, Int.reduceBEq, Int.reduceBNe, Bool.or_false, Bool.false_or, Bool.not_false, Bool.not_true]
              refine WQ.elemF (y := l[i]) hl (by simp [St.put]) (ds := []) rfl rfl rfl (by simp [St.put]) (fun _ => rfl) rfl (by simp [St.put]) (fun _ _ => rfl) rfl rfl rfl rfl rfl rfl el24 fo46_1 agg3 sz3 (by decide) (.inr rfl) (by omega) (getIdx l hlt) fun p q ces hces => ?_
              obtain rfl := rPit_open hces
              clear hces
              refine WQ.go 1 (ds := []) rfl ?_
              simp only [sx, ty, Bool.false_eq_true, Int.reduceEq, Int.reduceLT, Nat.reduceAdd, Nat.reduceSub, Nat.reduceMul, Nat.reduceLT, Nat.reduceLeDiff, Nat.reduceEqDiff, List.reduceReplicate, reduceIte, sxq, Bool.false_eq_true, beq_self_eq_true, bne_self_eq_false, Int.reduceBEq, Int.reduceBNe, Bool.or_false, Bool.false_or, Bool.not_false, Bool.not_true]
              with_reducible refine WQ.nil ?_
              refine hK23 _ ?_; clear hK23
              refine W.cond rfl rfl (fun hc => ?_) (fun hc => ?_)
              · skip
                have h4 : ¬ stGet k (sgRun k (l.take i)).1 l[i] = l[i].2.1 := by simpa using hc
                refine W.region ?_
                refine WO.go 2 (ds := []) rfl ?_
                simp only [sx, ty, Bool.false_eq_true, Int.reduceEq, Int.reduceLT, Nat.reduceAdd, Nat.reduceSub, Nat.reduceMul, Nat.reduceLT, Nat.reduceLeDiff, Nat.reduceEqDiff, List.reduceReplicate, reduceIte, beq_self_eq_true, bne_self_eq_false, Int.reduceBEq, Int.reduceBNe, Bool.or_false, Bool.false_or, Bool.not_false, Bool.not_true]
                refine WO.elemF (y := l[i]) hl (by simp [St.put]) (ds := []) rfl rfl rfl (by simp [St.put]) (fun _ => rfl) rfl (by simp [St.put]) (fun _ _ => rfl) rfl rfl rfl rfl rfl rfl el24 fo46_1 agg3 sz3 (by decide) (.inr rfl) (by omega) (getIdx l hlt) fun p q ces hces => ?_
                obtain rfl := rPit_open hces
                clear hces
                simp only [List.drop_succ_cons, List.drop_zero, List.take_succ_cons, List.take_zero, ofCells, Bool.false_eq_true, if_false, List.headD_cons]
                refine WO.go 2 (ds := []) rfl ?_
                simp only [sx, ty, Bool.false_eq_true, Int.reduceEq, Int.reduceLT, Nat.reduceAdd, Nat.reduceSub, Nat.reduceMul, Nat.reduceLT, Nat.reduceLeDiff, Nat.reduceEqDiff, List.reduceReplicate, reduceIte, beq_self_eq_true, bne_self_eq_false, Int.reduceBEq, Int.reduceBNe, Bool.or_false, Bool.false_or, Bool.not_false, Bool.not_true]
                with_reducible refine WO.nil ?_
                refine hK22 _ ?_
                refine W.region ?_
                refine WO.go 3 (ds := []) rfl ?_
                simp only [sx, ty, Bool.false_eq_true, Int.reduceEq, Int.reduceLT, Nat.reduceAdd, Nat.reduceSub, Nat.reduceMul, Nat.reduceLT, Nat.reduceLeDiff, Nat.reduceEqDiff, List.reduceReplicate, reduceIte, beq_self_eq_true, bne_self_eq_false, Int.reduceBEq, Int.reduceBNe, Bool.or_false, Bool.false_or, Bool.not_false, Bool.not_true]
                rw [wrap_id (x := 10 + l[i].2.1) (by omega) (by omega)]
                refine WO.append (k := 0) (m := 1) [.int .i64 (10 + l[i].2.1)] (ds := []) rfl rfl rfl rfl rfl rfl rfl ek25 (news_own (k2 := 1) rfl fun _ => rfl) rfl (by simp [Value.oneCell', pitV]) (by rw [maxLen_eq]; omega) (by omega) fun p6 c6 => ?_
                refine WO.go 1 (ds := []) rfl ?_
                simp only [sx, ty, Bool.false_eq_true, Int.reduceEq, Int.reduceLT, Nat.reduceAdd, Nat.reduceSub, Nat.reduceMul, Nat.reduceLT, Nat.reduceLeDiff, Nat.reduceEqDiff, List.reduceReplicate, reduceIte, beq_self_eq_true, bne_self_eq_false, Int.reduceBEq, Int.reduceBNe, Bool.or_false, Bool.false_or, Bool.not_false, Bool.not_true]
                with_reducible refine WO.nil ?_
                refine hK20 _ ?_
                refine W.region ?_
                refine WO.go 3 (ds := []) rfl ?_
                simp only [sx, ty, Bool.false_eq_true, Int.reduceEq, Int.reduceLT, Nat.reduceAdd, Nat.reduceSub, Nat.reduceMul, Nat.reduceLT, Nat.reduceLeDiff, Nat.reduceEqDiff, List.reduceReplicate, reduceIte, beq_self_eq_true, bne_self_eq_false, Int.reduceBEq, Int.reduceBNe, Bool.or_false, Bool.false_or, Bool.not_false, Bool.not_true]
                with_reducible refine WO.nil ?_
                refine ⟨(i + 1, p6, c6), hlt, by simp only; omega, rfl, by simp [getE, bnd, keepE, wrap_succ (show i + 1 ≤ 9223372036854775807 by omega)], ⟨_, by simp only [sg_out_no hlt h4, List.map_append, List.map_cons, List.map_nil]; rfl⟩, by simp [Own.bnd, bndL, bnd], by simp⟩
              · skip
                have h4 : stGet k (sgRun k (l.take i)).1 l[i] = l[i].2.1 := by simpa using hc
                refine W.skip (hK22 _ ?_)
                refine W.region ?_
                refine WO.go 3 (ds := []) rfl ?_
                simp only [sx, ty, Bool.false_eq_true, Int.reduceEq, Int.reduceLT, Nat.reduceAdd, Nat.reduceSub, Nat.reduceMul, Nat.reduceLT, Nat.reduceLeDiff, Nat.reduceEqDiff, List.reduceReplicate, reduceIte, beq_self_eq_true, bne_self_eq_false, Int.reduceBEq, Int.reduceBNe, Bool.or_false, Bool.false_or, Bool.not_false, Bool.not_true]
                refine WO.append (k := 0) (m := 1) [.int .i64 0] (ds := []) rfl rfl rfl rfl rfl rfl rfl ek25 (news_own (k2 := 1) rfl fun _ => rfl) rfl (by simp [Value.oneCell', pitV]) (by rw [maxLen_eq]; omega) (by omega) fun p6 c6 => ?_
                refine WO.go 1 (ds := []) rfl ?_
                simp only [sx, ty, Bool.false_eq_true, Int.reduceEq, Int.reduceLT, Nat.reduceAdd, Nat.reduceSub, Nat.reduceMul, Nat.reduceLT, Nat.reduceLeDiff, Nat.reduceEqDiff, List.reduceReplicate, reduceIte, beq_self_eq_true, bne_self_eq_false, Int.reduceBEq, Int.reduceBNe, Bool.or_false, Bool.false_or, Bool.not_false, Bool.not_true]
                with_reducible refine WO.nil ?_
                refine hK20 _ ?_
                refine W.region ?_
                refine WO.go 3 (ds := []) rfl ?_
                simp only [sx, ty, Bool.false_eq_true, Int.reduceEq, Int.reduceLT, Nat.reduceAdd, Nat.reduceSub, Nat.reduceMul, Nat.reduceLT, Nat.reduceLeDiff, Nat.reduceEqDiff, List.reduceReplicate, reduceIte, beq_self_eq_true, bne_self_eq_false, Int.reduceBEq, Int.reduceBNe, Bool.or_false, Bool.false_or, Bool.not_false, Bool.not_true]
                with_reducible refine WO.nil ?_
                refine ⟨(i + 1, p6, c6), hlt, by simp only; omega, rfl, by simp [getE, bnd, keepE, wrap_succ (show i + 1 ≤ 9223372036854775807 by omega)], ⟨_, by simp only [sg_out_yes hlt h4, List.map_append, List.map_cons, List.map_nil]; rfl⟩, by simp [Own.bnd, bndL, bnd], by simp⟩
            · skip
              obtain rfl : i = l.length := Nat.le_antisymm hi (by simpa using hc)
              refine W.exit (hK16 _ ?_)
              refine W.pure (ds := []) rfl fun K24 hK24 => ?_
              simp only [sx, ty, Bool.false_eq_true, Int.reduceEq, Int.reduceLT, Nat.reduceAdd, Nat.reduceSub, Nat.reduceMul, Nat.reduceLT, Nat.reduceLeDiff, Nat.reduceEqDiff, List.reduceReplicate, reduceIte, beq_self_eq_true, bne_self_eq_false, Int.reduceBEq, Int.reduceBNe, Bool.or_false, Bool.false_or, Bool.not_false, Bool.not_true]; with_reducible refine hK24 _ ?_; clear hK24
              refine W.ret ⟨by simp, _, rfl, fun ρ w1 hb => ?_⟩
              rw [signsF_good h0 (by rw [hk, hv]; rfl)]
              have hlen : (sgRun k l).2.length = l.length := by have := sgRun_len k l l.length (Nat.le_refl _); rwa [List.take_length] at this
              simp only [den, denL, hlen]
              refine ⟨p3, c3, rfl, own_slice (A := rInt) (k := 0) (xs := (sgRun k (l.take l.length)).2.map (.int .i64)) hb rfl hlen.symm (fun b hb' => own_new hb (by simp) (k := 0) rfl hb') ?_⟩
              rw [List.take_length]
              exact ints_read _
/-- function 20 -/
theorem rread_spec {S S2 : Nat → Prop} {w : World} {v u : Value} {l : List Pit} {s : List Int} (hl : rPits.rd S w [v] l) (hl2 : rInts.rd S2 w [u] s) (k : Int) : Gives Tryd.prog 20 #[.int .i64 k, v, u] w fun r w' =>
    ∃ p c, r = .tuple #[.slice p (readF k l s).1.length c, .int .i64 (readF k l s).2] ∧ rPits.rd (fun b => w.heap.size ≤ b) w' [.slice p (readF k l s).1.length c] (readF k l s).1 := by
  obtain ⟨p, c, rfl, hc1, hc2⟩ := Rp.slice_val hl
  obtain ⟨p2, c2, rfl, hc3, hc4⟩ := Rp.slice_val hl2
  have hl : (Rp.slice rPit).rd (fun _ => True) w _ l := Rp.any hl
  have hl2 : (Rp.slice rInt).rd (fun _ => True) w _ s := Rp.any hl2
  refine gives_of [.val (.int .i64 k), .val (.slice p l.length c), .val (.slice p2 s.length c2)] 75 [.tmp 6, .tmp 7] Tryd.func20 rfl rfl rfl (by simp) rfl rfl ?_
  refine W.pure (ds := []) rfl fun K1 hK1 => ?_
  simp only [sx, ty, Bool.false_eq_true, Int.reduceEq, Int.reduceLT, Nat.reduceAdd, Nat.reduceSub, Nat.reduceMul, Nat.reduceLT, Nat.reduceLeDiff, Nat.reduceEqDiff, List.reduceReplicate, reduceIte, beq_self_eq_true, bne_self_eq_false, Int.reduceBEq, Int.reduceBNe, Bool.or_false, Bool.false_or, Bool.not_false, Bool.not_true]; with_reducible refine hK1 _ ?_; clear hK1
  refine W.seqK fun K2 hK2 => ?_
  refine W.pure (ds := []) rfl fun K3 hK3 => ?_
  simp only [sx, ty, Bool.false_eq_true, Int.reduceEq, Int.reduceLT, Nat.reduceAdd, Nat.reduceSub, Nat.reduceMul, Nat.reduceLT, Nat.reduceLeDiff, Nat.reduceEqDiff, List.reduceReplicate, reduceIte, beq_self_eq_true, bne_self_eq_false, Int.reduceBEq, Int.reduceBNe, Bool.or_false, Bool.false_or, Bool.not_false, Bool.not_true]; with_reducible refine hK3 _ ?_; clear hK3
  refine W.cond rfl rfl (fun hc => ?_) (fun hc => ?_)
  · skip
    have h0 : 1000 < l.length := by simp at hc; omega
    refine W.pure (ds := []) rfl fun K4 hK4 => ?_
    simp only [sx, ty, Bool.false_eq_true, Int.reduceEq, Int.reduceLT, Nat.reduceAdd, Nat.reduceSub, Nat.reduceMul, Nat.reduceLT, Nat.reduceLeDiff, Nat.reduceEqDiff, List.reduceReplicate, reduceIte, beq_self_eq_true, bne_self_eq_false, Int.reduceBEq, Int.reduceBNe, Bool.or_false, Bool.false_or, Bool.not_false, Bool.not_true]; with_reducible refine hK4 _ ?_; clear hK4
    refine W.ret ⟨by simp, _, rfl, fun ρ w1 hb => ?_⟩
    rw [readF_long h0]
    exact ⟨none, 0, rfl, Rp.slice_nil (by omega)⟩
  · skip
    have h0 : ¬ 1000 < l.length := by simp at hc; omega
    refine W.skip (hK2 _ ?_)
    refine W.seqK fun K5 hK5 => ?_
    refine W.join 23 (.val (.bool (!(isKey k && decide (s.length = l.length))))) [0, 1, 2] (W.region ?_) ?_
    · skip
      refine WO.go 1 (ds := [some 14, some 15, some 16, some 17, some 18, some 19, some 20, some 21, some 22, some 23]) rfl ?_
      simp only [sx, ty, Bool.false_eq_true, Int.reduceEq, Int.reduceLT, Nat.reduceAdd, Nat.reduceSub, Nat.reduceMul, Nat.reduceLT, Nat.reduceLeDiff, Nat.reduceEqDiff, List.reduceReplicate, reduceIte, beq_self_eq_true, bne_self_eq_false, Int.reduceBEq, Int.reduceBNe, Bool.or_false, Bool.false_or, Bool.not_false, Bool.not_true]
      refine WO.call (.bool (isKey k)) (ds := [some 14, some 15, some 16, some 17, some 18, some 19, some 20, some 21, some 22, some 23]) rfl rfl rfl rfl co22 (fun ρ w1 hb => rKey_spec w1 _) ?_
      refine WO.go 2 (ds := [some 14, some 15, some 16, some 17, some 18, some 19, some 20, some 21, some 22, some 23]) rfl ?_
      simp only [sx, ty, Bool.false_eq_true, Int.reduceEq, Int.reduceLT, Nat.reduceAdd, Nat.reduceSub, Nat.reduceMul, Nat.reduceLT, Nat.reduceLeDiff, Nat.reduceEqDiff, List.reduceReplicate, reduceIte, beq_self_eq_true, bne_self_eq_false, Int.reduceBEq, Int.reduceBNe, Bool.or_false, Bool.false_or, Bool.not_false, Bool.not_true]
      refine WO.cases 17 _ rfl (fun hg17 => ?_) (fun hg17 => ?_)
      · skip
        refine WO.go 6 (ds := [some 14, some 15, some 16, some 17, some 18, some 19, some 20, some 21, some 22, some 23]) rfl ?_
        simp only [sx, ty, Bool.false_eq_true, Int.reduceEq, Int.reduceLT, Nat.reduceAdd, Nat.reduceSub, Nat.reduceMul, Nat.reduceLT, Nat.reduceLeDiff, Nat.reduceEqDiff, List.reduceReplicate, reduceIte, beq_self_eq_true, bne_self_eq_false, Int.reduceBEq, Int.reduceBNe, Bool.or_false, Bool.false_or, Bool.not_false, Bool.not_true]
        with_reducible refine WO.nil ?_
        refine ⟨rfl, ?_, ⟨_, rfl⟩, by simp [Own.bnd, bndL, bnd, boxO], by simp⟩
        try rw [hg17]
        simp [getE, bnd, keepE]
        try (cases h : isKey k <;> simp_all)
        try (by_cases h2 : s.length = l.length <;> simp [h2] <;> omega)
      · skip
        refine WO.go 6 (ds := [some 14, some 15, some 16, some 17, some 18, some 19, some 20, some 21, some 22, some 23]) rfl ?_
        simp only [sx, ty, Bool.false_eq_true, Int.reduceEq, Int.reduceLT, Nat.reduceAdd, Nat.reduceSub, Nat.reduceMul, Nat.reduceLT, Nat.reduceLeDiff, Nat.reduceEqDiff, List.reduceReplicate, reduceIte, beq_self_eq_true, bne_self_eq_false, Int.reduceBEq, Int.reduceBNe, Bool.or_false, Bool.false_or, Bool.not_false, Bool.not_true]
        with_reducible refine WO.nil ?_
        refine ⟨rfl, ?_, ⟨_, rfl⟩, by simp [Own.bnd, bndL, bnd, boxO], by simp⟩
        try rw [hg17]
        simp [getE, bnd, keepE]
        try (cases h : isKey k <;> simp_all)
        try (by_cases h2 : s.length = l.length <;> simp [h2] <;> omega)
    · simp only [sx, ty, Bool.false_eq_true, Int.reduceEq, Int.reduceLT, Nat.reduceAdd, Nat.reduceSub, Nat.reduceMul, Nat.reduceLT, Nat.reduceLeDiff, Nat.reduceEqDiff, List.reduceReplicate, reduceIte, sxk, beq_self_eq_true, bne_self_eq_false, Int.reduceBEq, Int.reduceBNe, Bool.or_false, Bool.false_or, Bool.not_false, Bool.not_true]
      refine W.cond rfl rfl (fun hc => ?_) (fun hc => ?_)
      · skip
        have h2 : (isKey k && decide (s.length = l.length)) = false := by simpa only [Bool.not_eq_true'] using hc
        refine W.pure (ds := []) rfl fun K7 hK7 => ?_
        simp only [sx, ty, Bool.false_eq_true, Int.reduceEq, Int.reduceLT, Nat.reduceAdd, Nat.reduceSub, Nat.reduceMul, Nat.reduceLT, Nat.reduceLeDiff, Nat.reduceEqDiff, List.reduceReplicate, reduceIte, beq_self_eq_true, bne_self_eq_false, Int.reduceBEq, Int.reduceBNe, Bool.or_false, Bool.false_or, Bool.not_false, Bool.not_true]; with_reducible refine hK7 _ ?_; clear hK7
        refine W.ret ⟨by simp, _, rfl, fun ρ w1 hb => ?_⟩
        rw [readF_bad h0 h2]
        exact ⟨none, 0, rfl, Rp.slice_nil (by omega)⟩
      · skip
        have h2 : (isKey k && decide (s.length = l.length)) = true := by simpa only [Bool.not_eq_false'] using hc
        have hk : isKey k = true := by simp only [Bool.and_eq_true, decide_eq_true_eq] at h2; exact h2.1
        have hsl : s.length = l.length := by simp only [Bool.and_eq_true, decide_eq_true_eq] at h2; exact h2.2
        have hz : (l.zip s).length = l.length := by simp [hsl]
        refine W.skip (hK5 _ ?_)
        refine W.pure (ds := []) rfl fun K8 hK8 => ?_
        simp only [sx, ty, Bool.false_eq_true, Int.reduceEq, Int.reduceLT, Nat.reduceAdd, Nat.reduceSub, Nat.reduceMul, Nat.reduceLT, Nat.reduceLeDiff, Nat.reduceEqDiff, List.reduceReplicate, reduceIte, beq_self_eq_true, bne_self_eq_false, Int.reduceBEq, Int.reduceBNe, Bool.or_false, Bool.false_or, Bool.not_false, Bool.not_true]; with_reducible refine hK8 _ ?_; clear hK8
        refine W.seqK fun K9 hK9 => ?_
        refine W.pure (ds := []) rfl fun K10 hK10 => ?_
        simp only [sx, ty, Bool.false_eq_true, Int.reduceEq, Int.reduceLT, Nat.reduceAdd, Nat.reduceSub, Nat.reduceMul, Nat.reduceLT, Nat.reduceLeDiff, Nat.reduceEqDiff, List.reduceReplicate, reduceIte, beq_self_eq_true, bne_self_eq_false, Int.reduceBEq, Int.reduceBNe, Bool.or_false, Bool.false_or, Bool.not_false, Bool.not_true]; with_reducible refine hK10 _ ?_; clear hK10
        refine W.block ?_
        refine W.ownNil 46 3 ?_
        simp only [sx, ty, Bool.false_eq_true, Int.reduceEq, Int.reduceLT, Nat.reduceAdd, Nat.reduceSub, Nat.reduceMul, Nat.reduceLT, Nat.reduceLeDiff, Nat.reduceEqDiff, List.reduceReplicate, reduceIte]
        refine W.loopO (X := Nat × Option Addr × Nat) [0, 1, 2] (fun x => [(8, .val (.slice x.2.1 x.1 x.2.2)), (9, .val (.int .i64 x.1))]) (fun x => [.slice 46 3 (.slice x.2.1 x.1 x.2.2) x.1 (pitsV (rdRun k ((l.zip s).take x.1)).2)]) (fun x => [((fun _ => True), w)]) (fun x => x.1 ≤ l.length ∧ ∀ j, j < x.1 → ∀ q, (l.zip s)[j]? = some q → rdOk q = true) (fun x => l.length - x.1) (0, none, 0) ?_ ?_ ?_
        · exact ⟨rfl, by simp [getE, bnd, keepE], ⟨[], by simp [rdRun_nil, pitsV]⟩, by simp [Own.bnd, bndL, bnd, boxO], by simp⟩
        · skip
          exact ⟨Nat.zero_le _, fun j h => by omega⟩
        · rintro ⟨i, p3, c3⟩ ⟨hi, hno⟩
          simp only at hi hno
          simp only [sx, ty, Bool.false_eq_true, Int.reduceEq, Int.reduceLT, Nat.reduceAdd, Nat.reduceSub, Nat.reduceMul, Nat.reduceLT, Nat.reduceLeDiff, Nat.reduceEqDiff, List.reduceReplicate, reduceIte, sxk, beq_self_eq_true, bne_self_eq_false, Int.reduceBEq, Int.reduceBNe, Bool.or_false, Bool.false_or, Bool.not_false, Bool.not_true]
          refine W.seqK fun K11 hK11 => ?_
          refine W.pure (ds := []) rfl fun K12 hK12 => ?_
          simp only [sx, ty, Bool.false_eq_true, Int.reduceEq, Int.reduceLT, Nat.reduceAdd, Nat.reduceSub, Nat.reduceMul, Nat.reduceLT, Nat.reduceLeDiff, Nat.reduceEqDiff, List.reduceReplicate, reduceIte, beq_self_eq_true, bne_self_eq_false, Int.reduceBEq, Int.reduceBNe, Bool.or_false, Bool.false_or, Bool.not_false, Bool.not_true]; with_reducible refine hK12 _ ?_; clear hK12
          refine W.cond rfl rfl (fun hc => ?_) (fun hc => ?_)
          · skip
            have hlt : i < l.length := by simpa using hc
            have hlts : i < s.length := by omega
            have hzi := zip_get hlt hlts
            refine W.skip (hK11 _ ?_)
            refine W.seqK fun K13 hK13 => ?_
            refine W.block ?_
            refine W.seqK fun K14 hK14 => W.region ?_
            refine WO.go 2 (ds := []) rfl ?_
            simp only [sx, ty, Bool.false_eq_true, Int.reduceEq, Int.reduceLT, Nat.reduceAdd, Nat.reduceSub, Nat.reduceMul, Nat.reduceLT, Nat.reduceLeDiff, Nat.reduceEqDiff, List.reduceReplicate, reduceIte, beq_self_eq_true, bne_self_eq_false, Int.reduceBEq, Int.reduceBNe, Bool.or_false, Bool.false_or, Bool.not_false, Bool.not_true]
            refine WO.elem (y := l[i]) hl (by simp [St.put]) (ds := []) rfl rfl rfl (by simp [St.put]) (fun _ => rfl) rfl rfl rfl rfl rfl el24 agg46 sz46 (.inl rfl) (by omega) (getIdx l hlt) fun p ces hces => ?_
            obtain rfl := rPit_open hces
            clear hces
            refine WO.go 2 (ds := []) rfl ?_
            simp only [sx, ty, Bool.false_eq_true, Int.reduceEq, Int.reduceLT, Nat.reduceAdd, Nat.reduceSub, Nat.reduceMul, Nat.reduceLT, Nat.reduceLeDiff, Nat.reduceEqDiff, List.reduceReplicate, reduceIte, beq_self_eq_true, bne_self_eq_false, Int.reduceBEq, Int.reduceBNe, Bool.or_false, Bool.false_or, Bool.not_false, Bool.not_true]
            with_reducible refine WO.nil ?_
            refine hK14 _ ?_; clear hK14
            refine W.pure (ds := []) rfl fun K15 hK15 => ?_
            simp only [sx, ty, Bool.false_eq_true, Int.reduceEq, Int.reduceLT, Nat.reduceAdd, Nat.reduceSub, Nat.reduceMul, Nat.reduceLT, Nat.reduceLeDiff, Nat.reduceEqDiff, List.reduceReplicate, reduceIte, beq_self_eq_true, bne_self_eq_false, Int.reduceBEq, Int.reduceBNe, Bool.or_false, Bool.false_or, Bool.not_false, Bool.not_true]; with_reducible refine hK15 _ ?_; clear hK15
            refine W.seqK fun K16 hK16 => ?_
            refine W.join 52 (.val (.bool (!rdOk (l[i], s[i])))) [0, 1, 2, 8, 9, 10] (W.region ?_) ?_
            · skip
              refine WO.go 1 (ds := [some 35, some 36, some 37, some 38, some 39, some 40, some 41, some 42, some 43, some 44, some 45, some 46, some 47, some 48, some 49, some 50, some 51, some 52]) rfl ?_
              simp only [sx, ty, Bool.false_eq_true, Int.reduceEq, Int.reduceLT, Nat.reduceAdd, Nat.reduceSub, Nat.reduceMul, Nat.reduceLT, Nat.reduceLeDiff, Nat.reduceEqDiff, List.reduceReplicate, reduceIte, beq_self_eq_true, bne_self_eq_false, Int.reduceBEq, Int.reduceBNe, Bool.or_false, Bool.false_or, Bool.not_false, Bool.not_true]
              refine WO.call (.bool (validP (l[i].1, 0, l[i].2.2))) (ds := [some 35, some 36, some 37, some 38, some 39, some 40, some 41, some 42, some 43, some 44, some 45, some 46, some 47, some 48, some 49, some 50, some 51, some 52]) rfl rfl rfl rfl co40 (fun ρ w1 hb => rpitch_spec w1 (l[i].1, 0, l[i].2.2)) ?_
              refine WO.go 2 (ds := [some 35, some 36, some 37, some 38, some 39, some 40, some 41, some 42, some 43, some 44, some 45, some 46, some 47, some 48, some 49, some 50, some 51, some 52]) rfl ?_
              simp only [sx, ty, Bool.false_eq_true, Int.reduceEq, Int.reduceLT, Nat.reduceAdd, Nat.reduceSub, Nat.reduceMul, Nat.reduceLT, Nat.reduceLeDiff, Nat.reduceEqDiff, List.reduceReplicate, reduceIte, beq_self_eq_true, bne_self_eq_false, Int.reduceBEq, Int.reduceBNe, Bool.or_false, Bool.false_or, Bool.not_false, Bool.not_true]
              refine WO.cases 38 _ rfl (fun hg38 => ?_) (fun hg38 => ?_)
              · skip
                refine WO.go 14 (ds := [some 35, some 36, some 37, some 38, some 39, some 40, some 41, some 42, some 43, some 44, some 45, some 46, some 47, some 48, some 49, some 50, some 51, some 52]) rfl ?_
                simp only [sx, ty, Bool.false_eq_true, Int.reduceEq, Int.reduceLT, Nat.reduceAdd, Nat.reduceSub, Nat.reduceMul, Nat.reduceLT, Nat.reduceLeDiff, Nat.reduceEqDiff, List.reduceReplicate, reduceIte, beq_self_eq_true, bne_self_eq_false, Int.reduceBEq, Int.reduceBNe, Bool.or_false, Bool.false_or, Bool.not_false, Bool.not_true]
                with_reducible refine WO.nil ?_
                refine ⟨rfl, ?_, ⟨_, rfl⟩, by simp [Own.bnd, bndL, bnd, boxO], by simp⟩
                try rw [hg38]
                try rw [hg44]
                simp [getE, bnd, keepE, rdOk]
                try simp_all
              · skip
                refine WO.go 2 (ds := [some 35, some 36, some 37, some 38, some 39, some 40, some 41, some 42, some 43, some 44, some 45, some 46, some 47, some 48, some 49, some 50, some 51, some 52]) rfl ?_
                simp only [sx, ty, Bool.false_eq_true, Int.reduceEq, Int.reduceLT, Nat.reduceAdd, Nat.reduceSub, Nat.reduceMul, Nat.reduceLT, Nat.reduceLeDiff, Nat.reduceEqDiff, List.reduceReplicate, reduceIte, beq_self_eq_true, bne_self_eq_false, Int.reduceBEq, Int.reduceBNe, Bool.or_false, Bool.false_or, Bool.not_false, Bool.not_true]
                refine WO.elem (y := s[i]) hl2 (by simp [St.put]) (ds := [some 35, some 36, some 37, some 38, some 39, some 40, some 41, some 42, some 43, some 44, some 45, some 46, some 47, some 48, some 49, some 50, some 51, some 52]) rfl rfl rfl (by simp [St.put]) (fun _ => rfl) rfl rfl rfl rfl rfl el25 agg3 sz3 (.inr rfl) (by omega) (getIdx s hlts) fun p ces hces => ?_
                obtain rfl := rInt_open hces
                clear hces
                refine WO.go 2 (ds := [some 35, some 36, some 37, some 38, some 39, some 40, some 41, some 42, some 43, some 44, some 45, some 46, some 47, some 48, some 49, some 50, some 51, some 52]) rfl ?_
                simp only [sx, ty, Bool.false_eq_true, Int.reduceEq, Int.reduceLT, Nat.reduceAdd, Nat.reduceSub, Nat.reduceMul, Nat.reduceLT, Nat.reduceLeDiff, Nat.reduceEqDiff, List.reduceReplicate, reduceIte, beq_self_eq_true, bne_self_eq_false, Int.reduceBEq, Int.reduceBNe, Bool.or_false, Bool.false_or, Bool.not_false, Bool.not_true]
                refine WO.cases 44 _ rfl (fun hg44 => ?_) (fun hg44 => ?_)
                · skip
                  refine WO.go 2 (ds := [some 35, some 36, some 37, some 38, some 39, some 40, some 41, some 42, some 43, some 44, some 45, some 46, some 47, some 48, some 49, some 50, some 51, some 52]) rfl ?_
                  simp only [sx, ty, Bool.false_eq_true, Int.reduceEq, Int.reduceLT, Nat.reduceAdd, Nat.reduceSub, Nat.reduceMul, Nat.reduceLT, Nat.reduceLeDiff, Nat.reduceEqDiff, List.reduceReplicate, reduceIte, beq_self_eq_true, bne_self_eq_false, Int.reduceBEq, Int.reduceBNe, Bool.or_false, Bool.false_or, Bool.not_false, Bool.not_true]
                  refine WO.elem (y := s[i]) hl2 (by simp [St.put]) (ds := [some 35, some 36, some 37, some 38, some 39, some 40, some 41, some 42, some 43, some 44, some 45, some 46, some 47, some 48, some 49, some 50, some 51, some 52]) rfl rfl rfl (by simp [St.put]) (fun _ => rfl) rfl rfl rfl rfl rfl el25 agg3 sz3 (.inr rfl) (by omega) (getIdx s hlts) fun p ces hces => ?_
                  obtain rfl := rInt_open hces
                  clear hces
                  simp only [sx, ty, Bool.false_eq_true, Int.reduceEq, Int.reduceLT, Nat.reduceAdd, Nat.reduceSub, Nat.reduceMul, Nat.reduceLT, Nat.reduceLeDiff, Nat.reduceEqDiff, List.reduceReplicate, reduceIte, beq_self_eq_true, bne_self_eq_false, Int.reduceBEq, Int.reduceBNe, Bool.or_false, Bool.false_or, Bool.not_false, Bool.not_true]
                  refine WO.call (.bool (within 6 14 s[i])) (ds := [some 35, some 36, some 37, some 38, some 39, some 40, some 41, some 42, some 43, some 44, some 45, some 46, some 47, some 48, some 49, some 50, some 51, some 52]) rfl rfl rfl rfl co30 (fun ρ w1 hb => rin_spec w1 _ _ _) ?_
                  refine WO.go 3 (ds := [some 35, some 36, some 37, some 38, some 39, some 40, some 41, some 42, some 43, some 44, some 45, some 46, some 47, some 48, some 49, some 50, some 51, some 52]) rfl ?_
                  simp only [sx, ty, Bool.false_eq_true, Int.reduceEq, Int.reduceLT, Nat.reduceAdd, Nat.reduceSub, Nat.reduceMul, Nat.reduceLT, Nat.reduceLeDiff, Nat.reduceEqDiff, List.reduceReplicate, reduceIte, beq_self_eq_true, bne_self_eq_false, Int.reduceBEq, Int.reduceBNe, Bool.or_false, Bool.false_or, Bool.not_false, Bool.not_true]
                  with_reducible refine WO.nil ?_
                  refine ⟨rfl, ?_, ⟨_, rfl⟩, by simp [Own.bnd, bndL, bnd, boxO], by simp⟩
                  try rw [hg38]
                  try rw [hg44]
                  simp [getE, bnd, keepE, rdOk]
                  try simp_all
                · skip
                  refine WO.go 8 (ds := [some 35, some 36, some 37, some 38, some 39, some 40, some 41, some 42, some 43, some 44, some 45, some 46, some 47, some 48, some 49, some 50, some 51, some 52]) rfl ?_
                  simp only [sx, ty, Bool.false_eq_true, Int.reduceEq, Int.reduceLT, Nat.reduceAdd, Nat.reduceSub, Nat.reduceMul, Nat.reduceLT, Nat.reduceLeDiff, Nat.reduceEqDiff, List.reduceReplicate, reduceIte, beq_self_eq_true, bne_self_eq_false, Int.reduceBEq, Int.reduceBNe, Bool.or_false, Bool.false_or, Bool.not_false, Bool.not_true]
                  with_reducible refine WO.nil ?_
                  refine ⟨rfl, ?_, ⟨_, rfl⟩, by simp [Own.bnd, bndL, bnd, boxO], by simp⟩
                  try rw [hg38]
                  try rw [hg44]
                  simp [getE, bnd, keepE, rdOk]
                  try simp_all
            · simp only [sx, ty, Bool.false_eq_true, Int.reduceEq, Int.reduceLT, Nat.reduceAdd, Nat.reduceSub, Nat.reduceMul, Nat.reduceLT, Nat.reduceLeDiff, Nat.reduceEqDiff, List.reduceReplicate, reduceIte, sxk, beq_self_eq_true, bne_self_eq_false, Int.reduceBEq, Int.reduceBNe, Bool.or_false, Bool.false_or, Bool.not_false, Bool.not_true]
              refine W.cond rfl rfl (fun hc => ?_) (fun hc => ?_)
              · skip
                have hok : rdOk (l[i], s[i]) = false := by simpa using hc
                refine W.pure (ds := []) rfl fun K18 hK18 => ?_
                simp only [sx, ty, Bool.false_eq_true, Int.reduceEq, Int.reduceLT, Nat.reduceAdd, Nat.reduceSub, Nat.reduceMul, Nat.reduceLT, Nat.reduceLeDiff, Nat.reduceEqDiff, List.reduceReplicate, reduceIte, beq_self_eq_true, bne_self_eq_false, Int.reduceBEq, Int.reduceBNe, Bool.or_false, Bool.false_or, Bool.not_false, Bool.not_true]; with_reducible refine hK18 _ ?_; clear hK18
                refine W.ret ⟨by simp, _, rfl, fun ρ w1 hb => ?_⟩
                rw [readF_ugly h0 h2 (all_false hzi hok)]
                exact ⟨none, 0, rfl, Rp.slice_nil (by omega)⟩
              · skip
                have hok : rdOk (l[i], s[i]) = true := by simpa using hc
                have hok2 := hok
                simp only [rdOk, Bool.and_eq_true, Bool.or_eq_true, decide_eq_true_eq, within_iff, validP_iff] at hok2
                have hvi : within 0 6 l[i].1 = true := within_iff.2 hok2.1.1
                have hsb := hok2.2
                refine W.skip (hK16 _ ?_)
                refine W.seqK fun K19 hK19 => W.region ?_
                refine WO.go 2 (ds := []) rfl ?_
                simp only [sx, ty, Bool.false_eq_true, Int.reduceEq, Int.reduceLT, Nat.reduceAdd, Nat.reduceSub, Nat.reduceMul, Nat.reduceLT, Nat.reduceLeDiff, Nat.reduceEqDiff, List.reduceReplicate, reduceIte, beq_self_eq_true, bne_self_eq_false, Int.reduceBEq, Int.reduceBNe, Bool.or_false, Bool.false_or, Bool.not_false, Bool.not_true]
                refine WO.elem (y := s[i]) hl2 (by simp [St.put]) (ds := []) rfl rfl rfl (by simp [St.put]) (fun _ => rfl) rfl rfl rfl rfl rfl el25 agg3 sz3 (.inr rfl) (by omega) (getIdx s hlts) fun p ces hces => ?_
                obtain rfl := rInt_open hces
                clear hces
                refine WO.go 3 (ds := []) rfl ?_
                simp only [sx, ty, Bool.false_eq_true, Int.reduceEq, Int.reduceLT, Nat.reduceAdd, Nat.reduceSub, Nat.reduceMul, Nat.reduceLT, Nat.reduceLeDiff, Nat.reduceEqDiff, List.reduceReplicate, reduceIte, beq_self_eq_true, bne_self_eq_false, Int.reduceBEq, Int.reduceBNe, Bool.or_false, Bool.false_or, Bool.not_false, Bool.not_true]
                with_reducible refine WO.nil ?_
                refine hK19 _ ?_; clear hK19
                refine W.seqK fun K20 hK20 => ?_
                refine W.seqK fun K21 hK21 => W.region ?_
                refine WO.go 2 (ds := []) rfl ?_
                simp only [sx, ty, Bool.false_eq_true, Int.reduceEq, Int.reduceLT, Nat.reduceAdd, Nat.reduceSub, Nat.reduceMul, Nat.reduceLT, Nat.reduceLeDiff, Nat.reduceEqDiff, List.reduceReplicate, reduceIte, beq_self_eq_true, bne_self_eq_false, Int.reduceBEq, Int.reduceBNe, Bool.or_false, Bool.false_or, Bool.not_false, Bool.not_true]
                refine WO.elem (y := s[i]) hl2 (by simp [St.put]) (ds := []) rfl rfl rfl (by simp [St.put]) (fun _ => rfl) rfl rfl rfl rfl rfl el25 agg3 sz3 (.inr rfl) (by omega) (getIdx s hlts) fun p ces hces => ?_
                obtain rfl := rInt_open hces
                clear hces
                refine WO.go 1 (ds := []) rfl ?_
                simp only [sx, ty, Bool.false_eq_true, Int.reduceEq, Int.reduceLT, Nat.reduceAdd, Nat.reduceSub, Nat.reduceMul, Nat.reduceLT, Nat.reduceLeDiff, Nat.reduceEqDiff, List.reduceReplicate, reduceIte, beq_self_eq_true, bne_self_eq_false, Int.reduceBEq, Int.reduceBNe, Bool.or_false, Bool.false_or, Bool.not_false, Bool.not_true]
                with_reducible refine WO.nil ?_
                refine hK21 _ ?_; clear hK21
                refine W.cond rfl rfl (fun hc => ?_) (fun hc => ?_)
                · skip
                  have hs0 : s[i] = 0 := by simpa using hc
                  have hval := rd_val_none (k := k) hsl hlt hvi (q := (l[i], s[i])) rfl hs0
                  refine W.region ?_
                  refine WO.go 4 (ds := []) rfl ?_
                  simp only [sx, ty, Bool.false_eq_true, Int.reduceEq, Int.reduceLT, Nat.reduceAdd, Nat.reduceSub, Nat.reduceMul, Nat.reduceLT, Nat.reduceLeDiff, Nat.reduceEqDiff, List.reduceReplicate, reduceIte, beq_self_eq_true, bne_self_eq_false, Int.reduceBEq, Int.reduceBNe, Bool.or_false, Bool.false_or, Bool.not_false, Bool.not_true]
                  refine WO.call (.int .i64 (forceF k l s i l[i])) (ds := []) rfl rfl rfl rfl co41 (fun ρ w1 hb => force_spec (Rp.now hl (hb.first (by simp))) (Rp.now hl2 (hb.first (by simp))) hk hlt (by omega) (rd_bound (by omega) hsl hno)) ?_
                  refine WO.go 2 (ds := []) rfl ?_
                  simp only [sx, ty, Bool.false_eq_true, Int.reduceEq, Int.reduceLT, Nat.reduceAdd, Nat.reduceSub, Nat.reduceMul, Nat.reduceLT, Nat.reduceLeDiff, Nat.reduceEqDiff, List.reduceReplicate, reduceIte, beq_self_eq_true, bne_self_eq_false, Int.reduceBEq, Int.reduceBNe, Bool.or_false, Bool.false_or, Bool.not_false, Bool.not_true]
                  with_reducible refine WO.nil ?_
                  refine hK20 _ ?_
                  refine W.region ?_
                  refine WO.go 3 (ds := []) rfl ?_
                  simp only [sx, ty, Bool.false_eq_true, Int.reduceEq, Int.reduceLT, Nat.reduceAdd, Nat.reduceSub, Nat.reduceMul, Nat.reduceLT, Nat.reduceLeDiff, Nat.reduceEqDiff, List.reduceReplicate, reduceIte, beq_self_eq_true, bne_self_eq_false, Int.reduceBEq, Int.reduceBNe, Bool.or_false, Bool.false_or, Bool.not_false, Bool.not_true]
                  refine WO.append (k := 0) (m := 1) (pitV (l[i].1, forceF k l s i l[i], l[i].2.2)) (ds := []) rfl rfl rfl rfl rfl rfl rfl ek24 (news_own (k2 := 2) rfl fun _ => rfl) rfl (by simp [Value.oneCell', pitV]) (by rw [maxLen_eq]; omega) (by omega) fun p6 c6 => ?_
                  refine WO.go 1 (ds := []) rfl ?_
                  simp only [sx, ty, Bool.false_eq_true, Int.reduceEq, Int.reduceLT, Nat.reduceAdd, Nat.reduceSub, Nat.reduceMul, Nat.reduceLT, Nat.reduceLeDiff, Nat.reduceEqDiff, List.reduceReplicate, reduceIte, beq_self_eq_true, bne_self_eq_false, Int.reduceBEq, Int.reduceBNe, Bool.or_false, Bool.false_or, Bool.not_false, Bool.not_true]
                  with_reducible refine WO.nil ?_
                  refine hK13 _ ?_
                  refine W.region ?_
                  refine WO.go 3 (ds := []) rfl ?_
                  simp only [sx, ty, Bool.false_eq_true, Int.reduceEq, Int.reduceLT, Nat.reduceAdd, Nat.reduceSub, Nat.reduceMul, Nat.reduceLT, Nat.reduceLeDiff, Nat.reduceEqDiff, List.reduceReplicate, reduceIte, beq_self_eq_true, bne_self_eq_false, Int.reduceBEq, Int.reduceBNe, Bool.or_false, Bool.false_or, Bool.not_false, Bool.not_true]
                  with_reducible refine WO.nil ?_
                  refine ⟨(i + 1, p6, c6), ⟨hlt, fun j hj x hx => ?_⟩, by simp only; omega, rfl, by simp [getE, bnd, keepE, wrap_succ (show i + 1 ≤ 9223372036854775807 by omega)], ⟨_, by simp only [rd_out (k := k) hzi, pitsV_app]; simp only [hval]; rfl⟩, by simp [Own.bnd, bndL, bnd], by simp⟩
                  rcases Nat.lt_succ_iff_lt_or_eq.1 hj with h | rfl
                  · exact hno j h x hx
                  · rw [hzi] at hx; obtain rfl := Option.some.inj hx; exact hok
                · skip
                  have hs0 : ¬ s[i] = 0 := by simpa using hc
                  have hval := rd_val_sign (k := k) (m := (rdRun k ((l.zip s).take i)).1) (q := (l[i], s[i])) hs0
                  refine W.skip (hK20 _ ?_)
                  refine W.region ?_
                  refine WO.go 3 (ds := []) rfl ?_
                  simp only [sx, ty, Bool.false_eq_true, Int.reduceEq, Int.reduceLT, Nat.reduceAdd, Nat.reduceSub, Nat.reduceMul, Nat.reduceLT, Nat.reduceLeDiff, Nat.reduceEqDiff, List.reduceReplicate, reduceIte, beq_self_eq_true, bne_self_eq_false, Int.reduceBEq, Int.reduceBNe, Bool.or_false, Bool.false_or, Bool.not_false, Bool.not_true]
                  rw [wrap_id (x := s[i] - 10) (by omega) (by omega)]
                  refine WO.append (k := 0) (m := 1) (pitV (l[i].1, s[i] - 10, l[i].2.2)) (ds := []) rfl rfl rfl rfl rfl rfl rfl ek24 (news_own (k2 := 2) rfl fun _ => rfl) rfl (by simp [Value.oneCell', pitV]) (by rw [maxLen_eq]; omega) (by omega) fun p6 c6 => ?_
                  refine WO.go 1 (ds := []) rfl ?_
                  simp only [sx, ty, Bool.false_eq_true, Int.reduceEq, Int.reduceLT, Nat.reduceAdd, Nat.reduceSub, Nat.reduceMul, Nat.reduceLT, Nat.reduceLeDiff, Nat.reduceEqDiff, List.reduceReplicate, reduceIte, beq_self_eq_true, bne_self_eq_false, Int.reduceBEq, Int.reduceBNe, Bool.or_false, Bool.false_or, Bool.not_false, Bool.not_true]
                  with_reducible refine WO.nil ?_
                  refine hK13 _ ?_
                  refine W.region ?_
                  refine WO.go 3 (ds := []) rfl ?_
                  simp only [sx, ty, Bool.false_eq_true, Int.reduceEq, Int.reduceLT, Nat.reduceAdd, Nat.reduceSub, Nat.reduceMul, Nat.reduceLT, Nat.reduceLeDiff, Nat.reduceEqDiff, List.reduceReplicate, reduceIte, beq_self_eq_true, bne_self_eq_false, Int.reduceBEq, Int.reduceBNe, Bool.or_false, Bool.false_or, Bool.not_false, Bool.not_true]
                  with_reducible refine WO.nil ?_
                  refine ⟨(i + 1, p6, c6), ⟨hlt, fun j hj x hx => ?_⟩, by simp only; omega, rfl, by simp [getE, bnd, keepE, wrap_succ (show i + 1 ≤ 9223372036854775807 by omega)], ⟨_, by simp only [rd_out (k := k) hzi, pitsV_app]; simp only [hval]; rfl⟩, by simp [Own.bnd, bndL, bnd], by simp⟩
                  rcases Nat.lt_succ_iff_lt_or_eq.1 hj with h | rfl
                  · exact hno j h x hx
                  · rw [hzi] at hx; obtain rfl := Option.some.inj hx; exact hok
          · skip
            obtain rfl : i = l.length := Nat.le_antisymm hi (by simpa using hc)
            refine W.exit (hK9 _ ?_)
            refine W.pure (ds := []) rfl fun K22 hK22 => ?_
            simp only [sx, ty, Bool.false_eq_true, Int.reduceEq, Int.reduceLT, Nat.reduceAdd, Nat.reduceSub, Nat.reduceMul, Nat.reduceLT, Nat.reduceLeDiff, Nat.reduceEqDiff, List.reduceReplicate, reduceIte, beq_self_eq_true, bne_self_eq_false, Int.reduceBEq, Int.reduceBNe, Bool.or_false, Bool.false_or, Bool.not_false, Bool.not_true]; with_reducible refine hK22 _ ?_; clear hK22
            refine W.ret ⟨by simp, _, rfl, fun ρ w1 hb => ?_⟩
            have hall : (l.zip s).all rdOk = true := all_idx (n := l.length) (by omega) hno
            rw [readF_good h0 h2 hall]
            have hlen : (rdRun k (l.zip s)).2.length = l.length := by have := rdRun_len k (l.zip s) (l.zip s).length (Nat.le_refl _); rw [List.take_length] at this; omega
            have htk : (l.zip s).take l.length = l.zip s := List.take_of_length_le (Nat.le_of_eq hz)
            simp only [den, denL, hlen]
            refine ⟨p3, c3, rfl, own_slice (A := rPit) (k := 0) (xs := pitsV (rdRun k ((l.zip s).take l.length)).2) hb rfl hlen.symm (fun b hb' => own_new hb (by simp) (k := 0) rfl hb') ?_⟩
            rw [htk]
            exact pits_read _
end Go.Proofs.YtpkbghnjfjnoiaaDoor
