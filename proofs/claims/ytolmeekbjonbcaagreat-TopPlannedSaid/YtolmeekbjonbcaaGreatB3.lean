/-
  Match: what the search for a column finds, and what it tells when it finds none.
-/
import Derived.Test.YtolmeekbjonbcaaGreatB2
set_option linter.unusedVariables false
set_option linter.unusedSimpArgs false
set_option maxHeartbeats 1000000
namespace Go.Proofs.YtolmeekbjonbcaaGreat
open Int renaming reduceEq → q1, reduceLT → q2, reduceBEq → q3, reduceBNe → q4
open Nat renaming reduceAdd → q5, reduceSub → q6, reduceMul → q7, reduceLT → q8, reduceLeDiff → q9, reduceEqDiff → qa
open List renaming reduceReplicate → qb
open Go Go.SX Go.RowKit
theorem flat_rep {α β : Type} (f : α → β) (n : Nat) (x : α) : (List.replicate n [f x]).flatten = (List.replicate n x).map f := by
  induction n with
  | zero => rfl
  | succ n ih => rw [List.replicate_succ, List.flatten_cons, ih, List.replicate_succ, List.map_cons]; rfl
theorem no_ownP {ρ : Nat → Nat} {σ : St} {w1 w : World} {OO own' : List SX.Own} {Sc : Nat → Prop} {ks : List Nat} (hb : Base ρ σ w1) (hm : ((fun b => ¬ ofOwn OO b), w) ∈ σ.snaps) (hp : placed σ.own ks own') (hfr : own'.all freeO = true)
    (hno : ∀ b, Sc b → ¬ ofOwn OO b) (hlt : ∀ b, Sc b → b < w.heap.size) : ∀ b, Sc b → ¬ ofOwn own' b := fun b hS ⟨i, o, h1, h2⟩ => by
  obtain ⟨hkl, hget⟩ := placed_get hp
  have hil := (List.getElem?_eq_some_iff.1 h1).1
  have h3 := hget i _ o (List.getElem?_eq_getElem (show i < ks.length by omega)) h1
  have h5 : w.heap.size ≤ b := (hb.keep _ hm).2 _ o b h3 (by rw [freeO_num (List.all_eq_true.1 hfr o (List.mem_of_getElem? h1)) ρ (fun _ => 0) _ 0]; exact h2) (hno b hS)
  have := hlt b hS
  omega
theorem other_own {ρ : Nat → Nat} {σ : St} {w1 : World} {own' : List SX.Own} {ks : List Nat} {j b : Nat} {o : SX.Own} (hb : Base ρ σ w1) (hp : placed σ.own ks own') (hfr : own'.all freeO = true) (hj : j ∉ ks) (ho : nth σ.own j = some o) (hn : o.num ρ j = some b) : ¬ ofOwn own' b := fun ⟨i, o', h1, h2⟩ => by
  obtain ⟨hkl, hget⟩ := placed_get hp
  have hil := (List.getElem?_eq_some_iff.1 h1).1
  have hki : ks[i]? = some (ks[i]'(by omega)) := List.getElem?_eq_getElem _
  have h3 := hget i _ o' hki h1
  rw [nth_eq] at ho
  have := hb.apart j _ o o' b ho h3 hn (by rw [freeO_num (List.all_eq_true.1 hfr o' (List.mem_of_getElem? h1)) ρ (fun _ => 0) _ 0]; exact h2)
  exact hj (this ▸ List.mem_of_getElem? hki)
theorem own_old {ρ : Nat → Nat} {σ : St} {w1 : World} {j b : Nat} {o : SX.Own} (hb : Base ρ σ w1) (ho : nth σ.own j = some o) (hn : o.num ρ j = some b) : b < w1.heap.size := by
  rw [nth_eq] at ho
  exact Own.lt (hb.own j o ho ρ (Agree.refl _ _)) hn
/-- new blocks that are handed over -/
theorem newsB_of {ρ : Nat → Nat} {σ : St} {w w0 : World} (hb : Base ρ σ w) (hm : ((fun _ => True), w0) ∈ σ.snaps) (os : List SX.Own) (hp : σ.own.take os.length = os) (hfr : os.all freeO = true) :
    (∀ (j : Nat) (o : SX.Own), os[j]? = some o → o.holds (fun _ => 0) 0 w ∧ ∀ b, o.num (fun _ => 0) 0 = some b → w0.heap.size ≤ b) ∧ ∀ (i j : Nat) (oi oj : SX.Own) b, os[i]? = some oi → os[j]? = some oj → oi.num (fun _ => 0) 0 = some b → oj.num (fun _ => 0) 0 = some b → i = j := by
  have hfk : ∀ (k : Nat) (o : SX.Own), os[k]? = some o → freeO o = true := fun k o hk => List.all_eq_true.1 hfr o (List.mem_of_getElem? hk)
  have hk : ∀ (k : Nat) (o : SX.Own), os[k]? = some o → σ.own[k]? = some o := fun k o hk => by
    have hl := (List.getElem?_eq_some_iff.1 hk).1
    rw [← hp, List.getElem?_take, if_pos hl] at hk; exact hk
  have hnum : ∀ (k : Nat) (o : SX.Own) b, os[k]? = some o → o.num (fun _ => 0) 0 = some b → o.num ρ k = some b := fun k o b h1 h2 => by rw [freeO_num (hfk k o h1) ρ (fun _ => 0) k 0]; exact h2
  exact ⟨fun k o h => ⟨freeO_holds (hfk k o h) (hb.own k o (hk k o h) ρ (Agree.refl _ _)), fun b h2 => (hb.keep _ hm).2 k o b (hk k o h) (hnum k o b h h2) trivial⟩, fun i j oi oj b h1 h2 h3 h4 => hb.apart i j oi oj b (hk i oi h1) (hk j oj h2) (hnum i oi b h1 h3) (hnum j oj b h2 h4)⟩
def nobF (n i : Nat) : List Int := (List.range n).map fun j => if j < i then -1 else 0
theorem nobF_zero (n : Nat) : nobF n 0 = List.replicate n 0 := by
  apply List.ext_getElem <;> simp [nobF]
theorem nobF_all (n : Nat) : nobF n n = List.replicate n (-1) := by
  apply List.ext_getElem
  · simp [nobF]
  · intro i h1 h2
    simp [nobF] at h1 ⊢; omega
theorem nobF_set {n i : Nat} (h : i < n) : (nobF n i).set i (-1) = nobF n (i + 1) := by
  apply List.ext_getElem
  · simp [nobF]
  · intro j h1 h2
    simp only [nobF, List.getElem_set, List.getElem_map, List.getElem_range]
    by_cases hij : i = j
    · subst hij; simp
    · rw [if_neg hij]
      by_cases hj : j < i
      · rw [if_pos hj, if_pos (by omega)]
      · rw [if_neg hj, if_neg (by omega)]
/-- function 44 -/
theorem nobody_spec (w : World) (n : Nat) (hn : n ≤ 1000) : Gives Tryz.prog 44 #[.int .i64 (n : Int)] w fun r w' => ∃ b : Nat, r = .slice (some ⟨b, 0, none⟩) n n ∧ (∀ ρ' k, (OIN n (List.replicate n (-1)) (some ⟨b, 0, none⟩, n)).holds ρ' k w') ∧ ∀ ρ' k b', (OIN n (List.replicate n (-1)) (some ⟨b, 0, none⟩, n)).num ρ' k = some b' → w.heap.size ≤ b' := by
  refine gives_of [.val (.int .i64 (n : Int))] 17 [.tmp 2] Tryz.func44 rfl rfl rfl (by simp) rfl rfl ?_
  refine W.pure (ds := []) rfl fun K1 hK1 => ?_
  simp only [sx, ty, q1, q2, q5, q6, q7, q8, q9, qa, qb, reduceIte, sy, q3, q4]; with_reducible refine hK1 _ ?_; clear hK1
  refine W.seqK fun K2 hK2 => W.region ?_
  refine WO.go 1 (ds := []) rfl ?_
  simp only [sx, ty, q1, q2, q5, q6, q7, q8, q9, qa, qb, reduceIte, sy, q3, q4]
  refine WO.make (ds := []) rfl rfl rfl rfl rfl rfl ek27 (Nat.le_refl _) (by rw [maxLen_eq]; omega) (by omega) fun b => ?_
  rw [flat_rep (Value.int .i64) n 0, ← nobF_zero]
  refine WO.go 1 (ds := []) rfl ?_
  simp only [sx, ty, q1, q2, q5, q6, q7, q8, q9, qa, qb, reduceIte, sy, q3, q4]
  with_reducible refine WO.nil ?_
  refine hK2 _ ?_; clear hK2
  refine W.seqK fun K3 hK3 => ?_
  refine W.pure (ds := []) rfl fun K4 hK4 => ?_
  simp only [sx, ty, q1, q2, q5, q6, q7, q8, q9, qa, qb, reduceIte, sy, q3, q4]; with_reducible refine hK4 _ ?_; clear hK4
  refine W.block ?_
  refine W.loopO (X := Nat) [3, 8] (fun x => [(9, .val (.int .i64 x))]) (fun x => [OIN n (nobF n x) (some ⟨b, 0, none⟩, n)]) (fun x => [((fun _ => True), w)]) (fun x => x ≤ n) (fun x => n - x) 0 ?_ ?_ ?_
  · exact ⟨rfl, by simp [getE, bnd, keepE], ⟨[], by simp [OIN]⟩, by simp [Own.bnd, bndL, bnd, boxO, OIN], by simp⟩
  · skip
    exact Nat.zero_le _
  · rintro i hi
    simp only [sx, ty, q1, q2, q5, q6, q7, q8, q9, qa, qb, reduceIte, sxk, sy, q3, q4]
    refine W.pure (ds := []) rfl fun K5 hK5 => ?_
    simp only [sx, ty, q1, q2, q5, q6, q7, q8, q9, qa, qb, reduceIte, sy, q3, q4]; with_reducible refine hK5 _ ?_; clear hK5
    refine W.seqK fun K6 hK6 => ?_
    refine W.cond rfl rfl (fun hc => ?_) (fun hc => ?_)
    · skip
      have hlt : i < n := by simpa using hc
      refine W.skip (hK6 _ ?_)
      refine W.seqK fun K7 hK7 => ?_
      refine W.block ?_
      refine W.pure (ds := []) rfl fun K8 hK8 => ?_
      simp only [sx, ty, q1, q2, q5, q6, q7, q8, q9, qa, qb, reduceIte, sy, q3, q4]; with_reducible refine hK8 _ ?_; clear hK8
      refine W.region ?_
      refine WO.go 2 (ds := []) rfl ?_
      simp only [sx, ty, q1, q2, q5, q6, q7, q8, q9, qa, qb, reduceIte, sy, q3, q4]
      refine WO.q (ds := []) rfl rfl rfl (QR.idx rfl rfl rfl el27 (by omega) (by omega)) ?_
      simp only [sx, ty, q1, q2, q5, q6, q7, q8, q9, qa, qb, reduceIte, sy, q3, q4]
      refine WO.storeOwn (k := 0) (i := i) (ds := []) rfl rfl rfl rfl rfl rfl rfl hlt rfl rfl sz3 ?_
      rw [show ((nobF n i).map (Value.int .i64)).set i (.int .i64 (-1)) = (nobF n (i + 1)).map (.int .i64) by rw [← nobF_set hlt, List.map_set]]
      simp only [sx, ty, q1, q2, q5, q6, q7, q8, q9, qa, qb, reduceIte, sy, q3, q4]
      with_reducible refine WO.nil ?_
      refine hK7 _ ?_
      refine W.region ?_
      refine WO.go 2 (ds := []) rfl ?_
      simp only [sx, ty, q1, q2, q5, q6, q7, q8, q9, qa, qb, reduceIte, sy, q3, q4]
      with_reducible refine WO.nil ?_
      refine ⟨i + 1, hlt, by omega, rfl, by simp [getE, bnd, keepE, wrap_succ (show i + 1 ≤ 9223372036854775807 by omega)], ⟨[], by simp [OIN]⟩, by simp [Own.bnd, bndL, bnd, OIN], by simp⟩
    · skip
      obtain rfl : i = n := Nat.le_antisymm hi (by simpa using hc)
      refine W.exit (hK3 _ ?_)
      refine W.pure (ds := []) rfl fun K9 hK9 => ?_
      simp only [sx, ty, q1, q2, q5, q6, q7, q8, q9, qa, qb, reduceIte, sy, q3, q4]; with_reducible refine hK9 _ ?_; clear hK9
      refine W.ret ⟨by simp, _, rfl, fun ρ w1 hb => ?_⟩
      refine ⟨b, rfl, fun ρ' k => ?_, fun ρ' k b' h => ?_⟩
      · rw [← nobF_all]; exact freeO_holds rfl (hb.own 0 _ rfl ρ (Agree.refl _ _))
      · exact own_new (k := 0) hb (by simp) rfl h
/-- function 31 -/
theorem wide_spec {S : Nat → Prop} {w : World} {v : Value} {cost : List (List Int)} {n : Nat} (hl : rRows.rd S w [v] cost) (hn : ∀ l, l ∈ cost → l.length = n) : Gives Tryz.prog 31 #[v] w fun r _ => r = .int .i64 ((if cost.length = 0 then 0 else n : Nat) : Int) := by
  obtain ⟨p, c, rfl, hc1, hc2⟩ := Rp.slice_val hl
  have hl : (Rp.slice rInts).rd (fun _ => True) w _ cost := Rp.any hl
  refine gives_of [.val (.slice p cost.length c)] 10 [.tmp 2] Tryz.func31 rfl rfl rfl (by simp) rfl rfl ?_
  refine W.pure (ds := []) rfl fun K1 hK1 => ?_
  simp only [sx, ty, q1, q2, q5, q6, q7, q8, q9, qa, qb, reduceIte, sy, q3, q4]; with_reducible refine hK1 _ ?_; clear hK1
  refine W.seqK fun K2 hK2 => ?_
  refine W.pure (ds := []) rfl fun K3 hK3 => ?_
  simp only [sx, ty, q1, q2, q5, q6, q7, q8, q9, qa, qb, reduceIte, sy, q3, q4]; with_reducible refine hK3 _ ?_; clear hK3
  refine W.cond rfl rfl (fun hc => ?_) (fun hc => ?_)
  · skip
    have h0 : cost.length = 0 := by simp at hc; simp [hc]
    refine W.pure (ds := []) rfl fun K4 hK4 => ?_
    simp only [sx, ty, q1, q2, q5, q6, q7, q8, q9, qa, qb, reduceIte, sy, q3, q4]; with_reducible refine hK4 _ ?_; clear hK4
    refine W.ret ⟨by simp, _, rfl, fun ρ w1 hb => ?_⟩
    rw [if_pos h0]; rfl
  · skip
    have h0 : ¬ cost.length = 0 := by simpa using hc
    obtain ⟨y, hy⟩ : ∃ y, cost[0]? = some y := ⟨_, List.getElem?_eq_getElem (by omega)⟩
    have hyn := hn y (List.mem_of_getElem? hy)
    refine W.skip (hK2 _ ?_)
    refine W.seqK fun K5 hK5 => W.region ?_
    refine WO.go 1 (ds := []) rfl ?_
    simp only [sx, ty, q1, q2, q5, q6, q7, q8, q9, qa, qb, reduceIte, sy, q3, q4]
    refine WO.elem (y := y) hl (by simp [St.put]) (ds := []) rfl rfl rfl (by simp [St.put]) (fun _ => rfl) rfl rfl rfl rfl rfl el36 agg27 sz27 (.inr rfl) (by omega) (hy) fun p ces hces => ?_
    obtain ⟨p9, c9, rfl, hc5, hc6⟩ := rInts_open hces
    clear hces
    refine WO.go 2 (ds := []) rfl ?_
    simp only [sx, ty, q1, q2, q5, q6, q7, q8, q9, qa, qb, reduceIte, sy, q3, q4]
    with_reducible refine WO.nil ?_
    refine hK5 _ ?_; clear hK5
    refine W.ret ⟨by simp, _, rfl, fun ρ w1 hb => ?_⟩
    rw [if_neg h0, ← hyn]; rfl
/-- function 43 -/
theorem finder_spec (w : World) (rows : Int) (q : Option Addr) (n co : Nat) (K : FuncId) (caps : Array Value) : Gives Tryz.prog 43 #[.int .i64 rows, .slice q n co, .func (.func K) #[] caps] w fun r w' => ∃ x : Nat × Nat × Nat, r = .func (.func 69) #[] #[.pointer (some ⟨x.2.1, 0, none⟩), .pointer (some ⟨x.2.2, 0, none⟩), .pointer (some ⟨x.1, 0, none⟩)] ∧ True ∧
    (∀ (j : Nat) (o : SX.Own), [boxO 3 x.1 [.int .i64 rows], boxO 27 x.2.1 [.slice q n co], boxO 88 x.2.2 [.func (.func K) #[] caps]][j]? = some o → o.holds (fun _ => 0) 0 w' ∧ ∀ b, o.num (fun _ => 0) 0 = some b → w.heap.size ≤ b) ∧
    ∀ (i j : Nat) (oi oj : SX.Own) b, [boxO 3 x.1 [.int .i64 rows], boxO 27 x.2.1 [.slice q n co], boxO 88 x.2.2 [.func (.func K) #[] caps]][i]? = some oi → [boxO 3 x.1 [.int .i64 rows], boxO 27 x.2.1 [.slice q n co], boxO 88 x.2.2 [.func (.func K) #[] caps]][j]? = some oj → oi.num (fun _ => 0) 0 = some b → oj.num (fun _ => 0) 0 = some b → i = j := by
  refine gives_of [.val (.int .i64 rows), .val (.slice q n co), .val (.func (.func K) #[] caps)] 8 [.tmp 6] Tryz.func43 rfl rfl rfl (by simp) rfl rfl ?_
  refine W.pure (ds := []) rfl fun K1 hK1 => ?_
  simp only [sx, ty, q1, q2, q5, q6, q7, q8, q9, qa, qb, reduceIte, sy, q3, q4]; with_reducible refine hK1 _ ?_; clear hK1
  refine W.pinA (by simp [smallO, cellsS]) fun β => ?_
  simp only [pinEn, pinOw, den, denL, Nat.zero_add, Nat.reduceAdd]
  refine W.pure (ds := []) rfl fun K2 hK2 => ?_
  simp only [sx, ty, q1, q2, q5, q6, q7, q8, q9, qa, qb, reduceIte, sy, q3, q4]; with_reducible refine hK2 _ ?_; clear hK2
  refine W.ret ⟨by simp, _, rfl, fun ρ w1 hb => ?_⟩
  exact ⟨(β 0, β 1, β 2), rfl, trivial, newsB_of hb (by simp) _ rfl rfl⟩
def topF (can : Int → Nat → Bool) (n : Nat) (row : Int) (owner : List Int) : Bool × List Int × List Int :=
  ((findF can (n + 1) row ⟨owner, List.replicate n false, []⟩).1, (findF can (n + 1) row ⟨owner, List.replicate n false, []⟩).2.owner, (findF can (n + 1) row ⟨owner, List.replicate n false, []⟩).2.met)
/-- function 69 -/
theorem finder1_spec {can : Int → Nat → Bool} {R n : Nat} {K : FuncId} {caps : Array Value} (hKc : callOk Tryz.prog K = true) {w : World} {Sc : Nat → Prop} (hSb : ∀ b, Sc b → b < w.heap.size)
    (hcan : ∀ w1, Keep Sc w w1 → ∀ (row : Int) (k : Nat), 0 ≤ row → row < R → k < n → Gives Tryz.prog K (#[.int .i64 row, .int .i64 k] ++ caps) w1 fun r _ => r = .bool (can row k))
    {a1 a2 a3 : Addr} {owner : List Int} {bo co : Nat} {rows row : Int} (h1 : At w a1 [.slice (some ⟨bo, 0, none⟩) n co]) (h2 : At w a2 [.func (.func K) #[] caps]) (h3 : At w a3 [.int .i64 rows])
    (h1s : Sc a1.block) (h2s : Sc a2.block) (h3s : Sc a3.block) (hno : ∀ b, Sc b → ¬ ofOwn [OIN n owner (some ⟨bo, 0, none⟩, co)] b) (hn2 : n ≤ 200) (hr0 : 0 ≤ row) (hrR : row < R) (hrr : row < rows) (hlen : owner.length = n) (hrow : ∀ (k : Nat) (o : Int), owner[k]? = some o → o < R) (hlie : Lie [OIN n owner (some ⟨bo, 0, none⟩, co)] w) :
    GivesB Tryz.prog 69 #[.int .i64 row, .pointer (some a1), .pointer (some a2), .pointer (some a3)] w (ofOwn [OIN n owner (some ⟨bo, 0, none⟩, co)]) fun r w' => ∃ x : Option Addr × Nat, r = .tuple #[.slice x.1 (topF can n row owner).2.2.length x.2, .bool (topF can n row owner).1] ∧ TurnL [OIN n owner (some ⟨bo, 0, none⟩, co)] [OIN n (topF can n row owner).2.1 (some ⟨bo, 0, none⟩, co), OI (topF can n row owner).2.2 x] w w' := by
  obtain ⟨bb, u, hu⟩ : ∃ bb u, findF can (n + 1) row ⟨owner, List.replicate n false, []⟩ = (bb, u) := ⟨_, _, rfl⟩
  simp only [topF, hu]
  refine givesL_of [OIN n owner (some ⟨bo, 0, none⟩, co)] [.val (.int .i64 row), .val (.pointer (some a1)), .val (.pointer (some a2)), .val (.pointer (some a3))] 25 [.tmp 5, .tmp 6] Tryz.func69 rfl rfl rfl (by simp) rfl rfl rfl hlie ?_
  refine W.pure (ds := []) rfl fun K1 hK1 => ?_
  simp only [sx, ty, q1, q2, q5, q6, q7, q8, q9, qa, qb, reduceIte, sy, q3, q4]; with_reducible refine hK1 _ ?_; clear hK1
  refine W.ownNil 3 1 ?_
  simp only [sx, ty, Bool.false_eq_true, q1, q2, q5, q6, q7, q8, q9, qa, qb, reduceIte, St.pushO, List.cons_append, List.nil_append]
  refine W.seqK fun K2 hK2 => W.region ?_
  refine WO.q (ds := []) rfl rfl rfl (QR.load [.slice (some ⟨bo, 0, none⟩) n co] false rfl rfl agg27 sz27 (.inr rfl) (fun ρ w1 hb => h1.now (S := fun b => ¬ ofOwn [OIN n owner (some ⟨bo, 0, none⟩, co)] b) hb (by simp [St.put]) (hno _ h1s) (hSb _ h1s))) ?_
  simp only [List.drop_succ_cons, List.drop_zero, List.take_succ_cons, List.take_zero, ofCells, Bool.false_eq_true, if_false, List.headD_cons]
  refine WO.go 1 (ds := []) rfl ?_
  simp only [sx, ty, q1, q2, q5, q6, q7, q8, q9, qa, qb, reduceIte, sy, q3, q4]
  refine WO.make (ds := []) rfl rfl rfl rfl rfl rfl ek71 (Nat.le_refl _) (by rw [maxLen_eq]; omega) (by omega) fun bs => ?_
  rw [flat_rep Value.bool n false]
  refine WO.go 2 (ds := []) rfl ?_
  simp only [sx, ty, q1, q2, q5, q6, q7, q8, q9, qa, qb, reduceIte, sy, q3, q4]
  with_reducible refine WO.nil ?_
  refine hK2 _ ?_; clear hK2
  refine W.pure (ds := []) rfl fun K3 hK3 => ?_
  simp only [sx, ty, q1, q2, q5, q6, q7, q8, q9, qa, qb, reduceIte, sy, q3, q4]; with_reducible refine hK3 _ ?_; clear hK3
  refine W.pure (ds := []) rfl fun K4 hK4 => ?_
  simp only [sx, ty, q1, q2, q5, q6, q7, q8, q9, qa, qb, reduceIte, sy, q3, q4]; with_reducible refine hK4 _ ?_; clear hK4
  refine W.pure (ds := []) rfl fun K5 hK5 => ?_
  simp only [sx, ty, q1, q2, q5, q6, q7, q8, q9, qa, qb, reduceIte, sy, q3, q4]; with_reducible refine hK5 _ ?_; clear hK5
  refine W.pinA (by simp [smallO, OIN]) fun β => ?_
  refine W.ownIs [OIN n owner (some ⟨bo, 0, none⟩, co), OI [] (none, 0), OBs n (List.replicate n false) (some ⟨bs, 0, none⟩, n), boxO 71 (β 3) [.slice (some ⟨bs, 0, none⟩) n n], boxO 27 (β 4) [.slice none 0 0], boxO 97 (β 5) [.func (.func 70) #[] #[.pointer (some ⟨β 4, 0, none⟩), .pointer (some a1), .pointer (some ⟨β 3, 0, none⟩), .pointer (some a2), .pointer (some ⟨β 5, 0, none⟩)]]] rfl ?_
  simp only [pinEn, den, denL, Nat.zero_add, Nat.reduceAdd]
  refine W.seqK fun K6 hK6 => W.region ?_
  refine WO.go 1 (ds := [some 15, some 16, some 17, some 18, some 19, some 20, some 21, some 22, some 10]) rfl ?_
  simp only [sx, ty, q1, q2, q5, q6, q7, q8, q9, qa, qb, reduceIte, sy, q3, q4]
  refine WO.q (ds := [some 15, some 16, some 17, some 18, some 19, some 20, some 21, some 22, some 10]) rfl rfl rfl (QR.load [.int .i64 rows] false rfl rfl agg3 sz3 (.inr rfl) (fun ρ w1 hb => h3.now (S := fun b => ¬ ofOwn [OIN n owner (some ⟨bo, 0, none⟩, co)] b) hb (by simp [St.put]) (hno _ h3s) (hSb _ h3s))) ?_
  simp only [List.drop_succ_cons, List.drop_zero, List.take_succ_cons, List.take_zero, ofCells, Bool.false_eq_true, if_false, List.headD_cons]
  refine WO.go 2 (ds := [some 15, some 16, some 17, some 18, some 19, some 20, some 21, some 22, some 10]) rfl ?_
  simp only [sx, ty, q1, q2, q5, q6, q7, q8, q9, qa, qb, reduceIte, sy, q3, q4]
  refine WO.cases 18 _ rfl (fun hg18 => ?_) (fun hg18 => ?_)
  · skip
    refine WO.loadBox (k := 5) (i := 0) (sz := 1) rfl (ds := [some 15, some 16, some 17, some 18, some 19, some 20, some 21, some 22, some 10]) rfl rfl rfl rfl rfl (by simp [Addr.add_mid]) (by simp) agg97 sz97 (.inr rfl) ?_
    simp only [List.drop_succ_cons, List.drop_zero, List.take_succ_cons, List.take_zero, ofCells, Bool.false_eq_true, if_false, List.headD_cons]
    refine WO.go 1 (ds := [some 15, some 16, some 17, some 18, some 19, some 20, some 21, some 22, some 10]) rfl ?_
    simp only [sx, ty, q1, q2, q5, q6, q7, q8, q9, qa, qb, reduceIte, sy, q3, q4]
    refine WO.callL (own := (ownF n (β 4) (none, 0) (some ⟨bo, 0, none⟩, co) (some ⟨bs, 0, none⟩, n) ⟨owner, List.replicate n false, []⟩)) [4, 1, 0, 2] (fun _ : Option Addr × Nat => .bool bb) (fun x => ownF n (β 4) x (some ⟨bo, 0, none⟩, co) (some ⟨bs, 0, none⟩, n) u) (fun _ _ _ => True) (ds := [some 15, some 16, some 17, some 18, some 19, some 20, some 21, some 22, some 10]) rfl rfl rfl rfl co70 ⟨rfl, rfl, rfl, rfl, trivial⟩ (by decide) rfl (fun _ => rfl) (fun _ => rfl) (fun ρ w1 hb hlie1 => ?_) fun x lo s8 _ => ?_
    · have hkw : Keep (fun b => ¬ ofOwn [OIN n owner (some ⟨bo, 0, none⟩, co)] b) w w1 := hb.at (by simp [St.put])
      have hnw : ∀ b, Sc b → ¬ ofOwn (ownF n (β 4) (none, 0) (some ⟨bo, 0, none⟩, co) (some ⟨bs, 0, none⟩, n) ⟨owner, List.replicate n false, []⟩) b := no_ownP (ks := [4, 1, 0, 2]) (own' := (ownF n (β 4) (none, 0) (some ⟨bo, 0, none⟩, co) (some ⟨bs, 0, none⟩, n) ⟨owner, List.replicate n false, []⟩)) hb (by simp [St.put]) ⟨rfl, rfl, rfl, rfl, trivial⟩ rfl hno hSb
      have hszw := hkw.size
      have hsc : ∀ b, Sc b → b < w1.heap.size ∧ ¬ ofOwn (ownF n (β 4) (none, 0) (some ⟨bo, 0, none⟩, co) (some ⟨bs, 0, none⟩, n) ⟨owner, List.replicate n false, []⟩) b := fun b hS => ⟨Nat.lt_of_lt_of_le (hSb b hS) hszw, hnw b hS⟩
      have h9 := find_spec (can := can) (R := R) (n := n) (K := K) (caps := caps) hKc (w0 := w1) (Sc := fun b => b < w1.heap.size ∧ ¬ ofOwn (ownF n (β 4) (none, 0) (some ⟨bo, 0, none⟩, co) (some ⟨bs, 0, none⟩, n) ⟨owner, List.replicate n false, []⟩) b) (fun b h => h.1)
        (fun w2 hk2 row' k h0 hR hk => hcan w2 ((hkw.mono fun b hS _ => hno b hS).trans (hk2.mono fun b hS _ => hsc b hS)) row' k h0 hR hk)
        (a2 := a1) (a3 := ⟨β 3, 0, none⟩) (a4 := a2) (a5 := ⟨β 5, 0, none⟩) (bm := β 4) (co := co) (cs := n) (qo := some ⟨bo, 0, none⟩) (qs := some ⟨bs, 0, none⟩)
        (h1.now (S := fun b => ¬ ofOwn [OIN n owner (some ⟨bo, 0, none⟩, co)] b) hb (by simp [St.put]) (hno _ h1s) (hSb _ h1s)) (box_at (k := 3) hb rfl) (h2.now (S := fun b => ¬ ofOwn [OIN n owner (some ⟨bo, 0, none⟩, co)] b) hb (by simp [St.put]) (hno _ h2s) (hSb _ h2s)) (box_at (k := 5) hb rfl) (hsc _ h1s) ⟨own_old (j := 3) hb rfl rfl, other_own (j := 3) (ks := [4, 1, 0, 2]) (own' := (ownF n (β 4) (none, 0) (some ⟨bo, 0, none⟩, co) (some ⟨bs, 0, none⟩, n) ⟨owner, List.replicate n false, []⟩)) hb ⟨rfl, rfl, rfl, rfl, trivial⟩ rfl (by decide) rfl rfl⟩ (hsc _ h2s) ⟨own_old (j := 5) hb rfl rfl, other_own (j := 5) (ks := [4, 1, 0, 2]) (own' := (ownF n (β 4) (none, 0) (some ⟨bo, 0, none⟩, co) (some ⟨bs, 0, none⟩, n) ⟨owner, List.replicate n false, []⟩)) hb ⟨rfl, rfl, rfl, rfl, trivial⟩ rfl (by decide) rfl rfl⟩ hn2
        (n + 1) row ⟨owner, List.replicate n false, []⟩ (none, 0) w1 (Keep.refl _ _) hr0 hrR ⟨hlen, by simp, hrow⟩ (by simp [unseen]) (by simp [mea, unseen]; omega) (fun b h => h.2) hlie1
      exact Calls.mono h9 fun e w2 ⟨v, he, hk, x, h1, h2⟩ => ⟨v, he, hk, x, by rw [h1, hu], trivial, by rw [hu] at h2; exact h2⟩
    obtain ⟨p4, c4⟩ := x
    refine WO.ownIs [OIN n u.owner (some ⟨bo, 0, none⟩, co), OI u.met (p4, c4), OBs n u.seen (some ⟨bs, 0, none⟩, n), boxO 71 (β 3) [.slice (some ⟨bs, 0, none⟩) n n], boxO 27 (β 4) [.slice p4 u.met.length c4], boxO 97 (β 5) [.func (.func 70) #[] #[.pointer (some ⟨β 4, 0, none⟩), .pointer (some a1), .pointer (some ⟨β 3, 0, none⟩), .pointer (some a2), .pointer (some ⟨β 5, 0, none⟩)]]] rfl ?_
    refine WO.go 2 (ds := [some 15, some 16, some 17, some 18, some 19, some 20, some 21, some 22, some 10]) rfl ?_
    simp only [sx, ty, q1, q2, q5, q6, q7, q8, q9, qa, qb, reduceIte, sy, q3, q4]
    with_reducible refine WO.nil ?_
    refine hK6 _ ?_; clear hK6
    refine W.seqK fun K7 hK7 => W.region ?_
    refine WO.loadBox (k := 4) (i := 0) (sz := 1) rfl (ds := []) rfl rfl rfl rfl rfl (by simp [Addr.add_mid]) (by simp) agg27 sz27 (.inr rfl) ?_
    simp only [List.drop_succ_cons, List.drop_zero, List.take_succ_cons, List.take_zero, ofCells, Bool.false_eq_true, if_false, List.headD_cons]
    refine WO.go 3 (ds := []) rfl ?_
    simp only [sx, ty, q1, q2, q5, q6, q7, q8, q9, qa, qb, reduceIte, sy, q3, q4]
    with_reducible refine WO.nil ?_
    refine hK7 _ ?_; clear hK7
    refine W.ret ?_
    refine ⟨by simp, ?_⟩
    simp only [sx, ty, q1, q2, q5, q6, q7, q8, q9, qa, qb, reduceIte, sxr, sy, q3, q4]
    intro ρ w1 hb
    exact ⟨(p4, c4), rfl, turnL_of hb (by simp) rfl rfl⟩
  · skip
    simp at hg18; omega
end Go.Proofs.YtolmeekbjonbcaaGreat
set_option linter.unusedVariables false
set_option linter.unusedSimpArgs false
set_option maxHeartbeats 1000000
namespace Go.Proofs.YtolmeekbjonbcaaGreat
open Int renaming reduceEq → q1, reduceLT → q2, reduceBEq → q3, reduceBNe → q4
open Nat renaming reduceAdd → q5, reduceSub → q6, reduceMul → q7, reduceLT → q8, reduceLeDiff → q9, reduceEqDiff → qa
open List renaming reduceReplicate → qb
open Go Go.SX Go.RowKit
theorem WO.strIdx {P : Program} {ops : Array Oper} {Q : Exit → St → Prop} {o : Oper} {rest : List Oper} {σ : St} {ds : List (Option Nat)} {t : TypeId} {x ix : Operand} {s : ByteArray} {kk : IntKind} {i : Int} {m : Nat} (hds : dsOk ds ops.toList = true) (hg : gd ds σ o.guard = some true) (hd : dOk σ o.dst = true)
    (hop : o.op = .index t x ix) (hx : ev σ x = some (.val (.string s))) (hi : ev σ ix = some (.val (.int kk i))) (ht : P.underlying t = some .string) (hm : s.size = m) (h0 : 0 ≤ i) (h1 : i < m) (k : ∀ v : Int, WO P ops Q rest (σ.put o.dst (.val (.int .u8 v)))) : WO P ops Q (o :: rest) σ :=
  WO.one hds hg fun ρ a w hs => by
    refine ⟨ρ, _, .int .u8 (s[i.toNat]'(by omega)).toNat, w, .inl ?_, hs.put _ _ _ (dOk_lt hd) (fun _ _ => rfl), k _⟩
    unfold execOp
    rw [hop]
    simp only [Sem.run_bind, hs.ev hx ρ (Agree.refl _ _), hs.ev hi ρ (Agree.refl _ _), den, run_index_string _ _ _ _ _ ht]
    rw [dif_pos ⟨h0, by omega⟩]
    rfl
set_option maxRecDepth 100000 in
/-- function 89 -/
theorem len64_spec (w : World) (n : Int) (h0 : 0 ≤ n) (h1 : n ≤ 255) : Gives Tryz.prog 89 #[.int .u64 n] w fun r _ => ∃ m : Int, r = .int .i64 m := by
  have hn8 : IntKind.u8.wrap n = n := by simp only [IntKind.wrap, IntKind.signed, IntKind.bits]; simp; omega
  refine gives_of [.val (.int .u64 n)] 25 [.tmp 2] Tryz.func89 rfl rfl rfl (by simp) rfl rfl ?_
  refine W.pure (ds := []) rfl fun K1 hK1 => ?_
  simp only [sx, ty, q1, q2, q5, q6, q7, q8, q9, qa, qb, reduceIte, sy, q3, q4]; with_reducible refine hK1 _ ?_; clear hK1
  refine W.seqK fun K2 hK2 => ?_
  refine W.pure (ds := []) rfl fun K3 hK3 => ?_
  simp only [sx, ty, q1, q2, q5, q6, q7, q8, q9, qa, qb, reduceIte, sy, q3, q4]; with_reducible refine hK3 _ ?_; clear hK3
  refine W.cond rfl rfl (fun hc => ?_) (fun hc => ?_)
  · skip
    (simp at hc; omega)
  · skip
    refine W.skip (hK2 _ ?_)
    refine W.seqK fun K4 hK4 => ?_
    refine W.pure (ds := []) rfl fun K5 hK5 => ?_
    simp only [sx, ty, q1, q2, q5, q6, q7, q8, q9, qa, qb, reduceIte, sy, q3, q4]; with_reducible refine hK5 _ ?_; clear hK5
    refine W.cond rfl rfl (fun hc => ?_) (fun hc => ?_)
    · skip
      (simp at hc; omega)
    · skip
      refine W.skip (hK4 _ ?_)
      refine W.seqK fun K6 hK6 => ?_
      refine W.pure (ds := []) rfl fun K7 hK7 => ?_
      simp only [sx, ty, q1, q2, q5, q6, q7, q8, q9, qa, qb, reduceIte, sy, q3, q4]; with_reducible refine hK7 _ ?_; clear hK7
      refine W.cond rfl rfl (fun hc => ?_) (fun hc => ?_)
      · skip
        (simp at hc; omega)
      · skip
        refine W.skip (hK6 _ ?_)
        refine W.seqK fun K8 hK8 => W.region ?_
        refine WO.go 3 (ds := []) rfl ?_
        simp only [sx, ty, q1, q2, q5, q6, q7, q8, q9, qa, qb, reduceIte, sy, q3, q4, hn8]
        refine WO.strIdx (ds := []) rfl rfl rfl rfl rfl rfl Tryz.underlying9 (m := 256) (by decide +kernel) h0 (by omega) fun v => ?_
        refine WO.go 3 (ds := []) rfl ?_
        simp only [sx, ty, q1, q2, q5, q6, q7, q8, q9, qa, qb, reduceIte, sy, q3, q4, hn8]
        with_reducible refine WO.nil ?_
        refine hK8 _ ?_; clear hK8
        refine W.ret ⟨by simp, _, rfl, fun ρ w1 hb => ?_⟩
        exact ⟨_, rfl⟩
/-- function 72 -/
theorem len_spec (w : World) (n : Int) (h0 : 0 ≤ n) (h1 : n ≤ 255) : Gives Tryz.prog 72 #[.int .u64 n] w fun r _ => ∃ m : Int, r = .int .i64 m := by
  refine gives_of [.val (.int .u64 n)] 8 [.tmp 2] Tryz.func72 rfl rfl rfl (by simp) rfl rfl ?_
  refine W.pure (ds := []) rfl fun K1 hK1 => ?_
  simp only [sx, ty, q1, q2, q5, q6, q7, q8, q9, qa, qb, reduceIte, sy, q3, q4]; with_reducible refine hK1 _ ?_; clear hK1
  refine W.seqK fun K2 hK2 => ?_
  refine W.condF ?_
  refine W.skip (hK2 _ ?_)
  refine W.seqK fun K3 hK3 => W.region ?_
  refine WO.go 1 (ds := []) rfl ?_
  simp only [sx, ty, q1, q2, q5, q6, q7, q8, q9, qa, qb, reduceIte, sy, q3, q4]
  refine WO.callX (fun m : Int => .int .i64 m) (fun _ => True) (ds := []) rfl rfl rfl rfl co89 (fun ρ w1 hb => (len64_spec w1 n h0 h1).mono fun v _ _ ⟨m, hm⟩ => ⟨m, hm, trivial⟩) fun m _ => ?_
  refine WO.go 1 (ds := []) rfl ?_
  simp only [sx, ty, q1, q2, q5, q6, q7, q8, q9, qa, qb, reduceIte, sy, q3, q4]
  with_reducible refine WO.nil ?_
  refine hK3 _ ?_; clear hK3
  refine W.ret ⟨by simp, _, rfl, fun ρ w1 hb => ?_⟩
  exact ⟨_, rfl⟩
/-- function 103 -/
theorem isNaN_spec (w : World) (n : Int) : Gives Tryz.prog 103 #[.int .i64 n] w fun r _ => r = .bool false := by
  refine gives_of [.val (.int .i64 n)] 6 [.tmp 2] Tryz.func103 rfl rfl rfl (by simp) rfl rfl ?_
  refine W.pure (ds := []) rfl fun K1 hK1 => ?_
  simp only [sx, ty, q1, q2, q5, q6, q7, q8, q9, qa, qb, reduceIte, sy, q3, q4]; with_reducible refine hK1 _ ?_; clear hK1
  refine W.pure (ds := []) rfl fun K2 hK2 => ?_
  simp only [sx, ty, q1, q2, q5, q6, q7, q8, q9, qa, qb, reduceIte, sy, q3, q4]; with_reducible refine hK2 _ ?_; clear hK2
  refine W.ret ⟨by simp, _, rfl, fun ρ w1 hb => ?_⟩
  simp [den]
/-- function 85 -/
theorem less_spec (w : World) (a b : Int) : Gives Tryz.prog 85 #[.int .i64 a, .int .i64 b] w fun r _ => r = .bool (decide (a < b)) := by
  refine gives_of [.val (.int .i64 a), .val (.int .i64 b)] 17 [.tmp 4] Tryz.func85 rfl rfl rfl (by simp) rfl rfl ?_
  refine W.pure (ds := []) rfl fun K1 hK1 => ?_
  simp only [sx, ty, q1, q2, q5, q6, q7, q8, q9, qa, qb, reduceIte, sy, q3, q4]; with_reducible refine hK1 _ ?_; clear hK1
  refine W.seqK fun K2 hK2 => W.region ?_
  refine WO.go 1 (ds := [some 5, some 6, some 7, some 8, some 9, some 10, some 11, some 12, some 13, some 14, some 15, some 16, some 4]) rfl ?_
  simp only [sx, ty, q1, q2, q5, q6, q7, q8, q9, qa, qb, reduceIte, sy, q3, q4]
  refine WO.call (.bool false) (ds := [some 5, some 6, some 7, some 8, some 9, some 10, some 11, some 12, some 13, some 14, some 15, some 16, some 4]) rfl rfl rfl rfl co103 (fun ρ w1 hb => isNaN_spec w1 a) ?_
  refine WO.go 11 (ds := [some 5, some 6, some 7, some 8, some 9, some 10, some 11, some 12, some 13, some 14, some 15, some 16, some 4]) rfl ?_
  simp only [sx, ty, q1, q2, q5, q6, q7, q8, q9, qa, qb, reduceIte, sy, q3, q4]
  with_reducible refine WO.nil ?_
  refine hK2 _ ?_; clear hK2
  refine W.ret ⟨by simp, _, rfl, fun ρ w1 hb => ?_⟩
  rfl
/-- function 79 -/
theorem isort_spec {w : World} {l : List Int} {n c : Nat} {q : Option Addr} (hn : l.length = n) (hn2 : n ≤ 1000) (hlie : Lie [OIN n l (q, c)] w) : GivesB Tryz.prog 79 #[.slice q n c, .int .i64 0, .int .i64 (n : Int)] w (ofOwn [OIN n l (q, c)]) fun r w' => ∃ l' : List Int, r = .tuple #[] ∧ l'.length = n ∧ TurnL [OIN n l (q, c)] [OIN n l' (q, c)] w w' := by
  have hw1 : IntKind.i64.wrap 1 = 1 := rfl
  refine givesL_of [OIN n l (q, c)] [.val (.slice q n c), .val (.int .i64 0), .val (.int .i64 (n : Int))] 49 [] Tryz.func79 rfl rfl rfl (by simp) rfl rfl rfl hlie ?_
  refine W.pure (ds := []) rfl fun K1 hK1 => ?_
  simp only [sx, ty, q1, q2, q5, q6, q7, q8, q9, qa, qb, reduceIte, sy, q3, q4]; with_reducible refine hK1 _ ?_; clear hK1
  refine W.block ?_
  refine W.loopO (X := Nat × List Int) [0, 1, 2] (fun x => [(6, .val (.int .i64 x.1))]) (fun x => [OIN n x.2 (q, c)]) (fun x => [((fun b => ¬ ofOwn [OIN n l (q, c)] b), w)]) (fun x => 1 ≤ x.1 ∧ x.1 ≤ n + 1 ∧ x.2.length = n) (fun x => n + 1 - x.1) (1, l) ?_ ?_ ?_
  · exact ⟨rfl, by simp [getE, bnd, keepE, hw1], ⟨[], by simp⟩, by simp [Own.bnd, bndL, bnd, boxO, OIN], by simp⟩
  · skip
    exact ⟨Nat.le_refl _, by simp only; omega, hn⟩
  · rintro ⟨i, t0⟩ ⟨hi1, hi, hI0⟩
    simp only at hi1 hi hI0
    simp only [sx, ty, q1, q2, q5, q6, q7, q8, q9, qa, qb, reduceIte, sxk, sy, q3, q4]
    refine W.seqK fun K2 hK2 => ?_
    refine W.pure (ds := []) rfl fun K3 hK3 => ?_
    simp only [sx, ty, q1, q2, q5, q6, q7, q8, q9, qa, qb, reduceIte, sy, q3, q4]; with_reducible refine hK3 _ ?_; clear hK3
    refine W.cond rfl rfl (fun hc => ?_) (fun hc => ?_)
    · skip
      have hlt : i < n := by simpa using hc
      refine W.skip (hK2 _ ?_)
      refine W.seqK fun K4 hK4 => ?_
      refine W.block ?_
      refine W.pure (ds := []) rfl fun K5 hK5 => ?_
      simp only [sx, ty, q1, q2, q5, q6, q7, q8, q9, qa, qb, reduceIte, sy, q3, q4]; with_reducible refine hK5 _ ?_; clear hK5
      refine W.block ?_
      refine W.loopO (X := Nat × List Int) [0, 1, 2, 6] (fun x => [(7, .val (.int .i64 x.1))]) (fun x => [OIN n x.2 (q, c)]) (fun x => [((fun b => ¬ ofOwn [OIN n l (q, c)] b), w)]) (fun x => x.1 ≤ i ∧ x.2.length = n) (fun x => x.1) (i, t0) ?_ ?_ ?_
      · exact ⟨rfl, by simp [getE, bnd, keepE], ⟨[], by simp⟩, by simp [Own.bnd, bndL, bnd, boxO, OIN], by simp⟩
      · skip
        exact ⟨Nat.le_refl _, hI0⟩
      · rintro ⟨j, t⟩ hI
        simp only at hI
        have hji := hI.1
        have htl := hI.2
        simp only [sx, ty, q1, q2, q5, q6, q7, q8, q9, qa, qb, reduceIte, sxk, sy, q3, q4]
        refine W.seqK fun K6 hK6 => ?_
        refine W.ownAddr (k := 0) rfl (by omega) fun b2 hb2 => ?_
        simp only at hb2
        subst hb2
        refine W.join 30 (.val (.bool (decide (0 < j) && decide (t.getD j 0 < t.getD (j - 1) 0)))) [0, 1, 2, 6, 7] (W.regionQ mixed (by kernel_rfl) ?_) ?_
        · skip
          refine WQ.go 4 (ds := [some 16, some 17, some 18, some 19, some 20, some 21, some 22, some 23, some 24, some 25, some 26, some 27, some 28, some 29, some 30]) rfl ?_
          simp only [sx, ty, q1, q2, q5, q6, q7, q8, q9, qa, qb, reduceIte, sxq, sy, q3, q4]
          refine WQ.cases 19 _ rfl (fun hg19 => ?_) (fun hg19 => ?_)
          · skip
            have hj0 : 0 < j := by simpa using hg19
            obtain ⟨y, hy⟩ := len_lt htl (show j < n by omega)
            obtain ⟨z, hz⟩ := len_lt htl (show j - 1 < n by omega)
            have hj1 : IntKind.i64.wrap ((j : Int) - 1) = ((j - 1 : Nat) : Int) := by rw [wrap_id (by omega) (by omega)]; omega
            refine WQ.go 2 (ds := [some 16, some 17, some 18, some 19, some 20, some 21, some 22, some 23, some 24, some 25, some 26, some 27, some 28, some 29, some 30]) rfl ?_
            simp only [sx, ty, q1, q2, q5, q6, q7, q8, q9, qa, qb, reduceIte, sxq, sy, q3, q4]
            refine WQ.q (ds := [some 16, some 17, some 18, some 19, some 20, some 21, some 22, some 23, some 24, some 25, some 26, some 27, some 28, some 29, some 30]) rfl rfl rfl (QR.idx rfl rfl rfl el27 (by omega) (by omega)) ?_
            refine WQ.q (ds := [some 16, some 17, some 18, some 19, some 20, some 21, some 22, some 23, some 24, some 25, some 26, some 27, some 28, some 29, some 30]) rfl rfl rfl (QR.load [Value.int .i64 y] false rfl rfl agg3 sz3 (.inr rfl) (fun ρ w1 hb => own_elem_at (k := 0) (i := j) hb rfl (map_get (Value.int .i64) hy))) ?_
            simp only [List.drop_succ_cons, List.drop_zero, List.take_succ_cons, List.take_zero, ofCells, Bool.false_eq_true, if_false, List.headD_cons]
            refine WQ.go 3 (ds := [some 16, some 17, some 18, some 19, some 20, some 21, some 22, some 23, some 24, some 25, some 26, some 27, some 28, some 29, some 30]) rfl ?_
            simp only [sx, ty, q1, q2, q5, q6, q7, q8, q9, qa, qb, reduceIte, sxq, sy, q3, q4]
            simp only [hj1]
            refine WQ.q (ds := [some 16, some 17, some 18, some 19, some 20, some 21, some 22, some 23, some 24, some 25, some 26, some 27, some 28, some 29, some 30]) rfl rfl rfl (QR.idx rfl rfl rfl el27 (by omega) (by omega)) ?_
            refine WQ.q (ds := [some 16, some 17, some 18, some 19, some 20, some 21, some 22, some 23, some 24, some 25, some 26, some 27, some 28, some 29, some 30]) rfl rfl rfl (QR.load [Value.int .i64 z] false rfl rfl agg3 sz3 (.inr rfl) (fun ρ w1 hb => own_elem_at (k := 0) (i := (j - 1)) hb rfl (map_get (Value.int .i64) hz))) ?_
            simp only [List.drop_succ_cons, List.drop_zero, List.take_succ_cons, List.take_zero, ofCells, Bool.false_eq_true, if_false, List.headD_cons]
            simp only [sx, ty, q1, q2, q5, q6, q7, q8, q9, qa, qb, reduceIte, sy, q3, q4]
            refine WQ.call (.bool (decide (y < z))) (ds := [some 16, some 17, some 18, some 19, some 20, some 21, some 22, some 23, some 24, some 25, some 26, some 27, some 28, some 29, some 30]) rfl rfl rfl rfl co85 (fun ρ w1 hb => less_spec w1 y z) ?_
            refine WQ.go 1 (ds := [some 16, some 17, some 18, some 19, some 20, some 21, some 22, some 23, some 24, some 25, some 26, some 27, some 28, some 29, some 30]) rfl ?_
            simp only [sx, ty, q1, q2, q5, q6, q7, q8, q9, qa, qb, reduceIte, sxq, sy, q3, q4]
            with_reducible refine WQ.nil ?_
            refine ⟨rfl, ?_, ⟨_, rfl⟩, by simp [Own.bnd, bndL, bnd, boxO, OIN], by simp⟩
            try simp [getE, bnd, keepE, getD_some hy, getD_some hz, hj0, -List.getD_eq_getElem?_getD]
            try simp [getE, bnd, keepE, hj0]
          · skip
            have hj0 : ¬ 0 < j := by simpa using hg19
            refine WQ.go 11 (ds := [some 16, some 17, some 18, some 19, some 20, some 21, some 22, some 23, some 24, some 25, some 26, some 27, some 28, some 29, some 30]) rfl ?_
            simp only [sx, ty, q1, q2, q5, q6, q7, q8, q9, qa, qb, reduceIte, sxq, sy, q3, q4]
            with_reducible refine WQ.nil ?_
            refine ⟨rfl, ?_, ⟨_, rfl⟩, by simp [Own.bnd, bndL, bnd, boxO, OIN], by simp⟩
            try simp [getE, bnd, keepE, getD_some hy, getD_some hz, hj0, -List.getD_eq_getElem?_getD]
            try simp [getE, bnd, keepE, hj0]
        · simp only [sx, ty, q1, q2, q5, q6, q7, q8, q9, qa, qb, reduceIte, sxk, sy, q3, q4]
          refine W.cond rfl rfl (fun hc => ?_) (fun hc => ?_)
          · skip
            have hb9 : 0 < j ∧ t.getD j 0 < t.getD (j - 1) 0 := by simpa [-List.getD_eq_getElem?_getD] using hc
            have hj0 := hb9.1
            obtain ⟨y, hy⟩ := len_lt htl (show j < n by omega)
            obtain ⟨z, hz⟩ := len_lt htl (show j - 1 < n by omega)
            have hj1 : IntKind.i64.wrap ((j : Int) - 1) = ((j - 1 : Nat) : Int) := by rw [wrap_id (by omega) (by omega)]; omega
            refine W.skip (hK6 _ ?_)
            refine W.seqK fun K8 hK8 => ?_
            refine W.block ?_
            refine W.regionW 14 [2, 3, 4] [0, 1, 5, 6, 7, 8, 9, 10, 11, 12, 13] mixed (by kernel_rfl) ?_
            refine WT.move rfl rfl rfl rfl rfl ?_
            simp only [sx, ty, q1, q2, q5, q6, q7, q8, q9, qa, qb, reduceIte, sy, q3, q4, hj1]
            refine WT.move rfl rfl rfl rfl rfl ?_
            simp only [sx, ty, q1, q2, q5, q6, q7, q8, q9, qa, qb, reduceIte, sy, q3, q4, hj1]
            refine WT.bin rfl rfl rfl rfl rfl rfl (r_sub _ _ _ _) ?_
            simp only [sx, ty, q1, q2, q5, q6, q7, q8, q9, qa, qb, reduceIte, sy, q3, q4, hj1]
            refine WT.nil ?_
            simp only [sx, ty, q1, q2, q5, q6, q7, q8, q9, qa, qb, reduceIte, sxt, List.toList_toArray, sy, q3, q4, hj1]
            refine WQ.go 5 (ds := []) rfl ?_
            simp only [sx, ty, q1, q2, q5, q6, q7, q8, q9, qa, qb, reduceIte, sxq, sy, q3, q4, hj1]
            refine WQ.q (ds := []) rfl rfl rfl (QR.idx rfl rfl rfl el27 (by omega) (by omega)) ?_
            refine WQ.q (ds := []) rfl rfl rfl (QR.load [Value.int .i64 z] false rfl rfl agg3 sz3 (.inr rfl) (fun ρ w1 hb => own_elem_at (k := 0) (i := (j - 1)) hb rfl (map_get (Value.int .i64) hz))) ?_
            simp only [List.drop_succ_cons, List.drop_zero, List.take_succ_cons, List.take_zero, ofCells, Bool.false_eq_true, if_false, List.headD_cons]
            refine WQ.go 2 (ds := []) rfl ?_
            simp only [sx, ty, q1, q2, q5, q6, q7, q8, q9, qa, qb, reduceIte, sxq, sy, q3, q4, hj1]
            refine WQ.q (ds := []) rfl rfl rfl (QR.idx rfl rfl rfl el27 (by omega) (by omega)) ?_
            refine WQ.q (ds := []) rfl rfl rfl (QR.load [Value.int .i64 y] false rfl rfl agg3 sz3 (.inr rfl) (fun ρ w1 hb => own_elem_at (k := 0) (i := j) hb rfl (map_get (Value.int .i64) hy))) ?_
            simp only [List.drop_succ_cons, List.drop_zero, List.take_succ_cons, List.take_zero, ofCells, Bool.false_eq_true, if_false, List.headD_cons]
            simp only [sx, ty, q1, q2, q5, q6, q7, q8, q9, qa, qb, reduceIte, sy, q3, q4, hj1]
            with_reducible refine WQ.nil ?_
            try simp only [sx, ty, q1, q2, q5, q6, q7, q8, q9, qa, qb, reduceIte, sxt, List.toList_toArray, List.drop_succ_cons, List.drop_zero, sy, q3, q4, hj1]
            refine WO.q (ds := []) rfl rfl rfl (QR.idx rfl rfl rfl el27 (by omega) (by omega)) ?_
            simp only [sx, ty, q1, q2, q5, q6, q7, q8, q9, qa, qb, reduceIte, sy, q3, q4, hj1]
            refine WO.storeOwn (k := 0) (i := j) (ds := []) rfl rfl rfl rfl rfl rfl rfl (by omega) rfl rfl sz3 ?_
            rw [show ((t.map (Value.int .i64)).set j (.int .i64 z)) = (t.set j z).map (.int .i64) by rw [List.map_set]]
            simp only [sx, ty, q1, q2, q5, q6, q7, q8, q9, qa, qb, reduceIte, sy, q3, q4, hj1]
            refine WO.q (ds := []) rfl rfl rfl (QR.idx rfl rfl rfl el27 (by omega) (by omega)) ?_
            simp only [sx, ty, q1, q2, q5, q6, q7, q8, q9, qa, qb, reduceIte, sy, q3, q4, hj1]
            refine WO.storeOwn (k := 0) (i := j - 1) (ds := []) rfl rfl rfl rfl rfl rfl rfl (by omega) rfl rfl sz3 ?_
            rw [show (((t.set j z).map (Value.int .i64)).set (j - 1) (.int .i64 y)) = ((t.set j z).set (j - 1) y).map (.int .i64) by rw [← List.map_set]]
            simp only [sx, ty, q1, q2, q5, q6, q7, q8, q9, qa, qb, reduceIte, sy, q3, q4, hj1]
            with_reducible refine WO.nil ?_
            refine hK8 _ ?_
            refine W.region ?_
            refine WO.go 3 (ds := []) rfl ?_
            simp only [sx, ty, q1, q2, q5, q6, q7, q8, q9, qa, qb, reduceIte, sy, q3, q4, hj1, hj1]
            with_reducible refine WO.nil ?_
            refine ⟨(j - 1, (t.set j z).set (j - 1) y), ⟨by simp only; omega, by simp [htl]⟩, by simp only; omega, rfl, by simp [getE, bnd, keepE], ⟨[], by simp [OIN]⟩, by simp [Own.bnd, bndL, bnd, OIN], by simp⟩
          · skip
            refine W.exit (hK4 _ ?_)
            refine W.region ?_
            refine WO.go 3 (ds := []) rfl ?_
            simp only [sx, ty, q1, q2, q5, q6, q7, q8, q9, qa, qb, reduceIte, sy, q3, q4]
            with_reducible refine WO.nil ?_
            refine ⟨(i + 1, t), ⟨by simp only; omega, by simp only; omega, hI.2⟩, by simp only; omega, rfl, by simp [getE, bnd, keepE, wrap_succ (show i + 1 ≤ 9223372036854775807 by omega)], ⟨[], by simp⟩, by simp [Own.bnd, bndL, bnd, OIN], by simp⟩
    · skip
      have hge : n ≤ i := by simpa using hc
      refine W.exit ?_
      refine ⟨by simp, ?_⟩
      simp only [sx, ty, q1, q2, q5, q6, q7, q8, q9, qa, qb, reduceIte, sxr, sy, q3, q4]
      intro ρ w1 hb
      exact ⟨t0, rfl, hI0, turnL_of hb (by simp) rfl rfl⟩
/-- function 71 -/
theorem pdq_spec {w : World} {l : List Int} {n c : Nat} {q : Option Addr} {lim : Int} (hn : l.length = n) (hn2 : n ≤ 12) (hlie : Lie [OIN n l (q, c)] w) : GivesB Tryz.prog 71 #[.slice q n c, .int .i64 0, .int .i64 (n : Int), .int .i64 lim] w (ofOwn [OIN n l (q, c)]) fun r w' => ∃ l' : List Int, r = .tuple #[] ∧ l'.length = n ∧ TurnL [OIN n l (q, c)] [OIN n l' (q, c)] w w' := by
  have hwn : IntKind.i64.wrap ((n : Int) - 0) = (n : Int) := by rw [wrap_id (by omega) (by omega)]; omega
  refine givesL_of [OIN n l (q, c)] [.val (.slice q n c), .val (.int .i64 0), .val (.int .i64 (n : Int)), .val (.int .i64 lim)] 134 [] Tryz.func71 rfl rfl rfl (by simp) rfl rfl rfl hlie ?_
  refine W.pure (ds := []) rfl fun K1 hK1 => ?_
  simp only [sx, ty, q1, q2, q5, q6, q7, q8, q9, qa, qb, reduceIte, sy, q3, q4]; with_reducible refine hK1 _ ?_; clear hK1
  refine W.pure (ds := []) rfl fun K2 hK2 => ?_
  simp only [sx, ty, q1, q2, q5, q6, q7, q8, q9, qa, qb, reduceIte, sy, q3, q4]; with_reducible refine hK2 _ ?_; clear hK2
  refine W.block ?_
  refine W.loopO (X := Unit) [0] (fun x => [(1, .val (.int .i64 0)), (2, .val (.int .i64 (n : Int))), (3, .val (.int .i64 lim)), (8, .val (.bool true)), (9, .val (.bool true))]) (fun x => [OIN n l (q, c)]) (fun x => [((fun b => ¬ ofOwn [OIN n l (q, c)] b), w)]) (fun x => True) (fun x => 0) () ?_ ?_ ?_
  · exact ⟨rfl, by simp [getE, bnd, keepE], ⟨[], by simp⟩, by simp [Own.bnd, bndL, bnd, boxO, OIN], by simp⟩
  · skip
    trivial
  · rintro _ _
    simp only [sx, ty, q1, q2, q5, q6, q7, q8, q9, qa, qb, reduceIte, sxk, sy, q3, q4]
    refine W.block ?_
    refine W.pure (ds := []) rfl fun K3 hK3 => ?_
    simp only [sx, ty, q1, q2, q5, q6, q7, q8, q9, qa, qb, reduceIte, sy, q3, q4, hwn]; with_reducible refine hK3 _ ?_; clear hK3
    refine W.seqK fun K4 hK4 => ?_
    refine W.pure (ds := []) rfl fun K5 hK5 => ?_
    simp only [sx, ty, q1, q2, q5, q6, q7, q8, q9, qa, qb, reduceIte, sy, q3, q4, hwn, hwn]; with_reducible refine hK5 _ ?_; clear hK5
    refine W.cond rfl rfl (fun hc => ?_) (fun hc => ?_)
    rotate_left
    · skip
      (simp at hc; omega)
    · skip
      refine W.seqK fun K6 hK6 => W.region ?_
      refine WO.go 3 (ds := []) rfl ?_
      simp only [sx, ty, q1, q2, q5, q6, q7, q8, q9, qa, qb, reduceIte, sy, q3, q4, hwn, hwn]
      refine WO.callL (own := [OIN n l (q, c)]) [0] (fun _ : List Int => .tuple #[]) (fun l' => [OIN n l' (q, c)]) (fun _ l' _ => l'.length = n) (ds := []) rfl rfl rfl rfl co79 ⟨rfl, trivial⟩ (by decide) rfl (fun _ => rfl) (fun _ => rfl) (fun ρ w1 hb hlie => Calls.mono (isort_spec hn (by omega) hlie) fun e w2 ⟨v, he, hk, l', h1, h2, h3⟩ => ⟨v, he, hk, l', h1, h2, h3⟩) fun l' lo s8 hl' => ?_
      refine WO.ownIs [OIN n l' (q, c)] rfl ?_
      simp only [sx, ty, q1, q2, q5, q6, q7, q8, q9, qa, qb, reduceIte, sy, q3, q4, hwn, hwn]
      with_reducible refine WO.nil ?_
      refine hK6 _ ?_; clear hK6
      refine W.ret ?_
      refine ⟨by simp, ?_⟩
      simp only [sx, ty, q1, q2, q5, q6, q7, q8, q9, qa, qb, reduceIte, sxr, sy, q3, q4, hwn, hwn]
      intro ρ w1 hb
      exact ⟨l', rfl, hl', turnL_of hb (by simp) rfl rfl⟩
/-- function 46 -/
theorem sort_spec {w : World} {l : List Int} {n c : Nat} {q : Option Addr} (hn : l.length = n) (hn2 : n ≤ 12) (hlie : Lie [OIN n l (q, c)] w) : GivesB Tryz.prog 46 #[.slice q n c] w (ofOwn [OIN n l (q, c)]) fun r w' => ∃ l' : List Int, r = .tuple #[] ∧ l'.length = n ∧ TurnL [OIN n l (q, c)] [OIN n l' (q, c)] w w' := by
  have hwn : IntKind.u64.wrap (n : Int) = (n : Int) := by simp only [IntKind.wrap, IntKind.signed, IntKind.bits]; simp; omega
  refine givesL_of [OIN n l (q, c)] [.val (.slice q n c)] 11 [] Tryz.func46 rfl rfl rfl (by simp) rfl rfl rfl hlie ?_
  refine W.pure (ds := []) rfl fun K1 hK1 => ?_
  simp only [sx, ty, q1, q2, q5, q6, q7, q8, q9, qa, qb, reduceIte, sy, q3, q4]; with_reducible refine hK1 _ ?_; clear hK1
  refine W.region ?_
  refine WO.go 4 (ds := []) rfl ?_
  simp only [sx, ty, q1, q2, q5, q6, q7, q8, q9, qa, qb, reduceIte, sy, q3, q4, hwn]
  refine WO.callX (fun m : Int => .int .i64 m) (fun _ => True) (ds := []) rfl rfl rfl rfl co72 (fun ρ w1 hb => (len_spec w1 n (by omega) (by omega)).mono fun v _ _ ⟨m, hm⟩ => ⟨m, hm, trivial⟩) fun m _ => ?_
  simp only [sx, ty, q1, q2, q5, q6, q7, q8, q9, qa, qb, reduceIte, sy, q3, q4, hwn]
  refine WO.callL (own := [OIN n l (q, c)]) [0] (fun _ : List Int => .tuple #[]) (fun l' => [OIN n l' (q, c)]) (fun _ l' _ => l'.length = n) (ds := []) rfl rfl rfl rfl co71 ⟨rfl, trivial⟩ (by decide) rfl (fun _ => rfl) (fun _ => rfl) (fun ρ w1 hb hlie => Calls.mono (pdq_spec hn hn2 hlie) fun e w2 ⟨v, he, hk, l', h1, h2, h3⟩ => ⟨v, he, hk, l', h1, h2, h3⟩) fun l' lo s8 hl' => ?_
  refine WO.ownIs [OIN n l' (q, c)] rfl ?_
  simp only [sx, ty, q1, q2, q5, q6, q7, q8, q9, qa, qb, reduceIte, sy, q3, q4, hwn]
  with_reducible refine WO.nil ?_
  refine ⟨by simp, ?_⟩
  simp only [sx, ty, q1, q2, q5, q6, q7, q8, q9, qa, qb, reduceIte, sxr, sy, q3, q4, hwn]
  intro ρ w1 hb
  exact ⟨l', rfl, hl', turnL_of hb (by simp) rfl rfl⟩
end Go.Proofs.YtolmeekbjonbcaaGreat
set_option linter.unusedVariables false
namespace Go.SX
open Go Go.RowKit
section
variable {P : Program} {ops : Array Oper} {md : Region.Mode} {C : World → Prop} {Q : Exit → Act → World → Prop}
def wpAnyC (P : Program) (md : Region.Mode) (ops : Array Oper) (C : World → Prop) (Q : Exit → Act → World → Prop) : Nat → Array Bool → Act → World → Prop
  | 0, listed, a, w => Region.ready md ops listed = [] ∧ Q .normal a w
  | fuel + 1, listed, a, w =>
    (Region.ready md ops listed = [] → Q .normal a w) ∧
    ∀ i ∈ Region.ready md ops listed, wpOp P ops Q i (fun a' w' => C w' ∧ wpAnyC P md ops C Q fuel (listed.setIfInBounds i true) a' w') a w
theorem wpAny_of_C : ∀ (fuel : Nat) (listed : Array Bool) (a : Act) (w : World), wpAnyC P md ops C Q fuel listed a w → wpAny P md ops Q fuel listed a w
  | 0, _, _, _, h => h
  | fuel + 1, listed, a, w, h => ⟨h.1, fun i hi => wpOp_mono (fun a' w' h' => wpAny_of_C fuel _ a' w' h'.2) (h.2 i hi)⟩
/-- in every world of the class it yields v, and leaves the world as it is -/
def YieldsC (P : Program) (ops : Array Oper) (C : World → Prop) (o : Oper) (v : Value) (a : Act) : Prop :=
  Region.wanted o (yielded ops a.tmps) = true ∧ ∀ w, C w → (execOp a.eval o).run P w = .ok (.value v) w
theorem YieldsC.of_same {o : Oper} {v : Value} {a a' : Act} (hy : YieldsC P ops C o v a) (he : execOp a'.eval o = execOp a.eval o)
    (hw : Region.wanted o (yielded ops a'.tmps) = Region.wanted o (yielded ops a.tmps)) : YieldsC P ops C o v a' := by
  unfold YieldsC at *
  rw [he, hw]
  exact hy
theorem YieldsC.wpOp {i : Nat} {o : Oper} {v : Value} {a : Act} {w : World} (hi : ops[i]? = some o) (hy : YieldsC P ops C o v a) (hC : C w) {K : Act → World → Prop} (h : K (a.put o.dst v) w) : wpOp P ops Q i K a w := by
  unfold Go.wpOp
  simp only [hi]
  simp only [hy.1, if_true, Oper.wp, hy.2 w hC, Oper.upon]; exact .inl h
theorem wpOp_putC {j : Nat} {oi oj : Oper} {v : Value} (hj : ops[j]? = some oj) (hap : oi.apart ops oj = true)
    (hsi : ∀ cs b, oi.op ≠ .select cs b) (hsj : ∀ cs b, oj.op ≠ .select cs b)
    (hQ : ∀ c a w, Q (.panic c) (a.put oi.dst v) w → Q (.panic c) a w) {K : Act → World → Prop} {a : Act} {w : World}
    (hy : YieldsC P ops C oi v a) (h : wpOp P ops Q j K (a.put oi.dst v) w) :
    wpOp P ops Q j (fun a' w' => YieldsC P ops C oi v a' ∧ K (a'.put oi.dst v) w') a w := by
  obtain ⟨h1, h2, h3⟩ := Oper.apart_spec hap
  have keep : ∀ (a : Act), YieldsC P ops C oi v a → ∀ u, YieldsC P ops C oi v (a.put oj.dst u) := fun a hy u =>
    hy.of_same (execOp_put oi hsi a oj.dst u h3) (wanted_put oi a oj.dst u h3)
  have keepD : ∀ d, YieldsC P ops C oi v { a with defers := d :: a.defers } := fun d => hy.of_same rfl rfl
  unfold wpOp at *
  simp only [hj] at *
  rw [wanted_put oj a oi.dst v h1] at h
  split
  · rename_i hw
    simp only [hw, if_true] at h
    rcases h with h | ⟨hasks, hlets⟩
    case inr => exact .inr ⟨by unfold Oper.asks at *; rw [execOp_put oj hsj a oi.dst v h1] at hasks; exact hasks, hlets⟩
    refine .inl ?_
    unfold Oper.wp at *
    rw [execOp_put oj hsj a oi.dst v h1] at h
    generalize (execOp a.eval oj).run P w = r at *
    cases r with
    | ok n w' =>
      cases n <;> simp only [Oper.upon] at h ⊢
      case value u => exact ⟨keep a hy u, by rw [← Act.put_comm a v u h2]; exact h⟩
      case skip => exact ⟨keep a hy _, by rw [← Act.put_comm a v undef h2]; exact h⟩
      case defer d =>
        refine ⟨keep _ (keepD d) _, ?_⟩
        rw [← Act.put_comm _ v undef h2, ← Act.put_defers]
        exact h
      case enter f args =>
        refine Calls.mono h fun e w'' he => ?_
        cases e with
        | returned u => exact ⟨keep a hy u, by rw [← Act.put_comm a v u h2]; exact he⟩
        | panicked c => exact hQ _ _ _ he
        | outgrown => exact he
      case row row args => exact Rows.mono h fun u w'' he => ⟨keep a hy u, by rw [← Act.put_comm a v u h2]; exact he⟩
    | halt x w' =>
      cases x <;> simp only [Oper.upon] at h ⊢
      case panic u => exact hQ _ _ _ h
  · rename_i hw
    simp only [hw] at h
    exact ⟨keep a hy _, by rw [← Act.put_comm a v undef h2]; exact h⟩
theorem wpAnyC_first {i : Nat} {oi : Oper} {v : Value} (hi : ops[i]? = some oi) (hsel : ∀ (j : Nat) (o : Oper) cs b, ops[j]? = some o → o.op ≠ .select cs b)
    (hQ : ∀ c a w, ¬ Q (.panic c) a w) :
    ∀ (fuel : Nat) (listed : Array Bool) (a : Act) (w : World), C w →
      (∀ j oj, ops[j]? = some oj → j ≠ i → listed.getD j true = false → (∀ e ∈ oj.after, Region.binds md e = true → e.on ≠ i) → oi.apart ops oj = true) →
      i ∈ Region.ready md ops listed → YieldsC P ops C oi v a →
      wpAnyC P md ops C Q fuel (listed.setIfInBounds i true) (a.put oi.dst v) w → wpAnyC P md ops C Q (fuel + 1) listed a w := by
  intro fuel
  induction fuel with
  | zero =>
    intro listed a w hC _ hr hy H
    refine ⟨fun h => (by rw [h] at hr; cases hr), fun j hj => ?_⟩
    by_cases hji : j = i
    · subst hji; exact hy.wpOp hi hC ⟨hC, H⟩
    · have := ready_mono hj hji
      rw [H.1] at this
      cases this
  | succ fuel ih =>
    intro listed a w hC hfree hr hy H
    refine ⟨fun h => (by rw [h] at hr; cases hr), fun j hj => ?_⟩
    by_cases hji : j = i
    · subst hji; exact hy.wpOp hi hC ⟨hC, H⟩
    · have h1 := H.2 j (ready_mono hj hji)
      obtain ⟨hjun, oj, hoj, hall⟩ := mem_ready.1 hj
      have hnot : ∀ e ∈ oj.after, Region.binds md e = true → e.on ≠ i := fun e he hb heq => by
        have h1 := hall e he hb
        have h0 := (mem_ready.1 hr).1
        rw [heq] at h1
        rcases Nat.lt_or_ge i listed.size with h' | h'
        · simp [h'] at h0 h1; rw [h0] at h1; cases h1
        · simp [Array.getElem?_eq_none h'] at h1
      have h2 := wpOp_putC hoj (hfree j oj hoj hji hjun hnot) (fun cs b => hsel i oi cs b hi) (fun cs b => hsel j oj cs b hoj) (fun c a w h => absurd h (hQ c _ w)) hy h1
      have hfree' : ∀ k ok, ops[k]? = some ok → k ≠ i → (listed.setIfInBounds j true).getD k true = false →
          (∀ e ∈ ok.after, Region.binds md e = true → e.on ≠ i) → oi.apart ops ok = true := fun k ok hk hki hun hno => by
        refine hfree k ok hk hki ?_ hno
        by_cases hjk : j = k
        · subst hjk; exact hjun
        · rw [getD_set_ne true hjk] at hun; exact hun
      refine wpOp_mono (fun a' w' h3 => ⟨h3.2.1, ih (listed.setIfInBounds j true) a' w' h3.2.1 hfree' (ready_mono hr (Ne.symm hji)) h3.1 ?_⟩) h2
      rw [Array.setIfInBounds_comm _ _ hji]
      exact h3.2.2
/-- the floating ones may be taken in this order -/
def floatB (md : Region.Mode) (ops : Array Oper) : List Nat → Array Bool → Bool
  | [], _ => true
  | k :: T, listed => (Region.ready md ops listed).contains k && Region.free md ops listed k && floatB md ops T (listed.setIfInBounds k true)
/-- the others have one order -/
def chainR (md : Region.Mode) (ops : Array Oper) : List Nat → Array Bool → Bool
  | [], listed => Region.ready md ops listed == []
  | k :: T, listed => Region.ready md ops listed == [k] && chainR md ops T (listed.setIfInBounds k true)
theorem upon_monoE {o : Oper} {a : Act} {next next' : Act → World → Prop} {Q Q' : Exit → Act → World → Prop} (hn : ∀ a w, next a w → next' a w) (hE : ∀ e a w, e ≠ .normal → Q e a w → Q' e a w) :
    ∀ (r : Result Next), o.upon P a next Q r → o.upon P a next' Q' r := by
  intro r h
  cases r with
  | ok n w' =>
    cases n <;> simp only [Oper.upon] at h ⊢
    case value => exact hn _ _ h
    case skip => exact hn _ _ h
    case defer => exact hn _ _ h
    case enter f args =>
      refine Calls.mono h fun e w'' he => ?_
      cases e with
      | returned u => exact hn _ _ he
      | panicked c => exact hE _ _ _ (by simp) he
      | outgrown => obtain ⟨a, w, he⟩ := he; exact ⟨a, w, hE _ _ _ (by simp) he⟩
    case row row args => exact Rows.mono h fun u w'' he => hn _ _ he
  | halt x w' =>
    cases x <;> simp only [Oper.upon] at h ⊢
    case panic u => exact hE _ _ _ (by simp) h
end
section
variable {P : Program} {ops : Array Oper} {Q : Exit → St → Prop} {o : Oper} {rest : List Oper} {σ : St} {ds : List (Option Nat)}
/-- what lies where it lay: of the blocks that are not given up -/
def keptL : List Own → List Own → Prop
  | [], _ => True
  | .dead :: l, _ :: own => keptL l own
  | o :: l, o' :: own => o = o' ∧ keptL l own
  | _ :: _, [] => False
theorem keptL_get : ∀ {T own : List Own}, keptL T own → ∀ (k : Nat) (o : Own), T[k]? = some o → o = .dead ∨ own[k]? = some o
  | [], _, _, k, o, h => by simp at h
  | x :: T, [], hk, k, o, h => by cases x <;> exact hk.elim
  | x :: T, y :: own, hk, 0, o, h => by
    simp only [List.getElem?_cons_zero, Option.some.injEq] at h ⊢
    subst h
    cases x with
    | dead => exact .inl rfl
    | cells => exact .inr hk.1.symm
    | slice => exact .inr hk.1.symm
    | map => exact .inr hk.1.symm
  | x :: T, y :: own, hk, k + 1, o, h => by
    have : keptL T own := by cases x <;> first | exact hk | exact hk.2
    simpa using keptL_get this k o (by simpa using h)
/-- the class of worlds in which floating operations yield their values -/
def CF (T : List Own) (sn : List ((Nat → Prop) × World)) (w : World) : Prop := Base (fun _ => 0) ⟨0, [], T, sn, []⟩ w
theorem CF.of {ρ : Nat → Nat} {w : World} {T : List Own} {sn : List ((Nat → Prop) × World)} (hb : Base ρ σ w) (hT : keptL T σ.own) (hf : T.all freeO = true) (hsn : ∀ p, p ∈ sn → p ∈ σ.snaps) : CF T sn w := by
  have hfk : ∀ (k : Nat) (o : Own), T[k]? = some o → freeO o = true := fun k o hk => List.all_eq_true.1 hf o (List.mem_of_getElem? hk)
  refine ⟨fun k o hk ρ' _ => ?_, fun i j oi oj b hi hj hni hnj => ?_, fun p hp => ⟨(hb.keep p (hsn p hp)).1, fun k o b hk hn hS => ?_⟩⟩
  · rcases keptL_get hT k o hk with rfl | h
    · trivial
    · exact freeO_holds (hfk k o hk) (hb.own k o h ρ (Agree.refl _ _))
  · rcases keptL_get hT i oi hi with rfl | h
    · cases hni
    · rcases keptL_get hT j oj hj with rfl | h'
      · cases hnj
      · exact hb.apart i j oi oj b h h' (by rw [freeO_num (hfk i oi hi) ρ (fun _ => 0) i i]; exact hni) (by rw [freeO_num (hfk j oj hj) ρ (fun _ => 0) j j]; exact hnj)
  · rcases keptL_get hT k o hk with rfl | h
    · cases hn
    · exact (hb.keep p (hsn p hp)).2 k o b h (by rw [freeO_num (hfk k o hk) ρ (fun _ => 0) k k]; exact hn) hS
theorem CF.base {ρ : Nat → Nat} {w : World} {T : List Own} {sn : List ((Nat → Prop) × World)} {n : Nat} {e : List (Nat × SV)} {F : List Dm} (h : CF T sn w) (hf : T.all freeO = true) : Base ρ ⟨n, e, T, sn, F⟩ w :=
  (Base.free (σ := ⟨0, [], T, sn, []⟩) (ρ' := ρ) h (fun o ho => List.all_eq_true.1 hf o ho)).same rfl rfl
/-- the floating operations, one after the other -/
def WF (P : Program) (K : St → Prop) : List Oper → St → Prop
  | [], σ => K σ
  | o :: l, σ => o.guard = none ∧ dOk σ o.dst = true ∧ ∃ s, QR P o σ s ∧ WF P K l (σ.put o.dst s)
theorem WF.nil {K : St → Prop} (h : K σ) : WF P K [] σ := h
theorem WF.q {K : St → Prop} {s : SV} (hg : o.guard = none) (hd : dOk σ o.dst = true) (h : QR P o σ s) (k : WF P K rest (σ.put o.dst s)) : WF P K (o :: rest) σ := ⟨hg, hd, s, h, k⟩
theorem WF.go {K : St → Prop} (hg : o.guard = none) (hd : dOk σ o.dst = true) (hm : isMem o.op = false) (h : RunP (step P σ (some 0) o.op) fun s => WF P K rest (σ.put o.dst s)) : WF P K (o :: rest) σ := by
  cases hst : step P σ (some 0) o.op with
  | none => rw [hst] at h; exact h.elim
  | some σ' =>
    rw [hst] at h
    obtain ⟨s, h1, h2, rfl⟩ := step_opv hm hst
    refine ⟨hg, hd, s, fun ρ a w hs => ?_, h⟩
    obtain ⟨v, h3, h4⟩ := opv_sound hs h1
    exact ⟨v, h3, h4⟩
/-- the others, one after the other: what floats is not touched -/
def WC (P : Program) (ops : Array Oper) (Q : Exit → St → Prop) (T : List Own) (sn : List ((Nat → Prop) × World)) : List Oper → St → Prop
  | [], σ => Q .normal σ
  | o :: l, σ => WO P ops (fun e σ' => match e with
    | .normal => keptL T σ'.own ∧ (∀ p, p ∈ sn → p ∈ σ'.snaps) ∧ WC P ops Q T sn l σ'
    | e => Q e σ') [o] σ
theorem WC.sound {T : List Own} {sn : List ((Nat → Prop) × World)} (hf : T.all freeO = true) : ∀ (R : List Nat) (listed : Array Bool) (fuel : Nat) (ρ : Nat → Nat) (σ : St) (a : Act) (w : World), R.length = fuel → chainR .any ops R listed = true → (∀ i, i ∈ R → i < ops.size) →
    WC P ops Q T sn (pickL ops R) σ → Sat ρ σ a w → wpAnyC P .any ops (CF T sn) (lift Q) fuel listed a w
  | [], listed, fuel, ρ, σ, a, w, hfu, hc, _, h, hs => by
    subst hfu
    exact ⟨by simpa [chainR] using hc, ρ, σ, hs, h⟩
  | k :: R, listed, fuel, ρ, σ, a, w, hfu, hc, hlt, h, hs => by
    subst hfu
    simp only [chainR, Bool.and_eq_true, beq_iff_eq] at hc
    obtain ⟨hr, hc⟩ := hc
    have hk := hlt k List.mem_cons_self
    have ho : ops[k]? = some ops[k] := Array.getElem?_eq_getElem hk
    have hp : pickL ops (k :: R) = ops[k] :: pickL ops R := by simp [pickL, ho]
    rw [hp] at h
    refine ⟨fun h0 => (by rw [hr] at h0; cases h0), fun i hi => ?_⟩
    rw [hr, List.mem_singleton] at hi
    subst hi
    have h1 := h ρ a w hs
    simp only [wpList] at h1
    unfold wpOp
    simp only [ho]
    have next : ∀ a' w', lift (fun e σ' => match e with
        | .normal => keptL T σ'.own ∧ (∀ p, p ∈ sn → p ∈ σ'.snaps) ∧ WC P ops Q T sn (pickL ops R) σ'
        | e => Q e σ') .normal a' w' → CF T sn w' ∧ wpAnyC P .any ops (CF T sn) (lift Q) R.length (listed.setIfInBounds i true) a' w' := fun a' w' ⟨ρ', σ', hs', g1, g2, g3⟩ =>
      ⟨CF.of hs'.base g1 hf g2, WC.sound hf R _ _ ρ' σ' a' w' rfl hc (fun j hj => hlt j (List.mem_cons_of_mem _ hj)) g3 hs'⟩
    have exits : ∀ e a' w', e ≠ .normal → lift (fun e σ' => match e with
        | .normal => keptL T σ'.own ∧ (∀ p, p ∈ sn → p ∈ σ'.snaps) ∧ WC P ops Q T sn (pickL ops R) σ'
        | e => Q e σ') e a' w' → lift Q e a' w' := fun e a' w' hne ⟨ρ', σ', hs', g⟩ => ⟨ρ', σ', hs', by cases e <;> first | exact absurd rfl hne | exact g⟩
    split
    · rename_i hw
      rw [if_pos hw] at h1
      rcases h1 with h1 | ⟨h1, a9, w9, h2⟩
      · exact .inl (upon_monoE next exits _ h1)
      · exact .inr ⟨h1, a9, w9, exits _ _ _ (by simp) h2⟩
    · rename_i hw
      rw [if_neg hw] at h1
      exact next _ _ h1
theorem WF.sound {T : List Own} {sn : List ((Nat → Prop) × World)} (hf : T.all freeO = true) {Q' : Exit → Act → World → Prop} {K : St → Prop} (hsel : Region.noSelect ops = true) (hQ : ∀ c a w, ¬ Q' (.panic c) a w) (ρ : Nat → Nat) (w : World) (hC : CF T sn w) :
    ∀ (F : List Nat) (listed : Array Bool) (fuel : Nat) (σ : St) (a : Act), floatB .any ops F listed = true → (∀ i, i ∈ F → i < ops.size) → σ.own = T → σ.snaps = sn → SatE ρ σ a → WF P K (pickL ops F) σ →
      (∀ σ' a', SatE ρ σ' a' → σ'.own = T → σ'.snaps = sn → (σ'.n, σ'.dfs) = (σ.n, σ.dfs) → K σ' → wpAnyC P .any ops (CF T sn) Q' fuel (markL F listed) a' w) → wpAnyC P .any ops (CF T sn) Q' (F.length + fuel) listed a w
  | [], listed, fuel, σ, a, _, _, ho, hsn, hs, h, hk => by
    rw [List.length_nil, Nat.zero_add]; exact hk σ a hs ho hsn rfl h
  | k :: F, listed, fuel, σ, a, hB, hlt, ho, hsn, hs, h, hk => by
    simp only [floatB, Bool.and_eq_true] at hB
    obtain ⟨⟨hr, hfr⟩, hB⟩ := hB
    have hkl := hlt k List.mem_cons_self
    have hok : ops[k]? = some ops[k] := Array.getElem?_eq_getElem hkl
    have hp : pickL ops (k :: F) = ops[k] :: pickL ops F := by simp [pickL, hok]
    rw [hp] at h
    obtain ⟨hg, hd, s, hq, hrest⟩ := h
    have hbase : ∀ w', CF T sn w' → Base ρ σ w' := fun w' hw' => (CF.base (n := σ.n) (e := σ.env) (F := σ.dfs) hw' hf).same ho hsn
    have hy : YieldsC P ops (CF T sn) ops[k] (den ρ s) a := by
      refine ⟨by simp [Region.wanted, hg], fun w' hw' => ?_⟩
      obtain ⟨v, h1, h2⟩ := hq ρ a w' (hs.sat (hbase w' hw'))
      rw [h1, h2 ρ (Agree.refl _ _)]
    obtain ⟨v0, g1, g2⟩ := hq ρ a w (hs.sat (hbase w hC))
    have hs' : SatE ρ (σ.put ops[k].dst s) (a.put ops[k].dst (den ρ s)) := ((hs.sat (hbase w hC)).put _ s _ (dOk_lt hd) fun ρ' hρ => by rw [← g2 ρ (Agree.refl _ _), g2 ρ' hρ]).e
    rw [List.length_cons, show F.length + 1 + fuel = (F.length + fuel) + 1 by omega]
    refine wpAnyC_first hok (Region.noSelect_spec hsel) hQ _ _ _ _ hC (Region.free_spec hok hfr) (by simpa using hr) hy ?_
    refine WF.sound hf hsel hQ ρ w hC F _ fuel (σ.put ops[k].dst s) _ hB (fun i hi => hlt i (List.mem_cons_of_mem _ hi)) (by cases hdd : ops[k].dst <;> simpa [hdd, St.put] using ho) (by cases hdd : ops[k].dst <;> simpa [hdd, St.put] using hsn) hs' hrest fun σ' a' e1 e2 e3 e4 e5 => hk σ' a' e1 e2 e3 (by rw [e4]; cases hdd : ops[k].dst <;> rfl) e5
def floatOK (ops : Array Oper) (F R : List Nat) : Bool :=
  Region.noSelect ops && decide (F.length + R.length = ops.size) && F.all (fun i => decide (i < ops.size)) && R.all (fun i => decide (i < ops.size)) && floatB .any ops F (Array.replicate ops.size false) && chainR .any ops R (markL F (Array.replicate ops.size false))
/-- A region that draws its order: the operations F float, the operations R come one after the other. -/
theorem W.regionF {id : Nat} (F R : List Nat) (T : List Own) (hm : P.follows .mixedOrders = true) (hB : floatOK ops F R = true) (hf : T.all freeO = true) (hT : keptL T σ.own) (hlen : T.length = σ.own.length) (hQ : ∀ c σ, ¬ Q (.panic c) σ)
    (h : WF P (fun σ1 => WC P ops Q T σ.snaps (pickL ops R) ⟨σ.n, σ1.env, σ.own, σ.snaps, σ.dfs⟩) (pickL ops F) ⟨σ.n, σ.env, T, σ.snaps, σ.dfs⟩) : W P (.region id ops true) Q σ := fun ρ a w hs => by
  simp only [floatOK, Bool.and_eq_true, decide_eq_true_eq, List.all_eq_true] at hB
  obtain ⟨⟨⟨⟨⟨hsel, hsz⟩, hFl⟩, hRl⟩, hFB⟩, hRB⟩ := hB
  refine of_wp (wp_region_any hm ?_)
  have hs' : Sat ρ σ a { w with drawn := w.drawn + 1 } := hs.below (below_drew w)
  have hC : CF T σ.snaps { w with drawn := w.drawn + 1 } := CF.of hs'.base hT hf fun _ h => h
  rw [← hsz]
  refine wpAny_of_C _ _ _ _ (WF.sound hf hsel (fun c a w ⟨_, σ', _, h⟩ => hQ c σ' h) ρ _ hC F _ R.length ⟨σ.n, σ.env, T, σ.snaps, σ.dfs⟩ a (by rw [hsz]; exact hFB) hFl rfl rfl ⟨hs'.size, hs'.defers, fun i s hi => ⟨(hs'.env i s hi).1, fun ρ' hρ => (hs'.env i s hi).2 ρ' (by rw [← hlen]; exact hρ)⟩⟩ h ?_)
  intro σ1 a1 e1 e2 e3 e4 hk
  refine WC.sound hf R _ _ ρ ⟨σ.n, σ1.env, σ.own, σ.snaps, σ.dfs⟩ a1 _ rfl (by rw [hsz]; exact hRB) hRl hk ⟨?_, ?_, fun i s hi => ?_, hs'.base.same rfl rfl⟩
  · have := e1.size; simp only [Prod.mk.injEq] at e4; rw [this]; exact e4.1
  · have := e1.defers; simp only [Prod.mk.injEq] at e4; rw [this, e4.2]
  · obtain ⟨g1, g2⟩ := e1.env i s hi
    simp only [Prod.mk.injEq] at e4
    exact ⟨by rw [← e4.1]; exact g1, fun ρ' hρ => g2 ρ' (by rw [e2, hlen]; exact hρ)⟩
/-- from one of the others to the next -/
theorem WC.one {T : List Own} {sn : List ((Nat → Prop) × World)} (h : WO P ops (fun e σ' => match e with
    | .normal => keptL T σ'.own ∧ (∀ p, p ∈ sn → p ∈ σ'.snaps) ∧ WC P ops Q T sn rest σ'
    | e => Q e σ') [o] σ) : WC P ops Q T sn (o :: rest) σ := h
theorem WC.next {T : List Own} {sn : List ((Nat → Prop) × World)} (h1 : keptL T σ.own) (h2 : ∀ p, p ∈ sn → p ∈ σ.snaps) (h3 : WC P ops Q T sn rest σ) : WO P ops (fun e σ' => match e with
    | .normal => keptL T σ'.own ∧ (∀ p, p ∈ sn → p ∈ σ'.snaps) ∧ WC P ops Q T sn rest σ'
    | e => Q e σ') [] σ := WO.nil ⟨h1, h2, h3⟩
theorem WC.nil {T : List Own} {sn : List ((Nat → Prop) × World)} (h : Q .normal σ) : WC P ops Q T sn [] σ := h
end
end Go.SX
set_option linter.unusedVariables false
set_option linter.unusedSimpArgs false
set_option maxHeartbeats 1000000
namespace Go.Proofs.YtolmeekbjonbcaaGreat
open Int renaming reduceEq → q1, reduceLT → q2, reduceBEq → q3, reduceBNe → q4
open Nat renaming reduceAdd → q5, reduceSub → q6, reduceMul → q7, reduceLT → q8, reduceLeDiff → q9, reduceEqDiff → qa
open List renaming reduceReplicate → qb
open Go Go.SX Go.RowKit
structure WfC (cost : List (List Int)) (n : Nat) : Prop where
  rows : cost.length ≤ 200
  cols : n ≤ 11
  row : ∀ l, l ∈ cost → l.length = n ∧ ∀ x, x ∈ l → -1 ≤ x ∧ x ≤ 1000000
def canF (cost : List (List Int)) (row : Int) (k : Nat) : Bool := decide (0 ≤ (cost.getD row.toNat []).getD k (-1))
def shortGo (can : Int → Nat → Bool) (n : Nat) : List Nat → List Int → Option (List Int)
  | [], _ => none
  | r :: rs, owner => if (topF can n (r : Int) owner).1 = true then shortGo can n rs (topF can n (r : Int) owner).2.1 else some (topF can n (r : Int) owner).2.2
def wideF (cost : List (List Int)) (n : Nat) : Nat := if cost.length = 0 then 0 else n
def shortO (cost : List (List Int)) (n : Nat) : Option (List Int) := shortGo (canF cost) (wideF cost n) (List.range cost.length) (List.replicate (wideF cost n) (-1))
def shortF (cost : List (List Int)) (n : Nat) : Bool × Nat := match shortO cost n with
  | none => (false, 0)
  | some met => (true, met.length)
theorem topF_ok {can : Int → Nat → Bool} {R n : Nat} {row : Int} {owner : List Int} (hr : row < R) (hl : owner.length = n) (ho : ∀ (k : Nat) (o : Int), owner[k]? = some o → o < R) :
    (topF can n row owner).2.1.length = n ∧ (∀ (k : Nat) (o : Int), (topF can n row owner).2.1[k]? = some o → o < R) ∧ (topF can n row owner).2.2.length ≤ n + 1 := by
  obtain ⟨g1, g2, g3⟩ := findF_to (can := can) (n + 1) row ⟨owner, List.replicate n false, []⟩ hr (⟨hl, by simp, ho⟩ : FOk R n _)
  refine ⟨g1.ol, g1.row, ?_⟩
  simp only [mea, unseen, topF, List.length_nil, List.count_replicate_self, Nat.zero_add] at g2 ⊢
  omega
/-- function 59 -/
theorem formed1_spec (w : World) (p : Option Addr) (n c : Nat) (h : n ≤ 200) : Gives Tryz.prog 59 #[.slice p n c] w fun r _ => r = .bool false := by
  refine gives_of [.val (.slice p n c)] 6 [.tmp 2] Tryz.func59 rfl rfl rfl (by simp) rfl rfl ?_
  refine W.pure (ds := []) rfl fun K1 hK1 => ?_
  simp only [sx, ty, q1, q2, q5, q6, q7, q8, q9, qa, qb, reduceIte, sy, q3, q4]; with_reducible refine hK1 _ ?_; clear hK1
  refine W.pure (ds := []) rfl fun K2 hK2 => ?_
  simp only [sx, ty, q1, q2, q5, q6, q7, q8, q9, qa, qb, reduceIte, sy, q3, q4]; with_reducible refine hK2 _ ?_; clear hK2
  refine W.ret ⟨by simp, _, rfl, fun ρ w1 hb => ?_⟩
  simp only [den, Value.bool.injEq]; simp; omega
/-- function 61 -/
theorem formed2_spec (w : World) (x : Int) (h : -1 ≤ x ∧ x ≤ 1000000) : Gives Tryz.prog 61 #[.int .i64 x] w fun r _ => r = .bool false := by
  refine gives_of [.val (.int .i64 x)] 9 [.tmp 2] Tryz.func61 rfl rfl rfl (by simp) rfl rfl ?_
  refine W.pure (ds := []) rfl fun K1 hK1 => ?_
  simp only [sx, ty, q1, q2, q5, q6, q7, q8, q9, qa, qb, reduceIte, sy, q3, q4]; with_reducible refine hK1 _ ?_; clear hK1
  refine W.seqK fun K2 hK2 => W.region ?_
  refine WO.go 3 (ds := [some 3, some 4, some 5, some 6, some 7, some 8, some 2]) rfl ?_
  simp only [sx, ty, q1, q2, q5, q6, q7, q8, q9, qa, qb, reduceIte, sy, q3, q4]
  refine WO.cases 5 _ rfl (fun hg5 => ?_) (fun hg5 => ?_)
  · skip
    simp at hg5; omega
  · skip
    refine WO.go 4 (ds := [some 3, some 4, some 5, some 6, some 7, some 8, some 2]) rfl ?_
    simp only [sx, ty, q1, q2, q5, q6, q7, q8, q9, qa, qb, reduceIte, sy, q3, q4]
    with_reducible refine WO.nil ?_
    refine hK2 _ ?_; clear hK2
    refine W.ret ⟨by simp, _, rfl, fun ρ w1 hb => ?_⟩
    simp only [den, Value.bool.injEq]; simp; omega
/-- function 76 -/
theorem indexRows_spec {S : Nat → Prop} {w : World} {v : Value} {cost : List (List Int)} (hl : rRows.rd S w [v] cost) (K : FuncId) (hK : callOk Tryz.prog K = true)
    (hq : ∀ w1 (p : Option Addr) (x : List Int) (c : Nat), x ∈ cost → Gives Tryz.prog K #[.slice p x.length c] w1 fun r _ => r = .bool false) : Gives Tryz.prog 76 #[v, .func (.func K) #[] #[]] w fun r _ => r = .int .i64 (-1) := by
  obtain ⟨p, c, rfl, hc1, hc2⟩ := Rp.slice_val hl
  have hl : (Rp.slice rInts).rd (fun _ => True) w _ cost := Rp.any hl
  refine gives_of [.val (.slice p cost.length c), .val (.func (.func K) #[] #[])] 19 [.tmp 4] Tryz.func76 rfl rfl rfl (by simp) rfl rfl ?_
  refine W.pure (ds := []) rfl fun K1 hK1 => ?_
  simp only [sx, ty, q1, q2, q5, q6, q7, q8, q9, qa, qb, reduceIte, sy, q3, q4]; with_reducible refine hK1 _ ?_; clear hK1
  refine W.seqK fun K2 hK2 => ?_
  refine W.pure (ds := []) rfl fun K3 hK3 => ?_
  simp only [sx, ty, q1, q2, q5, q6, q7, q8, q9, qa, qb, reduceIte, sy, q3, q4]; with_reducible refine hK3 _ ?_; clear hK3
  refine W.block ?_
  refine W.loopK (X := Nat) [0, 1, 7] (fun x => [(8, .val (.int .i64 x))]) (fun x => x ≤ cost.length) (fun x => cost.length - x) 0 ?_ ?_ ?_
  · exact ⟨rfl, by simp [getE, bnd, keepE], ⟨[], by simp⟩, by simp [Own.bnd, bndL, bnd, boxO], by simp⟩
  · skip
    exact Nat.zero_le _
  · rintro i hi
    simp only [sx, ty, q1, q2, q5, q6, q7, q8, q9, qa, qb, reduceIte, sxk, sy, q3, q4]
    refine W.pure (ds := []) rfl fun K4 hK4 => ?_
    simp only [sx, ty, q1, q2, q5, q6, q7, q8, q9, qa, qb, reduceIte, sy, q3, q4]; with_reducible refine hK4 _ ?_; clear hK4
    refine W.seqK fun K5 hK5 => ?_
    refine W.cond rfl rfl (fun hc => ?_) (fun hc => ?_)
    · skip
      have hlt : i < cost.length := by simpa using hc
      obtain ⟨y, hy⟩ := len_lt (rfl : cost.length = _) hlt
      refine W.skip (hK5 _ ?_)
      refine W.seqK fun K6 hK6 => ?_
      refine W.block ?_
      refine W.pure (ds := []) rfl fun K7 hK7 => ?_
      simp only [sx, ty, q1, q2, q5, q6, q7, q8, q9, qa, qb, reduceIte, sy, q3, q4]; with_reducible refine hK7 _ ?_; clear hK7
      refine W.seqK fun K8 hK8 => W.region ?_
      refine WO.go 3 (ds := []) rfl ?_
      simp only [sx, ty, q1, q2, q5, q6, q7, q8, q9, qa, qb, reduceIte, sy, q3, q4]
      refine WO.elem (y := y) hl (by simp [St.put]) (ds := []) rfl rfl rfl (by simp [St.put]) (fun _ => rfl) rfl rfl rfl rfl rfl el36 agg27 sz27 (.inr rfl) (by omega) (hy) fun p ces hces => ?_
      obtain ⟨p9, c9, rfl, hc5, hc6⟩ := rInts_open hces
      simp only [sx, ty, q1, q2, q5, q6, q7, q8, q9, qa, qb, reduceIte, sy, q3, q4]
      refine WO.call (.bool false) (ds := []) rfl rfl rfl rfl hK (fun ρ w1 hb => by have := hq w1 p9 y c9 (List.mem_of_getElem? hy); simpa [denL_eq, den, Function.comp_def] using this) ?_
      simp only [sx, ty, q1, q2, q5, q6, q7, q8, q9, qa, qb, reduceIte, sy, q3, q4]
      with_reducible refine WO.nil ?_
      refine hK8 _ ?_; clear hK8
      refine W.cond rfl rfl (fun hc => ?_) (fun hc => ?_)
      · skip
        simp at hc
      · skip
        refine W.skip (hK6 _ ?_)
        refine W.region ?_
        refine WO.go 2 (ds := []) rfl ?_
        simp only [sx, ty, q1, q2, q5, q6, q7, q8, q9, qa, qb, reduceIte, sy, q3, q4]
        with_reducible refine WO.nil ?_
        refine ⟨i + 1, ?_, by first | omega | (simp; omega), rfl, by simp [getE, bnd, keepE, wrap_succ (show i + 1 ≤ 9223372036854775807 by omega)], ⟨_, rfl⟩, by simp [Own.bnd, bndL, bnd, boxO], by simp⟩
        exact hlt
    · skip
      refine W.exit (hK2 _ ?_)
      refine W.pure (ds := []) rfl fun K9 hK9 => ?_
      simp only [sx, ty, q1, q2, q5, q6, q7, q8, q9, qa, qb, reduceIte, sy, q3, q4]; with_reducible refine hK9 _ ?_; clear hK9
      refine W.ret ⟨by simp, _, rfl, fun ρ w1 hb => ?_⟩
      rfl
/-- function 60 -/
theorem containsRows_spec {S : Nat → Prop} {w : World} {v : Value} {cost : List (List Int)} (hl : rRows.rd S w [v] cost) (K : FuncId) (hK : callOk Tryz.prog K = true)
    (hq : ∀ w1 (p : Option Addr) (x : List Int) (c : Nat), x ∈ cost → Gives Tryz.prog K #[.slice p x.length c] w1 fun r _ => r = .bool false) : Gives Tryz.prog 60 #[v, .func (.func K) #[] #[]] w fun r _ => r = .bool false := by
  obtain ⟨p, c, rfl, hc1, hc2⟩ := Rp.slice_val hl
  have hl : (Rp.slice rInts).rd (fun _ => True) w _ cost := Rp.any hl
  refine gives_of [.val (.slice p cost.length c), .val (.func (.func K) #[] #[])] 9 [.tmp 4] Tryz.func60 rfl rfl rfl (by simp) rfl rfl ?_
  refine W.pure (ds := []) rfl fun K1 hK1 => ?_
  simp only [sx, ty, q1, q2, q5, q6, q7, q8, q9, qa, qb, reduceIte, sy, q3, q4]; with_reducible refine hK1 _ ?_; clear hK1
  refine W.seqK fun K2 hK2 => W.region ?_
  refine WO.go 2 (ds := []) rfl ?_
  simp only [sx, ty, q1, q2, q5, q6, q7, q8, q9, qa, qb, reduceIte, sy, q3, q4]
  refine WO.call (.int .i64 (-1)) (ds := []) rfl rfl rfl rfl co76 (fun ρ w1 hb => indexRows_spec (Rp.now hl (hb.first (by simp))) K hK hq) ?_
  refine WO.go 2 (ds := []) rfl ?_
  simp only [sx, ty, q1, q2, q5, q6, q7, q8, q9, qa, qb, reduceIte, sy, q3, q4]
  with_reducible refine WO.nil ?_
  refine hK2 _ ?_; clear hK2
  refine W.ret ⟨by simp, _, rfl, fun ρ w1 hb => ?_⟩
  rfl
theorem co59 : callOk Tryz.prog 59 = true := by kernel_rfl
/-- function 33 -/
theorem formed_spec {S : Nat → Prop} {w : World} {v : Value} {cost : List (List Int)} {n : Nat} (hl : rRows.rd S w [v] cost) (hw : WfC cost n) : Gives Tryz.prog 33 #[v] w fun r _ => r = .int .i64 0 := by
  obtain ⟨p, c, rfl, hc1, hc2⟩ := Rp.slice_val hl
  have hl : (Rp.slice rInts).rd (fun _ => True) w _ cost := Rp.any hl
  have hr2 := hw.rows
  have hcl := hw.cols
  refine gives_of [.val (.slice p cost.length c)] 32 [.tmp 2] Tryz.func33 rfl rfl rfl (by simp) rfl rfl ?_
  refine W.pure (ds := []) rfl fun K1 hK1 => ?_
  simp only [sx, ty, q1, q2, q5, q6, q7, q8, q9, qa, qb, reduceIte, sy, q3, q4]; with_reducible refine hK1 _ ?_; clear hK1
  refine W.pure (ds := []) rfl fun K2 hK2 => ?_
  simp only [sx, ty, q1, q2, q5, q6, q7, q8, q9, qa, qb, reduceIte, sy, q3, q4]; with_reducible refine hK2 _ ?_; clear hK2
  refine W.seqK fun K3 hK3 => ?_
  refine W.seqK fun K4 hK4 => W.region ?_
  refine WO.go 4 (ds := [some 6, some 7, some 8, some 9, some 10, some 11, some 12, some 13]) rfl ?_
  simp only [sx, ty, q1, q2, q5, q6, q7, q8, q9, qa, qb, reduceIte, sy, q3, q4]
  refine WO.cases 9 _ rfl (fun hg9 => ?_) (fun hg9 => ?_)
  · skip
    simp at hg9; omega
  · skip
    refine WO.go 2 (ds := [some 6, some 7, some 8, some 9, some 10, some 11, some 12, some 13]) rfl ?_
    simp only [sx, ty, q1, q2, q5, q6, q7, q8, q9, qa, qb, reduceIte, sy, q3, q4]
    refine WO.call (.bool false) (ds := [some 6, some 7, some 8, some 9, some 10, some 11, some 12, some 13]) rfl rfl rfl rfl co60 (fun ρ w1 hb => containsRows_spec (Rp.now hl (hb.first (by simp))) 59 co59 fun w2 q x c2 hx => formed1_spec w2 q x.length c2 (by have := (hw.row x hx).1; omega)) ?_
    refine WO.go 1 (ds := [some 6, some 7, some 8, some 9, some 10, some 11, some 12, some 13]) rfl ?_
    simp only [sx, ty, q1, q2, q5, q6, q7, q8, q9, qa, qb, reduceIte, sy, q3, q4]
    with_reducible refine WO.nil ?_
    refine hK4 _ ?_; clear hK4
    refine W.cond rfl rfl (fun hc => ?_) (fun hc => ?_)
    · skip
      simp at hc
    · skip
      refine W.skip (hK3 _ ?_)
      refine W.seqK fun K5 hK5 => ?_
      refine W.pure (ds := []) rfl fun K6 hK6 => ?_
      simp only [sx, ty, q1, q2, q5, q6, q7, q8, q9, qa, qb, reduceIte, sy, q3, q4]; with_reducible refine hK6 _ ?_; clear hK6
      refine W.block ?_
      refine W.loopK (X := Nat) [0, 14, 15] (fun x => [(16, .val (.int .i64 x))]) (fun x => x ≤ cost.length) (fun x => cost.length - x) 0 ?_ ?_ ?_
      · exact ⟨rfl, by simp [getE, bnd, keepE], ⟨[], by simp⟩, by simp [Own.bnd, bndL, bnd, boxO], by simp⟩
      · skip
        exact Nat.zero_le _
      · rintro i hi
        simp only [sx, ty, q1, q2, q5, q6, q7, q8, q9, qa, qb, reduceIte, sxk, sy, q3, q4]
        refine W.pure (ds := []) rfl fun K7 hK7 => ?_
        simp only [sx, ty, q1, q2, q5, q6, q7, q8, q9, qa, qb, reduceIte, sy, q3, q4]; with_reducible refine hK7 _ ?_; clear hK7
        refine W.seqK fun K8 hK8 => ?_
        refine W.cond rfl rfl (fun hc => ?_) (fun hc => ?_)
        · skip
          have hlt : i < cost.length := by simpa using hc
          obtain ⟨y, hy⟩ := len_lt (rfl : cost.length = _) hlt
          obtain ⟨y0, hy0⟩ := len_lt (rfl : cost.length = _) (show 0 < cost.length by omega)
          have hyy : y.length = y0.length := by rw [(hw.row y (List.mem_of_getElem? hy)).1, (hw.row y0 (List.mem_of_getElem? hy0)).1]
          have hyr := (hw.row y (List.mem_of_getElem? hy)).2
          refine W.skip (hK8 _ ?_)
          refine W.seqK fun K9 hK9 => ?_
          refine W.block ?_
          refine W.seqK fun K10 hK10 => W.region ?_
          refine WO.elem (y := y) hl (by simp [St.put]) (ds := []) rfl rfl rfl (by simp [St.put]) (fun _ => rfl) rfl rfl rfl rfl rfl el36 agg27 sz27 (.inr rfl) (by omega) (hy) fun p ces hces => ?_
          obtain ⟨p9, c9, rfl, hc5, hc6⟩ := rInts_open hces
          have hces1 := hces
          clear hces
          refine WO.go 1 (ds := []) rfl ?_
          simp only [sx, ty, q1, q2, q5, q6, q7, q8, q9, qa, qb, reduceIte, sy, q3, q4]
          with_reducible refine WO.nil ?_
          refine hK10 _ ?_; clear hK10
          refine W.seqK fun K11 hK11 => W.region ?_
          refine WO.go 3 (ds := [some 20, some 21, some 22, some 23, some 24, some 25, some 26, some 27, some 28, some 29, some 30]) rfl ?_
          simp only [sx, ty, q1, q2, q5, q6, q7, q8, q9, qa, qb, reduceIte, sy, q3, q4]
          refine WO.elem (y := y0) hl (by simp [St.put]) (ds := [some 20, some 21, some 22, some 23, some 24, some 25, some 26, some 27, some 28, some 29, some 30]) rfl rfl rfl (by simp [St.put]) (fun _ => rfl) rfl rfl rfl rfl rfl el36 agg27 sz27 (.inr rfl) (by omega) (hy0) fun p ces hces => ?_
          obtain ⟨p8, c8, rfl, hc7, hc8⟩ := rInts_open hces
          clear hces
          refine WO.go 3 (ds := [some 20, some 21, some 22, some 23, some 24, some 25, some 26, some 27, some 28, some 29, some 30]) rfl ?_
          simp only [sx, ty, q1, q2, q5, q6, q7, q8, q9, qa, qb, reduceIte, sy, q3, q4]
          refine WO.cases 27 _ rfl (fun hg27 => ?_) (fun hg27 => ?_)
          · skip
            simp [hyy] at hg27
          · skip
            refine WO.go 1 (ds := [some 20, some 21, some 22, some 23, some 24, some 25, some 26, some 27, some 28, some 29, some 30]) rfl ?_
            simp only [sx, ty, q1, q2, q5, q6, q7, q8, q9, qa, qb, reduceIte, sy, q3, q4]
            refine WO.call (.bool false) (ds := [some 20, some 21, some 22, some 23, some 24, some 25, some 26, some 27, some 28, some 29, some 30]) rfl rfl rfl rfl co54 (fun ρ w1 hb => by have h9 := containsFunc_spec (Rp.now hces1 (hb.first (by simp [St.put]))) (fun _ => false) 61 #[] co61 (fun w2 hk x hx => formed2_spec w2 x (hyr x hx)); have h8 : y.any (fun _ => false) = false := (by simp); rw [h8] at h9; simpa [denL_eq, den] using h9) ?_
            refine WO.go 1 (ds := [some 20, some 21, some 22, some 23, some 24, some 25, some 26, some 27, some 28, some 29, some 30]) rfl ?_
            simp only [sx, ty, q1, q2, q5, q6, q7, q8, q9, qa, qb, reduceIte, sy, q3, q4]
            with_reducible refine WO.nil ?_
            refine hK11 _ ?_; clear hK11
            refine W.cond rfl rfl (fun hc => ?_) (fun hc => ?_)
            · skip
              simp at hc
            · skip
              refine W.skip (hK9 _ ?_)
              refine W.region ?_
              refine WO.go 2 (ds := []) rfl ?_
              simp only [sx, ty, q1, q2, q5, q6, q7, q8, q9, qa, qb, reduceIte, sy, q3, q4]
              with_reducible refine WO.nil ?_
              refine ⟨i + 1, ?_, by first | omega | (simp; omega), rfl, by simp [getE, bnd, keepE, wrap_succ (show i + 1 ≤ 9223372036854775807 by omega)], ⟨_, rfl⟩, by simp [Own.bnd, bndL, bnd, boxO], by simp⟩
              exact hlt
        · skip
          refine W.exit (hK5 _ ?_)
          refine W.pure (ds := []) rfl fun K12 hK12 => ?_
          simp only [sx, ty, q1, q2, q5, q6, q7, q8, q9, qa, qb, reduceIte, sy, q3, q4]; with_reducible refine hK12 _ ?_; clear hK12
          refine W.ret ⟨by simp, _, rfl, fun ρ w1 hb => ?_⟩
          rfl
/-- function 45 -/
theorem can45_spec {S : Nat → Prop} {w : World} {v : Value} {cost : List (List Int)} {n : Nat} {a : Addr} (hl : rRows.rd S w [v] cost) (ha : At w a [v]) (haz : a.block < w.heap.size) (hn : ∀ l, l ∈ cost → l.length = n) (row : Int) (k : Nat) (h0 : 0 ≤ row) (hR : row < (cost.length : Int)) (hk : k < n) : Gives Tryz.prog 45 #[.int .i64 row, .int .i64 (k : Int), .pointer (some a)] w fun r _ => r = .bool (canF cost row k) := by
  obtain ⟨p, c, rfl, hc1, hc2⟩ := Rp.slice_val hl
  have hl : (Rp.slice rInts).rd (fun _ => True) w _ cost := Rp.any hl
  obtain ⟨i, rfl⟩ := Int.eq_ofNat_of_zero_le h0
  obtain ⟨y, hy⟩ := len_lt (rfl : cost.length = _) (show i < cost.length by omega)
  have hyn := hn y (List.mem_of_getElem? hy)
  obtain ⟨z, hz⟩ := len_lt hyn hk
  refine gives_of [.val (.int .i64 (i : Int)), .val (.int .i64 (k : Int)), .val (.pointer (some a))] 14 [.tmp 5] Tryz.func45 rfl rfl rfl (by simp) rfl rfl ?_
  refine W.pure (ds := []) rfl fun K1 hK1 => ?_
  simp only [sx, ty, q1, q2, q5, q6, q7, q8, q9, qa, qb, reduceIte, sy, q3, q4]; with_reducible refine hK1 _ ?_; clear hK1
  refine W.seqK fun K2 hK2 => W.region ?_
  refine WO.q (ds := []) rfl rfl rfl (QR.load [.slice p cost.length c] false rfl rfl agg36 sz36 (.inr rfl) (fun ρ w1 hb => ha.now (S := fun _ => True) hb (by simp [St.put]) trivial haz)) ?_
  simp only [List.drop_succ_cons, List.drop_zero, List.take_succ_cons, List.take_zero, ofCells, Bool.false_eq_true, if_false, List.headD_cons]
  refine WO.go 1 (ds := []) rfl ?_
  simp only [sx, ty, q1, q2, q5, q6, q7, q8, q9, qa, qb, reduceIte, sy, q3, q4]
  refine WO.elem (y := y) hl (by simp [St.put]) (ds := []) rfl rfl rfl (by simp [St.put]) (fun _ => rfl) rfl rfl rfl rfl rfl el36 agg27 sz27 (.inr rfl) (by omega) (hy) fun p ces hces => ?_
  obtain ⟨p9, c9, rfl, hc5, hc6⟩ := rInts_open hces
  have hces1 := hces
  clear hces
  refine WO.go 1 (ds := []) rfl ?_
  simp only [sx, ty, q1, q2, q5, q6, q7, q8, q9, qa, qb, reduceIte, sy, q3, q4]
  refine WO.elem (y := z) hces1 (by simp [St.put]) (ds := []) rfl rfl rfl (by simp [St.put]) (fun _ => rfl) rfl rfl rfl rfl rfl el27 agg3 sz3 (.inr rfl) (by omega) (hz) fun p ces hces => ?_
  obtain rfl := rInt_open hces
  clear hces
  refine WO.go 2 (ds := []) rfl ?_
  simp only [sx, ty, q1, q2, q5, q6, q7, q8, q9, qa, qb, reduceIte, sy, q3, q4]
  with_reducible refine WO.nil ?_
  refine hK2 _ ?_; clear hK2
  refine W.ret ⟨by simp, _, rfl, fun ρ w1 hb => ?_⟩
  simp only [den, canF, Int.toNat_natCast, getD_some hy, getD_some hz]
/-- function 25 -/
theorem short_spec {S : Nat → Prop} {w : World} {v : Value} {cost : List (List Int)} {n : Nat} (hl : rRows.rd S w [v] cost) (hw : WfC cost n) : Gives Tryz.prog 25 #[v] w fun r _ => ∃ x : Option Addr × Nat, r = .tuple #[.slice x.1 (shortF cost n).2 x.2, .bool (shortF cost n).1, .int .i64 0] := by
  obtain ⟨p, c, rfl, hc1, hc2⟩ := Rp.slice_val hl
  have hl : (Rp.slice rInts).rd (fun _ => True) w _ cost := Rp.any hl
  have hl9 : rRows.rd (fun b => b < w.heap.size) w _ cost := Rp.mono _ hl fun b _ h => h
  have hr2 := hw.rows
  have hcl := hw.cols
  obtain ⟨m, hm⟩ : ∃ m, wideF cost n = m := ⟨_, rfl⟩
  have hm11 : m ≤ 11 := by unfold wideF at hm; split at hm <;> omega
  obtain ⟨fin, hfin⟩ : ∃ fin, shortO cost n = fin := ⟨_, rfl⟩
  have hfin0 : fin = shortGo (canF cost) m (List.range cost.length) (List.replicate m (-1)) := by rw [← hfin, shortO, hm]
  unfold shortF
  rw [hfin]
  refine gives_of [.val (.slice p cost.length c)] 39 [.tmp 2, .tmp 3, .tmp 4] Tryz.func25 rfl rfl rfl (by simp) rfl rfl ?_
  refine W.pure (ds := []) rfl fun K1 hK1 => ?_
  simp only [sx, ty, q1, q2, q5, q6, q7, q8, q9, qa, qb, reduceIte, sy, q3, q4]; with_reducible refine hK1 _ ?_; clear hK1
  refine W.seqK fun K2 hK2 => ?_
  refine W.seqK fun K3 hK3 => W.region ?_
  refine WO.go 1 (ds := []) rfl ?_
  simp only [sx, ty, q1, q2, q5, q6, q7, q8, q9, qa, qb, reduceIte, sy, q3, q4]
  refine WO.call (.int .i64 0) (ds := []) rfl rfl rfl rfl co33 (fun ρ w1 hb => formed_spec (Rp.now hl (hb.first (by simp))) hw) ?_
  refine WO.go 1 (ds := []) rfl ?_
  simp only [sx, ty, q1, q2, q5, q6, q7, q8, q9, qa, qb, reduceIte, sy, q3, q4]
  with_reducible refine WO.nil ?_
  refine hK3 _ ?_; clear hK3
  refine W.pure (ds := []) rfl fun K4 hK4 => ?_
  simp only [sx, ty, q1, q2, q5, q6, q7, q8, q9, qa, qb, reduceIte, sy, q3, q4]; with_reducible refine hK4 _ ?_; clear hK4
  refine W.cond rfl rfl (fun hc => ?_) (fun hc => ?_)
  · skip
    simp at hc
  · skip
    refine W.skip (hK2 _ ?_)
    refine W.pinA (by simp [smallO]) fun β => ?_
    obtain ⟨b0, hb0⟩ : ∃ b0, β 0 = b0 := ⟨_, rfl⟩
    simp only [pinEn, pinOw, den, denL, Nat.zero_add, Nat.reduceAdd, hb0]
    refine W.ownIs [boxO 36 b0 [.slice p cost.length c]] rfl ?_
    refine W.seqK fun K5 hK5 => ?_
    refine W.regionF [0, 1, 5] [2, 3, 4, 6, 7] ([boxO 36 b0 [.slice p cost.length c]]) mixed (by kernel_rfl) rfl (by simp [keptL, boxO]) rfl (fun _ _ h => h) ?_
    simp only [sx, ty, q1, q2, q5, q6, q7, q8, q9, qa, qb, reduceIte, sxt, List.toList_toArray, RunP, sy, q3, q4]
    refine WF.q rfl rfl (QR.load [.slice p cost.length c] false rfl rfl agg36 sz36 (.inr rfl) (fun ρ w1 hb => box_at (k := 0) hb rfl)) ?_
    simp only [List.drop_succ_cons, List.drop_zero, List.take_succ_cons, List.take_zero, ofCells, Bool.false_eq_true, if_false, List.headD_cons]
    simp only [sx, ty, q1, q2, q5, q6, q7, q8, q9, qa, qb, reduceIte, sxt, List.toList_toArray, RunP, sy, q3, q4]
    refine WF.go rfl rfl rfl ?_
    simp only [sx, ty, q1, q2, q5, q6, q7, q8, q9, qa, qb, reduceIte, sxt, List.toList_toArray, RunP, sy, q3, q4]
    refine WF.go rfl rfl rfl ?_
    simp only [sx, ty, q1, q2, q5, q6, q7, q8, q9, qa, qb, reduceIte, sxt, List.toList_toArray, RunP, sy, q3, q4]
    refine WF.nil ?_
    simp only [sx, ty, q1, q2, q5, q6, q7, q8, q9, qa, qb, reduceIte, sxt, List.toList_toArray, RunP, sy, q3, q4]
    refine WC.one ?_
    refine WO.q (ds := []) rfl rfl rfl (QR.load [.slice p cost.length c] false rfl rfl agg36 sz36 (.inr rfl) (fun ρ w1 hb => box_at (k := 0) hb rfl)) ?_
    simp only [List.drop_succ_cons, List.drop_zero, List.take_succ_cons, List.take_zero, ofCells, Bool.false_eq_true, if_false, List.headD_cons]
    simp only [sx, ty, q1, q2, q5, q6, q7, q8, q9, qa, qb, reduceIte, List.append_assoc, List.cons_append, List.nil_append, sy, q3, q4]
    with_reducible refine WC.next (by simp [keptL, boxO]) (by simp) ?_
    refine WC.one ?_
    refine WO.call (.int .i64 (m : Int)) (ds := []) rfl rfl rfl rfl co31 (fun ρ w1 hb => by have h9 := wide_spec (Rp.now hl (hb.first (by simp))) (fun l hl => (hw.row l hl).1); rw [← hm]; exact h9) ?_
    simp only [sx, ty, q1, q2, q5, q6, q7, q8, q9, qa, qb, reduceIte, List.append_assoc, List.cons_append, List.nil_append, sy, q3, q4]
    with_reducible refine WC.next (by simp [keptL, boxO]) (by simp) ?_
    refine WC.one ?_
    refine WO.callO (fun b : Nat => .slice (some ⟨b, 0, none⟩) m m) (fun b => OIN m (List.replicate m (-1)) (some ⟨b, 0, none⟩, m)) (ds := []) rfl rfl rfl rfl co44 (fun x T cs h => by cases h) (fun ρ w1 hb => nobody_spec w1 m (by omega)) fun bo => ?_
    simp only [sx, ty, q1, q2, q5, q6, q7, q8, q9, qa, qb, reduceIte, List.append_assoc, List.cons_append, List.nil_append, sy, q3, q4]
    with_reducible refine WC.next (by simp [keptL, boxO]) (by simp) ?_
    refine WC.one ?_
    refine WO.callN (fun x : Nat × Nat × Nat => .func (.func 69) #[] #[.pointer (some ⟨x.2.1, 0, none⟩), .pointer (some ⟨x.2.2, 0, none⟩), .pointer (some ⟨x.1, 0, none⟩)]) (fun x => [boxO 3 x.1 [.int .i64 (cost.length : Int)], boxO 27 x.2.1 [.slice (some ⟨bo, 0, none⟩) m m], boxO 88 x.2.2 [.func (.func 45) #[] #[.pointer (some ⟨b0, 0, none⟩)]]]) (fun _ => True) (ds := []) rfl rfl rfl rfl co43 (by intro x o ho; simp at ho; rcases ho with rfl | rfl | rfl <;> rfl) (fun ρ w1 hb => finder_spec w1 (cost.length : Int) (some ⟨bo, 0, none⟩) m m 45 #[.pointer (some ⟨b0, 0, none⟩)]) fun x _ => ?_
    obtain ⟨x1, x2, x3⟩ := x
    simp only [St.pushO, List.cons_append, List.nil_append]
    simp only [sx, ty, q1, q2, q5, q6, q7, q8, q9, qa, qb, reduceIte, List.append_assoc, List.cons_append, List.nil_append, sy, q3, q4]
    with_reducible refine WC.next (by simp [keptL, boxO]) (by simp) ?_
    refine WC.one ?_
    refine WO.go 1 (ds := []) rfl ?_
    simp only [sx, ty, q1, q2, q5, q6, q7, q8, q9, qa, qb, reduceIte, List.append_assoc, List.cons_append, List.nil_append, sy, q3, q4]
    with_reducible refine WC.next (by simp [keptL, boxO]) (by simp) ?_
    with_reducible refine WC.nil ?_
    refine hK5 _ ?_; clear hK5
    refine W.seqK fun K6 hK6 => ?_
    refine W.seqK fun K7 hK7 => W.region ?_
    refine WO.loadBox (k := 0) (i := 0) (sz := 1) rfl (ds := []) rfl rfl rfl rfl rfl (by simp [Addr.add_mid]) (by simp) agg36 sz36 (.inr rfl) ?_
    simp only [List.drop_succ_cons, List.drop_zero, List.take_succ_cons, List.take_zero, ofCells, Bool.false_eq_true, if_false, List.headD_cons]
    refine WO.go 2 (ds := []) rfl ?_
    simp only [sx, ty, q1, q2, q5, q6, q7, q8, q9, qa, qb, reduceIte, sy, q3, q4]
    with_reducible refine WO.nil ?_
    refine hK7 _ ?_; clear hK7
    refine W.block ?_
    refine W.loopO (X := Nat × List Int) [6, 23] (fun x => [(24, .val (.int .i64 x.1))]) (fun x => [boxO 36 b0 [.slice p cost.length c], OIN m x.2 (some ⟨bo, 0, none⟩, m), boxO 3 x1 [.int .i64 (cost.length : Int)], boxO 27 x2 [.slice (some ⟨bo, 0, none⟩) m m], boxO 88 x3 [.func (.func 45) #[] #[.pointer (some ⟨b0, 0, none⟩)]]]) (fun x => [((fun _ => True), w)]) (fun x => x.1 ≤ cost.length ∧ x.2.length = m ∧ (∀ (k : Nat) (o : Int), x.2[k]? = some o → o < (cost.length : Int)) ∧ fin = shortGo (canF cost) m ((List.range cost.length).drop x.1) x.2) (fun x => cost.length - x.1) (0, List.replicate m (-1)) ?_ ?_ ?_
    · exact ⟨rfl, by simp [getE, bnd, keepE], ⟨[], by simp⟩, by simp [Own.bnd, bndL, bnd, boxO, OIN], by simp⟩
    · skip
      refine ⟨Nat.zero_le _, by simp, fun k o h => ?_, hfin0⟩
      have := List.mem_of_getElem? h
      rw [List.mem_replicate] at this
      omega
    · rintro ⟨i, ow⟩ hI
      simp only at hI
      have hic := hI.1
      simp only [sx, ty, q1, q2, q5, q6, q7, q8, q9, qa, qb, reduceIte, sxk, sy, q3, q4]
      refine W.pure (ds := []) rfl fun K8 hK8 => ?_
      simp only [sx, ty, q1, q2, q5, q6, q7, q8, q9, qa, qb, reduceIte, sy, q3, q4]; with_reducible refine hK8 _ ?_; clear hK8
      refine W.seqK fun K9 hK9 => ?_
      refine W.cond rfl rfl (fun hc => ?_) (fun hc => ?_)
      · skip
        have hlt : i < cost.length := by simpa using hc
        have hmn : ∀ l, l ∈ cost → l.length = m := fun l hl => by rw [← hm, wideF, if_neg (by omega)]; exact (hw.row l hl).1
        have htk := topF_ok (can := canF cost) (n := m) (row := (i : Int)) (R := cost.length) (by omega) hI.2.1 hI.2.2.1
        have heq := hI.2.2.2
        rw [range_drop hlt, shortGo] at heq
        obtain ⟨ok, ow2, met, htop⟩ : ∃ ok ow2 met, topF (canF cost) m (i : Int) ow = (ok, ow2, met) := ⟨_, _, _, rfl⟩
        rw [htop] at htk heq
        simp only at htk heq
        refine W.skip (hK9 _ ?_)
        refine W.seqK fun K10 hK10 => ?_
        refine W.block ?_
        refine W.pure (ds := []) rfl fun K11 hK11 => ?_
        simp only [sx, ty, q1, q2, q5, q6, q7, q8, q9, qa, qb, reduceIte, sy, q3, q4]; with_reducible refine hK11 _ ?_; clear hK11
        refine W.seqK fun K12 hK12 => W.region ?_
        refine WO.go 2 (ds := []) rfl ?_
        simp only [sx, ty, q1, q2, q5, q6, q7, q8, q9, qa, qb, reduceIte, sy, q3, q4]
        refine WO.callTN (own := [OIN m ow (some ⟨bo, 0, none⟩, m)]) [1] (fun x : Option Addr × Nat => .tuple #[.slice x.1 met.length x.2, .bool ok]) (fun _ => [OIN m ow2 (some ⟨bo, 0, none⟩, m)]) (fun x => [OI met x]) (fun _ => True) (ds := []) rfl rfl rfl rfl co69 ⟨rfl, trivial⟩ (by decide) rfl (fun _ => rfl) (fun _ => rfl) (fun ρ w1 hb hlie1 => ?_) fun x _ => ?_
        · have hkw : Keep (fun _ => True) w w1 := hb.at (by simp [St.put])
          have hszw := hkw.size
          have hkn : ∀ b, b < w.heap.size → b < w1.heap.size ∧ ¬ ofOwn [OIN m ow (some ⟨bo, 0, none⟩, m)] b := fun b hlt => ⟨by omega, fun ⟨i9, o9, g1, g2⟩ => by
            have g3 : i9 = 0 := by have := (List.getElem?_eq_some_iff.1 g1).1; simp at this; exact this
            subst g3
            simp only [List.getElem?_cons_zero, Option.some.injEq] at g1
            subst g1
            have := own_new (k := 1) (o := OIN m ow (some ⟨bo, 0, none⟩, m)) (b := b) hb (by simp [St.put] : ((fun _ => True), w) ∈ _) rfl g2
            omega⟩
          have h9 := finder1_spec (can := (canF cost)) (R := cost.length) (n := m) (K := 45) (caps := #[.pointer (some ⟨b0, 0, none⟩)]) co45 (w := w1) (Sc := fun b => b < w1.heap.size ∧ ¬ ofOwn [OIN m ow (some ⟨bo, 0, none⟩, m)] b) (fun b h => h.1)
            (fun w2 hk2 row k h0 hR hk => by
              have e1 : rRows.rd (fun b => b < w.heap.size) w2 [.slice p cost.length c] cost := Rp.keep hl9 ((hkw.mono fun _ _ _ => trivial).trans (hk2.mono fun b hb9 _ => hkn b hb9))
              have e2 := (box_at (k := 0) hb rfl).frame (hk2.block b0 ⟨own_old (j := 0) hb rfl rfl, other_own (j := 0) (ks := [1]) (own' := [OIN m ow (some ⟨bo, 0, none⟩, m)]) hb ⟨rfl, trivial⟩ rfl (by decide) rfl rfl⟩ (own_old (j := 0) hb rfl rfl))
              exact can45_spec e1 e2 (Nat.lt_of_lt_of_le (own_old (j := 0) hb rfl rfl) hk2.size) hmn row k h0 hR hk)
            (a1 := ⟨x2, 0, none⟩) (a2 := ⟨x3, 0, none⟩) (a3 := ⟨x1, 0, none⟩) (owner := ow) (bo := bo) (co := m) (rows := (cost.length : Int)) (row := (i : Int)) (box_at (k := 3) hb rfl) (box_at (k := 4) hb rfl) (box_at (k := 2) hb rfl)
            ⟨own_old (j := 3) hb rfl rfl, other_own (j := 3) (ks := [1]) (own' := [OIN m ow (some ⟨bo, 0, none⟩, m)]) hb ⟨rfl, trivial⟩ rfl (by decide) rfl rfl⟩ ⟨own_old (j := 4) hb rfl rfl, other_own (j := 4) (ks := [1]) (own' := [OIN m ow (some ⟨bo, 0, none⟩, m)]) hb ⟨rfl, trivial⟩ rfl (by decide) rfl rfl⟩ ⟨own_old (j := 2) hb rfl rfl, other_own (j := 2) (ks := [1]) (own' := [OIN m ow (some ⟨bo, 0, none⟩, m)]) hb ⟨rfl, trivial⟩ rfl (by decide) rfl rfl⟩
            (fun b h => h.2) (by omega) (by omega) (by omega) (by omega) hI.2.1 hI.2.2.1 hlie1
          rw [htop] at h9
          exact Calls.mono h9 fun e w2 ⟨v, he, hk, x, h1, h2⟩ => ⟨v, he, hk, x, h1, trivial, h2⟩
        obtain ⟨p4, c4⟩ := x
        refine WO.ownIs ([boxO 36 b0 [.slice p cost.length c], OIN m ow2 (some ⟨bo, 0, none⟩, m), boxO 3 x1 [.int .i64 (cost.length : Int)], boxO 27 x2 [.slice (some ⟨bo, 0, none⟩) m m], boxO 88 x3 [.func (.func 45) #[] #[.pointer (some ⟨b0, 0, none⟩)]]] ++ [OI met (p4, c4)]) rfl ?_
        simp only [List.cons_append, List.nil_append]
        refine WO.go 5 (ds := []) rfl ?_
        simp only [sx, ty, q1, q2, q5, q6, q7, q8, q9, qa, qb, reduceIte, sy, q3, q4]
        with_reducible refine WO.nil ?_
        refine hK12 _ ?_; clear hK12
        refine W.pure (ds := []) rfl fun K13 hK13 => ?_
        simp only [sx, ty, q1, q2, q5, q6, q7, q8, q9, qa, qb, reduceIte, sy, q3, q4]; with_reducible refine hK13 _ ?_; clear hK13
        refine W.cond rfl rfl (fun hc => ?_) (fun hc => ?_)
        · skip
          have hok : ok = false := by simpa using hc
          subst hok
          simp only [Bool.false_eq_true, if_false] at heq
          refine W.seqK fun K14 hK14 => W.region ?_
          refine WO.go 1 (ds := []) rfl ?_
          simp only [sx, ty, q1, q2, q5, q6, q7, q8, q9, qa, qb, reduceIte, sy, q3, q4]
          refine WO.callL (own := [OI met (p4, c4)]) [5] (fun _ : List Int => .tuple #[]) (fun l' => [OIN met.length l' (p4, c4)]) (fun _ l' _ => l'.length = met.length) (ds := []) rfl rfl rfl rfl co46 ⟨rfl, trivial⟩ (by decide) rfl (fun _ => rfl) (fun _ => rfl) (fun ρ w1 hb hlie => Calls.mono (sort_spec (l := met) (n := met.length) (q := p4) (c := c4) rfl (by omega) hlie) fun e w2 ⟨v, he, hk, l', h1, h2, h3⟩ => ⟨v, he, hk, l', h1, h2, h3⟩) fun l' lo s8 hl' => ?_
          simp only [sx, ty, q1, q2, q5, q6, q7, q8, q9, qa, qb, reduceIte, sy, q3, q4]
          with_reducible refine WO.nil ?_
          refine hK14 _ ?_; clear hK14
          refine W.pure (ds := []) rfl fun K15 hK15 => ?_
          simp only [sx, ty, q1, q2, q5, q6, q7, q8, q9, qa, qb, reduceIte, sy, q3, q4]; with_reducible refine hK15 _ ?_; clear hK15
          refine W.ret ⟨by simp, _, rfl, fun ρ w1 hb => ?_⟩
          rw [heq]; exact ⟨(p4, c4), by simp only [den, denL]⟩
        · skip
          have hok : ok = true := by simpa using hc
          subst hok
          simp only [if_true] at heq
          refine W.skip (hK10 _ ?_)
          refine W.region ?_
          refine WO.go 2 (ds := []) rfl ?_
          simp only [sx, ty, q1, q2, q5, q6, q7, q8, q9, qa, qb, reduceIte, sy, q3, q4]
          with_reducible refine WO.nil ?_
          refine ⟨(i + 1, ow2), ⟨hlt, htk.1, htk.2.1, heq⟩, by simp only; omega, rfl, by simp [getE, bnd, keepE, wrap_succ (show i + 1 ≤ 9223372036854775807 by omega)], ⟨[OI met (p4, c4)], by simp⟩, by simp [Own.bnd, bndL, bnd, OIN, boxO], by simp⟩
      · skip
        obtain rfl : i = cost.length := Nat.le_antisymm hic (by simpa using hc)
        have heq := hI.2.2.2
        rw [List.drop_eq_nil_of_le (by simp), shortGo] at heq
        refine W.exit (hK6 _ ?_)
        refine W.pure (ds := []) rfl fun K16 hK16 => ?_
        simp only [sx, ty, q1, q2, q5, q6, q7, q8, q9, qa, qb, reduceIte, sy, q3, q4]; with_reducible refine hK16 _ ?_; clear hK16
        refine W.ret ⟨by simp, _, rfl, fun ρ w1 hb => ?_⟩
        rw [heq]; exact ⟨(none, 0), rfl⟩
end Go.Proofs.YtolmeekbjonbcaaGreat
set_option linter.unusedVariables false
namespace Go.Proofs.YtolmeekbjonbcaaGreat
open Go Go.SX
abbrev far : Int := 1099511627776
/-- rows have columns of their own, at costs -/
structure Mat (c : Nat → Nat → Int) (R n : Nat) (f : Nat → Nat) : Prop where
  lt : ∀ i, i < R → f i < n
  ok : ∀ i, i < R → 0 ≤ c i (f i)
  inj : ∀ i j, i < R → j < R → f i = f j → i = j
structure CostOk (c : Nat → Nat → Int) (R n : Nat) : Prop where
  small : n ≤ 11
  hi : ∀ i k, i < R → k < n → c i k ≤ 1000000
/-- before row r: prices, and who has which column -/
structure RInv (c : Nat → Nat → Int) (R n r : Nat) (rows cols owner : Nat → Int) : Prop where
  feas : ∀ i k, i < R → k < n → 0 ≤ c i k → rows i + cols k ≤ c i k
  cneg : ∀ k, k < n → cols k ≤ 0
  rpos : ∀ i, i < R → 0 ≤ rows i
  rnew : ∀ i, r ≤ i → i < R → rows i = 0
  own : ∀ k, k < n → 0 ≤ owner k → ∃ i : Nat, i < r ∧ owner k = (i : Int) ∧ 0 ≤ c i k ∧ rows i + cols k = c i k
  inj : ∀ k k', k < n → k' < n → 0 ≤ owner k → owner k = owner k' → k = k'
  onto : ∀ i, i < r → ∃ k : Nat, k < n ∧ owner k = (i : Int)
  free : ∀ k, k < n → owner k < 0 → cols k = 0
  rb : ∀ i, i < R → rows i ≤ r * (12 * 1000000)
  cb : ∀ k, k < n → -(r * (12 * 1000000)) ≤ cols k
/-- which rows are met, and how far they are -/
def Scn (r : Nat) (owner dist : Nat → Int) (ord : List Nat) (i : Nat) (d : Int) : Prop := (i = r ∧ d = 0) ∨ ∃ k : Nat, k ∈ ord ∧ owner k = (i : Int) ∧ d = dist k
/-- the columns that are done, in their order; what of each column is known -/
structure TBase (c : Nat → Nat → Int) (R n r : Nat) (rows cols owner : Nat → Int) (ord : List Nat) (dist from_ : Nat → Int) (base : Int) : Prop where
  nd : ord.Nodup
  lt : ∀ k, k ∈ ord → k < n
  own : ∀ k, k ∈ ord → 0 ≤ owner k
  b0 : 0 ≤ base
  d0 : ∀ k, k < n → 0 ≤ dist k ∧ dist k ≤ far
  dn : ∀ k, k ∈ ord → dist k ≤ base ∧ dist k < far
  un : ∀ k, k < n → k ∉ ord → base ≤ dist k
  fr : ∀ k, k < n → dist k < far → (from_ k = -1 ∧ 0 ≤ c r k ∧ dist k = c r k - rows r - cols k) ∨ ∃ (k' i : Nat), k' ∈ ord ∧ from_ k = (k' : Int) ∧ owner k' = (i : Int) ∧ 0 ≤ c i k ∧ dist k = dist k' + c i k - rows i - cols k ∧ ord.idxOf k' < ord.idxOf k
  fn : ∀ k, k < n → ¬ dist k < far → from_ k = -1
/-- where the row 'at' is to be looked at -/
structure TInv (c : Nat → Nat → Int) (R n r : Nat) (rows cols owner : Nat → Int) (ord : List Nat) (dist from_ : Nat → Int) (at' : Nat) (now base : Int) : Prop extends TBase c R n r rows cols owner ord dist from_ base where
  cur : (ord = [] ∧ at' = r ∧ now = -1 ∧ base = 0) ∨ ∃ (o : List Nat) (k : Nat), ord = o ++ [k] ∧ now = (k : Int) ∧ owner k = (at' : Int) ∧ base = dist k
  sc : ∀ i d, Scn r owner dist ord i d → i ≠ at' → ∀ k, k < n → 0 ≤ c i k → dist k ≤ d + c i k - rows i - cols k
/-- .. and where it was -/
structure TMid (c : Nat → Nat → Int) (R n r : Nat) (rows cols owner : Nat → Int) (ord : List Nat) (dist from_ : Nat → Int) (base : Int) : Prop extends TBase c R n r rows cols owner ord dist from_ base where
  sc : ∀ i d, Scn r owner dist ord i d → ∀ k, k < n → 0 ≤ c i k → dist k ≤ d + c i k - rows i - cols k
section
variable {c : Nat → Nat → Int} {R n r : Nat} {rows cols owner : Nat → Int}
theorem TInv.start (hR : RInv c R n r rows cols owner) : TInv c R n r rows cols owner [] (fun _ => far) (fun _ => -1) r (-1) 0 where
  nd := List.nodup_nil
  lt := fun k h => by cases h
  own := fun k h => by cases h
  b0 := Int.le_refl _
  d0 := fun k _ => ⟨by decide, Int.le_refl _⟩
  dn := fun k h => by cases h
  un := fun k _ _ => by decide
  fr := fun k _ h => absurd h (by decide)
  fn := fun _ _ _ => rfl
  cur := .inl ⟨rfl, rfl, rfl, rfl⟩
  sc := fun i d h hne => by
    rcases h with ⟨rfl, _⟩ | ⟨k, hk, _⟩
    · exact absurd rfl hne
    · cases hk
/-- the rows that are met are different -/
theorem Scn.inj {ord : List Nat} {dist : Nat → Int} (hR : RInv c R n r rows cols owner) (hlt : ∀ k, k ∈ ord → k < n) (hown : ∀ k, k ∈ ord → 0 ≤ owner k) {i : Nat} {d d' : Int} (h : Scn r owner dist ord i d) (h' : Scn r owner dist ord i d') : d = d' := by
  have hr : ∀ k, k ∈ ord → owner k ≠ (r : Int) := fun k hk he => by
    obtain ⟨j, h1, h2, _⟩ := hR.own k (hlt k hk) (hown k hk)
    omega
  rcases h with ⟨rfl, rfl⟩ | ⟨k, hk, h1, rfl⟩ <;> rcases h' with ⟨h3, h4⟩ | ⟨k', hk', h3, h4⟩
  · exact h4.symm
  · exact absurd h3 (hr k' hk')
  · subst h3; exact absurd h1 (hr k hk)
  · have := hR.inj k k' (hlt k hk) (hlt k' hk') (hown k hk) (by rw [h1, h3])
    subst this; exact h4.symm
theorem Scn.lt {ord : List Nat} {dist : Nat → Int} (hR : RInv c R n r rows cols owner) (hr : r < R) (hlt : ∀ k, k ∈ ord → k < n) (hown : ∀ k, k ∈ ord → 0 ≤ owner k) {i : Nat} {d : Int} (h : Scn r owner dist ord i d) : i < R := by
  rcases h with ⟨rfl, _⟩ | ⟨k, hk, h1, _⟩
  · exact hr
  · obtain ⟨j, h2, h3, _⟩ := hR.own k (hlt k hk) (hown k hk)
    omega
/-- the row that is looked at, and how far it is -/
theorem TInv.scn {ord : List Nat} {dist from_ : Nat → Int} {at' : Nat} {now base : Int} (hT : TInv c R n r rows cols owner ord dist from_ at' now base) : Scn r owner dist ord at' base := by
  rcases hT.cur with ⟨_, h2, _, h4⟩ | ⟨o, k, h1, _, h3, h4⟩
  · exact .inl ⟨h2, h4⟩
  · exact .inr ⟨k, by rw [h1]; simp, h3, h4⟩
/-- the row at' is looked at: column k -/
def relaxC (c : Nat → Nat → Int) (rows cols : Nat → Int) (at' : Nat) (base : Int) (ord : List Nat) (dist : Nat → Int) (k : Nat) : Bool :=
  decide (0 ≤ c at' k) && (!decide (k ∈ ord) && decide (base + c at' k - rows at' - cols k < dist k))
def relaxD (c : Nat → Nat → Int) (rows cols : Nat → Int) (at' : Nat) (base : Int) (ord : List Nat) (dist : Nat → Int) (j k : Nat) : Int :=
  if k < j ∧ relaxC c rows cols at' base ord dist k = true then base + c at' k - rows at' - cols k else dist k
def relaxP (c : Nat → Nat → Int) (rows cols : Nat → Int) (at' : Nat) (now base : Int) (ord : List Nat) (dist from_ : Nat → Int) (j k : Nat) : Int :=
  if k < j ∧ relaxC c rows cols at' base ord dist k = true then now else from_ k
theorem relax_mid {ord : List Nat} {dist from_ : Nat → Int} {at' : Nat} {now base : Int} (hR : RInv c R n r rows cols owner) (hr : r < R) (hT : TInv c R n r rows cols owner ord dist from_ at' now base) :
    TMid c R n r rows cols owner ord (relaxD c rows cols at' base ord dist n) (relaxP c rows cols at' now base ord dist from_ n) base := by
  have hat := hT.scn.lt hR hr hT.lt hT.own
  have hset : ∀ k, k < n → relaxC c rows cols at' base ord dist k = true → 0 ≤ c at' k ∧ k ∉ ord ∧ base + c at' k - rows at' - cols k < dist k := fun k _ h => by simpa [relaxC] using h
  have hin : ∀ k, k ∈ ord → relaxD c rows cols at' base ord dist n k = dist k := fun k hk => by
    unfold relaxD
    rw [if_neg]
    rintro ⟨h1, h2⟩
    exact (hset k h1 h2).2.1 hk
  have hle : ∀ k, k < n → relaxD c rows cols at' base ord dist n k ≤ dist k := fun k hk => by
    unfold relaxD
    split
    · rename_i h; have := (hset k h.1 h.2).2.2; omega
    · omega
  have hlo : ∀ k, k < n → k ∉ ord → base ≤ relaxD c rows cols at' base ord dist n k := fun k hk ho => by
    unfold relaxD
    split
    · rename_i h
      have h1 := (hset k h.1 h.2).1
      have := hR.feas at' k hat hk h1
      omega
    · exact hT.un k hk ho
  refine ⟨⟨hT.nd, hT.lt, hT.own, hT.b0, fun k hk => ?_, fun k hk => ?_, hlo, fun k hk hd => ?_, fun k hk hd => ?_⟩, fun i d hs k hk h0 => ?_⟩
  · have h1 := hT.d0 k hk
    have h2 := hle k hk
    by_cases ho : k ∈ ord
    · rw [hin k ho]; exact h1
    · have := hlo k hk ho
      have := hT.b0
      omega
  · rw [hin k hk]; exact hT.dn k hk
  · by_cases hc : relaxC c rows cols at' base ord dist k = true
    · obtain ⟨g1, g2, g3⟩ := hset k hk hc
      have e1 : relaxD c rows cols at' base ord dist n k = base + c at' k - rows at' - cols k := by unfold relaxD; rw [if_pos ⟨hk, hc⟩]
      have e2 : relaxP c rows cols at' now base ord dist from_ n k = now := by unfold relaxP; rw [if_pos ⟨hk, hc⟩]
      rw [e1, e2]
      rcases hT.cur with ⟨h1, h2, h3, h4⟩ | ⟨o, k', h1, h2, h3, h4⟩
      · subst h2
        exact .inl ⟨h3, g1, by omega⟩
      · have hk' : k' ∈ ord := by rw [h1]; simp
        refine .inr ⟨k', at', hk', h2, h3, g1, by rw [hin k' hk', h4], ?_⟩
        rw [List.idxOf_eq_length (a := k) g2]
        exact List.idxOf_lt_length_of_mem hk'
    · have e1 : relaxD c rows cols at' base ord dist n k = dist k := by unfold relaxD; rw [if_neg fun h => hc h.2]
      have e2 : relaxP c rows cols at' now base ord dist from_ n k = from_ k := by unfold relaxP; rw [if_neg fun h => hc h.2]
      rw [e1] at hd ⊢
      rw [e2]
      rcases hT.fr k hk hd with h | ⟨k', i, h1, h2, h3, h4, h5, h6⟩
      · exact .inl h
      · exact .inr ⟨k', i, h1, h2, h3, h4, by rw [hin k' h1]; exact h5, h6⟩
  · by_cases hc : relaxC c rows cols at' base ord dist k = true
    · obtain ⟨g1, g2, g3⟩ := hset k hk hc
      have e1 : relaxD c rows cols at' base ord dist n k = base + c at' k - rows at' - cols k := by unfold relaxD; rw [if_pos ⟨hk, hc⟩]
      have := (hT.d0 k hk).2
      omega
    · have e1 : relaxD c rows cols at' base ord dist n k = dist k := by unfold relaxD; rw [if_neg fun h => hc h.2]
      have e2 : relaxP c rows cols at' now base ord dist from_ n k = from_ k := by unfold relaxP; rw [if_neg fun h => hc h.2]
      rw [e1] at hd
      rw [e2]
      exact hT.fn k hk hd
  · have hs' : Scn r owner dist ord i d := by
      rcases hs with h | ⟨k', hk', h1, h2⟩
      · exact .inl h
      · exact .inr ⟨k', hk', h1, by rw [h2, hin k' hk']⟩
    by_cases hi : i = at'
    · subst hi
      have hd := hs'.inj hR hT.lt hT.own hT.scn
      subst hd
      by_cases ho : k ∈ ord
      · rw [hin k ho]
        have := (hT.dn k ho).1
        have := hR.feas i k hat hk h0
        omega
      · unfold relaxD
        split
        · omega
        · rename_i hc
          have : ¬ (d + c i k - rows i - cols k < dist k) := fun h => hc ⟨hk, by simp [relaxC, h0, ho, h]⟩
          omega
    · have := hT.sc i d hs' hi k hk h0
      have := hle k hk
      omega
end
section
variable {c : Nat → Nat → Int} {R n r : Nat} {rows cols owner : Nat → Int}
theorem nodup_len {α : Type} [DecidableEq α] : ∀ {l m : List α}, l.Nodup → (∀ x, x ∈ l → x ∈ m) → l.length ≤ m.length
  | [], _, _, _ => Nat.zero_le _
  | x :: l, m, h, hs => by
    rw [List.nodup_cons] at h
    have h1 := hs x List.mem_cons_self
    have h2 := nodup_len (l := l) (m := m.erase x) h.2 fun y hy => by
      have hyx : y ≠ x := fun he => h.1 (he ▸ hy)
      exact (List.mem_erase_of_ne hyx).2 (hs y (List.mem_cons_of_mem _ hy))
    have h3 := List.length_erase_of_mem h1
    have h4 : 0 < m.length := List.length_pos_of_mem h1
    rw [List.length_cons]; omega
theorem nodup_map {α β : Type} {f : α → β} {l : List α} (h : l.Nodup) (hf : ∀ x y, x ∈ l → y ∈ l → f x = f y → x = y) : (l.map f).Nodup := by
  induction l with
  | nil => exact List.nodup_nil
  | cons x l ih =>
    rw [List.nodup_cons] at h
    rw [List.map_cons, List.nodup_cons]
    refine ⟨fun hm => ?_, ih h.2 fun a b ha hb => hf a b (List.mem_cons_of_mem _ ha) (List.mem_cons_of_mem _ hb)⟩
    obtain ⟨y, hy, he⟩ := List.mem_map.1 hm
    have := hf y x (List.mem_cons_of_mem _ hy) List.mem_cons_self he
    exact h.1 (this ▸ hy)
theorem Mat.le {f : Nat → Nat} (h : Mat c R n f) : R ≤ n := by
  have := nodup_len (l := (List.range R).map f) (m := List.range n) (nodup_map List.nodup_range fun x y hx hy he => h.inj x y (List.mem_range.1 hx) (List.mem_range.1 hy) he) fun k hk => by
    obtain ⟨i, hi, rfl⟩ := List.mem_map.1 hk
    exact List.mem_range.2 (h.lt i (List.mem_range.1 hi))
  simpa using this
theorem ord_len {ord : List Nat} (hnd : ord.Nodup) (hlt : ∀ k, k ∈ ord → k < n) : ord.length ≤ n := by
  have := nodup_len (m := List.range n) hnd fun k hk => List.mem_range.2 (hlt k hk)
  simpa using this
/-- how far a column can be -/
theorem TBase.ub {ord : List Nat} {dist from_ : Nat → Int} {base : Int} (hC : CostOk c R n) (hR : RInv c R n r rows cols owner) (hr : r < R) (hT : TBase c R n r rows cols owner ord dist from_ base) :
    ∀ (m k : Nat), ord.idxOf k = m → k < n → dist k < far → dist k + cols k ≤ (1 + (m : Int)) * 1000000 := by
  intro m
  induction m using Nat.strongRecOn with
  | _ m ih =>
    intro k hm hk hd
    rcases hT.fr k hk hd with ⟨_, h2, h3⟩ | ⟨k', i, h1, _, h3, h4, h5, h6⟩
    · have := hR.rnew r (Nat.le_refl _) hr
      have := hC.hi r k hr hk
      omega
    · have hk' := hT.lt k' h1
      obtain ⟨j, g1, g2, g3, g4⟩ := hR.own k' hk' (hT.own k' h1)
      have : j = i := by omega
      subst this
      have := ih (ord.idxOf k') (by omega) k' rfl hk' (hT.dn k' h1).2
      have := hC.hi j k (by omega) hk
      omega
theorem cr_small {r : Nat} (h : r ≤ 11) : (r : Int) * (12 * 1000000) ≤ 132000000 := by
  omega
/-- a column that is not done can be reached -/
theorem TMid.reach {ord : List Nat} {dist from_ : Nat → Int} {base : Int} {f : Nat → Nat} (hC : CostOk c R n) (hM : Mat c R n f) (hR : RInv c R n r rows cols owner) (hr : r < R) (hT : TMid c R n r rows cols owner ord dist from_ base) :
    ∃ k, k < n ∧ k ∉ ord ∧ dist k < far := by
  apply Classical.byContradiction
  intro hno
  have hRn := hM.le
  have hn := hC.small
  have hol := ord_len hT.nd hT.lt
  have hcr := cr_small (r := r) (by omega)
  have hub : ∀ k, k ∈ ord → dist k ≤ 12 * 1000000 + 132000000 := fun k hk => by
    have h1 := TBase.ub hC hR hr hT.toTBase _ k rfl (hT.lt k hk) (hT.dn k hk).2
    have h2 := hR.cb k (hT.lt k hk)
    have h3 := List.idxOf_lt_length_of_mem hk
    omega
  have hin : ∀ i d, Scn r owner dist ord i d → f i ∈ ord := fun i d hs => by
    have hi := hs.lt hR hr hT.lt hT.own
    apply Classical.byContradiction
    intro hfo
    refine hno ⟨f i, hM.lt i hi, hfo, ?_⟩
    have h1 := hT.sc i d hs (f i) (hM.lt i hi) (hM.ok i hi)
    have h2 := hC.hi i (f i) hi (hM.lt i hi)
    have h3 := hR.rpos i hi
    have h4 := hR.cb (f i) (hM.lt i hi)
    have hd : d ≤ 12 * 1000000 + 132000000 := by
      rcases hs with ⟨_, h⟩ | ⟨k, hk, _, h⟩
      · omega
      · rw [h]; exact hub k hk
    have : (far : Int) = 1099511627776 := rfl
    omega
  have hscn : ∀ x, x ∈ r :: ord.map (fun k => (owner k).toNat) → ∃ d, Scn r owner dist ord x d := fun x hx => by
    rcases List.mem_cons.1 hx with rfl | hx
    · exact ⟨0, .inl ⟨rfl, rfl⟩⟩
    · obtain ⟨k, hk, rfl⟩ := List.mem_map.1 hx
      exact ⟨dist k, .inr ⟨k, hk, (Int.toNat_of_nonneg (hT.own k hk)).symm, rfl⟩⟩
  have hnd : (r :: ord.map (fun k => (owner k).toNat)).Nodup := by
    rw [List.nodup_cons]
    refine ⟨fun h => ?_, nodup_map hT.nd fun x y hx hy he => hR.inj x y (hT.lt x hx) (hT.lt y hy) (hT.own x hx) (by have := hT.own x hx; have := hT.own y hy; omega)⟩
    obtain ⟨k, hk, he⟩ := List.mem_map.1 h
    obtain ⟨j, h1, h2, _⟩ := hR.own k (hT.lt k hk) (hT.own k hk)
    omega
  have hlt : ∀ x, x ∈ r :: ord.map (fun k => (owner k).toNat) → x < R := fun x hx => by
    obtain ⟨d, hd⟩ := hscn x hx
    exact hd.lt hR hr hT.lt hT.own
  have := nodup_len (l := (r :: ord.map (fun k => (owner k).toNat)).map f) (m := ord) (nodup_map hnd fun x y hx hy he => hM.inj x y (hlt x hx) (hlt y hy) he) fun k hk => by
    obtain ⟨i, hi, rfl⟩ := List.mem_map.1 hk
    obtain ⟨d, hd⟩ := hscn i hi
    exact hin i d hd
  simp at this
  omega
/-- the nearest column that is not done, of the first j -/
def pickN (ord : List Nat) (dist : Nat → Int) : Nat → Int
  | 0 => -1
  | j + 1 => if (!decide (j ∈ ord) && (decide (pickN ord dist j < 0) || decide (dist j < dist (pickN ord dist j).toNat))) = true then (j : Int) else pickN ord dist j
theorem pickN_spec {ord : List Nat} {dist : Nat → Int} : ∀ j, (pickN ord dist j = -1 ∧ ∀ k, k < j → k ∈ ord) ∨ ∃ k : Nat, pickN ord dist j = (k : Int) ∧ k < j ∧ k ∉ ord ∧ ∀ k', k' < j → k' ∉ ord → dist k ≤ dist k'
  | 0 => .inl ⟨rfl, fun k h => by omega⟩
  | j + 1 => by
    rw [pickN]
    split
    · rename_i h
      simp only [Bool.and_eq_true, Bool.not_eq_true', decide_eq_false_iff_not, Bool.or_eq_true, decide_eq_true_eq] at h
      refine .inr ⟨j, rfl, by omega, h.1, fun k' h1 h2 => ?_⟩
      rcases Nat.lt_succ_iff_lt_or_eq.1 h1 with h3 | rfl
      · rcases pickN_spec (ord := ord) (dist := dist) j with ⟨g1, g2⟩ | ⟨k, g1, g2, g3, g4⟩
        · exact absurd (g2 k' h3) h2
        · have := g4 k' h3 h2
          rw [g1] at h
          rcases h.2 with h4 | h4
          · omega
          · simp only [Int.toNat_natCast] at h4; omega
      · omega
    · rename_i h
      simp only [Bool.and_eq_true, Bool.not_eq_true', decide_eq_false_iff_not, Bool.or_eq_true, decide_eq_true_eq, not_and, not_or] at h
      rcases pickN_spec (ord := ord) (dist := dist) j with ⟨g1, g2⟩ | ⟨k, g1, g2, g3, g4⟩
      · refine .inl ⟨g1, fun k hk => ?_⟩
        rcases Nat.lt_succ_iff_lt_or_eq.1 hk with h3 | rfl
        · exact g2 k h3
        · apply Classical.byContradiction
          intro hk2
          have := (h hk2).1
          rw [g1] at this; omega
      · refine .inr ⟨k, g1, by omega, g3, fun k' h1 h2 => ?_⟩
        rcases Nat.lt_succ_iff_lt_or_eq.1 h1 with h3 | rfl
        · exact g4 k' h3 h2
        · have := (h h2).2
          rw [g1] at this
          simp only [Int.toNat_natCast] at this; omega
/-- the column that is done next -/
structure Nxt (n : Nat) (ord : List Nat) (dist : Nat → Int) (k : Nat) : Prop where
  lt : k < n
  un : k ∉ ord
  min : ∀ k', k' < n → k' ∉ ord → dist k ≤ dist k'
  near : dist k < far
theorem TMid.pick {ord : List Nat} {dist from_ : Nat → Int} {base : Int} {f : Nat → Nat} (hC : CostOk c R n) (hM : Mat c R n f) (hR : RInv c R n r rows cols owner) (hr : r < R) (hT : TMid c R n r rows cols owner ord dist from_ base) : ∃ k : Nat, pickN ord dist n = (k : Int) ∧ Nxt n ord dist k := by
  obtain ⟨k0, h1, h2, h3⟩ := hT.reach hC hM hR hr
  rcases pickN_spec (ord := ord) (dist := dist) n with ⟨_, g2⟩ | ⟨k, g1, g2, g3, g4⟩
  · exact absurd (g2 k0 h1) h2
  · exact ⟨k, g1, g2, g3, g4, by have := g4 k0 h1 h2; omega⟩
theorem idxOf_app {ord : List Nat} {k x : Nat} : (x ∈ ord → (ord ++ [k]).idxOf x = ord.idxOf x) ∧ (x ∉ ord → ord.length ≤ (ord ++ [k]).idxOf x) := by
  refine ⟨fun h => by rw [List.idxOf_append, if_pos h], fun h => ?_⟩
  rw [List.idxOf_append]
  rw [if_neg h]; omega
/-- the next column has a row: it is looked at next -/
theorem TMid.next {ord : List Nat} {dist from_ : Nat → Int} {base : Int} {k at' : Nat} (hR : RInv c R n r rows cols owner) (hT : TMid c R n r rows cols owner ord dist from_ base) (hk : Nxt n ord dist k) (ho : owner k = (at' : Int)) :
    TInv c R n r rows cols owner (ord ++ [k]) dist from_ at' (k : Int) (dist k) where
  nd := by rw [List.nodup_append]; exact ⟨hT.nd, by simp, fun a ha b hb he => by simp at hb; subst hb; subst he; exact hk.un ha⟩
  lt := fun x hx => by
    rcases List.mem_append.1 hx with h | h
    · exact hT.lt x h
    · simp at h; subst h; exact hk.lt
  own := fun x hx => by
    rcases List.mem_append.1 hx with h | h
    · exact hT.own x h
    · simp at h; subst h; omega
  b0 := (hT.d0 k hk.lt).1
  d0 := hT.d0
  dn := fun x hx => by
    rcases List.mem_append.1 hx with h | h
    · exact ⟨Int.le_trans (hT.dn x h).1 (hT.un k hk.lt hk.un), (hT.dn x h).2⟩
    · simp at h; subst h; exact ⟨Int.le_refl _, hk.near⟩
  un := fun x hx hx2 => hk.min x hx fun h => hx2 (List.mem_append_left _ h)
  fr := fun x hx hd => by
    rcases hT.fr x hx hd with h | ⟨k', i, h1, h2, h3, h4, h5, h6⟩
    · exact .inl h
    · refine .inr ⟨k', i, List.mem_append_left _ h1, h2, h3, h4, h5, ?_⟩
      rw [idxOf_app.1 h1]
      by_cases hxo : x ∈ ord
      · rw [idxOf_app.1 hxo]; exact h6
      · have := (idxOf_app (k := k)).2 hxo
        have := List.idxOf_lt_length_of_mem h1
        omega
  fn := hT.fn
  cur := .inr ⟨ord, k, rfl, rfl, ho, rfl⟩
  sc := fun i d hs hi x hx h0 => by
    refine hT.sc i d ?_ x hx h0
    rcases hs with h | ⟨k', h1, h2, h3⟩
    · exact .inl h
    · rcases List.mem_append.1 h1 with h | h
      · exact .inr ⟨k', h, h2, h3⟩
      · simp at h; subst h
        rw [ho] at h2
        exact absurd (by omega) hi
end
end Go.Proofs.YtolmeekbjonbcaaGreat
set_option linter.unusedVariables false
namespace Go.Proofs.YtolmeekbjonbcaaGreat
open Go Go.SX
def updI (f : Nat → Int) (i : Nat) (v : Int) : Nat → Int := fun x => if x = i then v else f x
theorem updI_at (f : Nat → Int) (i : Nat) (v : Int) : updI f i v i = v := by simp [updI]
theorem updI_ne {f : Nat → Int} {i x : Nat} {v : Int} (h : x ≠ i) : updI f i v x = f x := by simp [updI, h]
/-- the rows' prices, when the first j columns have been gone through -/
def rowsJ (rows owner dist : Nat → Int) (ord : List Nat) (r : Nat) (b : Int) : Nat → Nat → Int
  | 0 => updI rows r (rows r + b)
  | j + 1 => if j ∈ ord then updI (rowsJ rows owner dist ord r b j) (owner j).toNat (rowsJ rows owner dist ord r b j (owner j).toNat + (b - dist j)) else rowsJ rows owner dist ord r b j
def colsJ (cols dist : Nat → Int) (ord : List Nat) (b : Int) (j k : Nat) : Int := if k < j ∧ k ∈ ord then cols k - (b - dist k) else cols k
section
variable {c : Nat → Nat → Int} {R n r : Nat} {rows cols owner : Nat → Int}
theorem rowsJ_no {dist : Nat → Int} {ord : List Nat} {b : Int} {i : Nat} (hown : ∀ k, k ∈ ord → 0 ≤ owner k) : ∀ j, (∀ k, k < j → k ∈ ord → owner k ≠ (i : Int)) → rowsJ rows owner dist ord r b j i = updI rows r (rows r + b) i
  | 0, _ => rfl
  | j + 1, h => by
    rw [rowsJ]
    have ih := rowsJ_no (dist := dist) (b := b) hown j fun k hk => h k (by omega)
    split
    · rename_i hj
      have := h j (by omega) hj
      have := hown j hj
      rw [updI_ne (by omega)]; exact ih
    · exact ih
theorem rowsJ_yes {dist : Nat → Int} {ord : List Nat} {b : Int} {i : Nat} (hR : RInv c R n r rows cols owner) (hlt : ∀ k, k ∈ ord → k < n) (hown : ∀ k, k ∈ ord → 0 ≤ owner k) {k : Nat} (hk : k ∈ ord) (ho : owner k = (i : Int)) : ∀ j, k < j → rowsJ rows owner dist ord r b j i = updI rows r (rows r + b) i + (b - dist k)
  | 0, h => by omega
  | j + 1, h => by
    rw [rowsJ]
    rcases Nat.lt_succ_iff_lt_or_eq.1 h with h1 | rfl
    · have ih := rowsJ_yes (dist := dist) (b := b) hR hlt hown hk ho j h1
      split
      · rename_i hj
        rw [updI_ne]
        · exact ih
        · intro he
          have h2 := hown j hj
          have := hR.inj j k (hlt j hj) (hlt k hk) h2 (by omega)
          omega
      · exact ih
    · rw [if_pos hk, show (owner k).toNat = i by omega, updI_at, rowsJ_no hown k fun k' h1 h2 he => by
        have := hR.inj k' k (hlt k' h2) (hlt k hk) (hown k' h2) (by omega)
        omega]
/-- what the new prices are -/
theorem rows_scn {dist : Nat → Int} {ord : List Nat} {b : Int} (hR : RInv c R n r rows cols owner) (hlt : ∀ k, k ∈ ord → k < n) (hown : ∀ k, k ∈ ord → 0 ≤ owner k) {i : Nat} {d : Int} (h : Scn r owner dist ord i d) : rowsJ rows owner dist ord r b n i = rows i + (b - d) := by
  have hr : ∀ k, k ∈ ord → owner k ≠ (r : Int) := fun k hk he => by
    obtain ⟨j, h1, h2, _⟩ := hR.own k (hlt k hk) (hown k hk)
    omega
  rcases h with ⟨rfl, rfl⟩ | ⟨k, hk, h1, rfl⟩
  · rw [rowsJ_no hown n fun k _ hk => hr k hk, updI_at]; omega
  · rw [rowsJ_yes hR hlt hown hk h1 n (hlt k hk), updI_ne]
    intro he; subst he; exact hr k hk h1
theorem rows_not {dist : Nat → Int} {ord : List Nat} {b : Int} (hown : ∀ k, k ∈ ord → 0 ≤ owner k) {i : Nat} (h : ∀ d, ¬ Scn r owner dist ord i d) : rowsJ rows owner dist ord r b n i = rows i := by
  rw [rowsJ_no hown n fun k _ hk he => h (dist k) (.inr ⟨k, hk, he, rfl⟩), updI_ne]
  intro he; subst he; exact h 0 (.inl ⟨rfl, rfl⟩)
/-- columns are handed on along the way that led to a free one: k is the column that is to get a row -/
structure AInv (c : Nat → Nat → Int) (R n r : Nat) (rows cols owner : Nat → Int) (ord : List Nat) (now : Nat) (rows' cols' : Nat → Int) (k : Int) (o : Nat → Int) : Prop where
  own : ∀ x : Nat, x < n → (x : Int) ≠ k → 0 ≤ o x → ∃ i : Nat, i < r + 1 ∧ o x = (i : Int) ∧ 0 ≤ c i x ∧ rows' i + cols' x = c i x
  inj : ∀ x y : Nat, x < n → y < n → (x : Int) ≠ k → (y : Int) ≠ k → 0 ≤ o x → o x = o y → x = y
  onto : ∀ i : Nat, i < r → ∃ x : Nat, x < n ∧ (x : Int) ≠ k ∧ o x = (i : Int)
  nor : 0 ≤ k → ∀ x : Nat, x < n → (x : Int) ≠ k → o x ≠ (r : Int)
  yes : k < 0 → ∃ x : Nat, x < n ∧ o x = (r : Int)
  free : ∀ x : Nat, x < n → (x : Int) ≠ k → o x < 0 → cols' x = 0
  same : 0 ≤ k → ∀ x : Nat, x < n → ord.idxOf x ≤ ord.idxOf k.toNat → o x = owner x
  kin : 0 ≤ k → k.toNat < n ∧ (k.toNat ∈ ord ∨ k.toNat = now)
  neg : k < 0 → k = -1
structure Fin1 (c : Nat → Nat → Int) (R n r : Nat) (rows cols owner : Nat → Int) (ord : List Nat) (dist from_ : Nat → Int) (now : Nat) : Prop where
  hR : RInv c R n r rows cols owner
  hC : CostOk c R n
  hr : r < R
  hRn : R ≤ n
  mid : ∃ base, TMid c R n r rows cols owner ord dist from_ base
  nxt : Nxt n ord dist now
  free : owner now < 0
section
variable {ord : List Nat} {dist from_ : Nat → Int} {now : Nat}
theorem Fin1.cols_in (h : Fin1 c R n r rows cols owner ord dist from_ now) {x : Nat} (hx : x ∈ ord) : colsJ cols dist ord (dist now) n x = cols x - (dist now - dist x) := by
  obtain ⟨base, hT⟩ := h.mid
  unfold colsJ; rw [if_pos ⟨hT.lt x hx, hx⟩]
theorem Fin1.cols_out {x : Nat} (hx : x ∉ ord) : colsJ cols dist ord (dist now) n x = cols x := by
  unfold colsJ; rw [if_neg fun h => hx h.2]
theorem Fin1.near (h : Fin1 c R n r rows cols owner ord dist from_ now) {x : Nat} (hx : x ∈ ord ∨ x = now) : x < n ∧ dist x < far ∧ dist x ≤ dist now := by
  obtain ⟨base, hT⟩ := h.mid
  rcases hx with hx | rfl
  · exact ⟨hT.lt x hx, (hT.dn x hx).2, Int.le_trans (hT.dn x hx).1 (hT.un now h.nxt.lt h.nxt.un)⟩
  · exact ⟨h.nxt.lt, h.nxt.near, Int.le_refl _⟩
/-- an edge that led to a column is exact -/
theorem Fin1.tight (h : Fin1 c R n r rows cols owner ord dist from_ now) {x i : Nat} {d : Int} (hx : x ∈ ord ∨ x = now) (hs : Scn r owner dist ord i d) (hd : dist x = d + c i x - rows i - cols x) :
    rowsJ rows owner dist ord r (dist now) n i + colsJ cols dist ord (dist now) n x = c i x := by
  obtain ⟨base, hT⟩ := h.mid
  rw [rows_scn h.hR hT.lt hT.own hs]
  rcases hx with hx | rfl
  · rw [h.cols_in hx]; omega
  · rw [Fin1.cols_out h.nxt.un]; omega
theorem Fin1.start (h : Fin1 c R n r rows cols owner ord dist from_ now) : AInv c R n r rows cols owner ord now (rowsJ rows owner dist ord r (dist now) n) (colsJ cols dist ord (dist now) n) (now : Int) owner := by
  obtain ⟨base, hT⟩ := h.mid
  have hR := h.hR
  have hro : ∀ x, x < n → 0 ≤ owner x → owner x ≠ (r : Int) := fun x hx h0 he => by
    obtain ⟨i, h1, h2, _⟩ := hR.own x hx h0
    omega
  refine ⟨fun x hx hne h0 => ?_, fun x y hx hy _ _ h0 he => hR.inj x y hx hy h0 he, fun i hi => ?_, fun _ x hx _ he => hro x hx (by omega) he, fun hk => by omega, fun x hx hne h0 => ?_, fun _ x _ _ => rfl, fun _ => ⟨by simpa using h.nxt.lt, .inr (by simp)⟩, fun hk => by omega⟩
  · obtain ⟨i, h1, h2, h3, h4⟩ := hR.own x hx h0
    refine ⟨i, by omega, h2, h3, ?_⟩
    by_cases hxo : x ∈ ord
    · rw [rows_scn hR hT.lt hT.own (.inr ⟨x, hxo, h2, rfl⟩), h.cols_in hxo]; omega
    · rw [rows_not hT.own, Fin1.cols_out hxo]; exact h4
      rintro d (⟨rfl, _⟩ | ⟨k', hk', g1, _⟩)
      · omega
      · have := hR.inj x k' hx (hT.lt k' hk') h0 (by omega)
        exact hxo (this ▸ hk')
  · obtain ⟨x, h1, h2⟩ := hR.onto i hi
    refine ⟨x, h1, fun he => ?_, h2⟩
    have : x = now := by omega
    subst this
    have := h.free; omega
  · have hxo : x ∉ ord := fun hxo => by have := hT.own x hxo; omega
    rw [Fin1.cols_out hxo]; exact hR.free x hx h0
/-- the column k gets its row -/
def handR (from_ o : Nat → Int) (r : Nat) (k : Nat) : Int := if from_ k < 0 then (r : Int) else o (from_ k).toNat
theorem AInv.step {k : Nat} {o : Nat → Int} (h : Fin1 c R n r rows cols owner ord dist from_ now) (hA : AInv c R n r rows cols owner ord now (rowsJ rows owner dist ord r (dist now) n) (colsJ cols dist ord (dist now) n) (k : Int) o) :
    (from_ k < 0 ∨ ∃ k' i : Nat, from_ k = (k' : Int) ∧ k' < n ∧ o k' = (i : Int) ∧ ord.idxOf k' < ord.idxOf k) ∧
    AInv c R n r rows cols owner ord now (rowsJ rows owner dist ord r (dist now) n) (colsJ cols dist ord (dist now) n) (from_ k) (updI o k (handR from_ o r k)) := by
  obtain ⟨base, hT⟩ := h.mid
  have hR := h.hR
  obtain ⟨hkn, hkx⟩ := hA.kin (by omega)
  simp only [Int.toNat_natCast] at hkn hkx
  obtain ⟨_, hnear, _⟩ := h.near hkx
  have hsame := hA.same (by omega)
  simp only [Int.toNat_natCast] at hsame
  rcases hT.fr k hkn hnear with ⟨h1, h2, h3⟩ | ⟨k', i, h1, h2, h3, h4, h5, h6⟩
  · have e1 : handR from_ o r k = (r : Int) := by unfold handR; rw [if_pos (by omega)]
    refine ⟨.inl (by omega), ?_⟩
    rw [h1, e1]
    have ho : ∀ x, x ≠ k → updI o k (r : Int) x = o x := fun x hx => updI_ne hx
    refine ⟨fun x hx _ h0 => ?_, fun x y hx hy _ _ h0 he => ?_, fun i hi => ?_, fun h => by omega, fun _ => ⟨k, hkn, updI_at _ _ _⟩, fun x hx _ h0 => ?_, fun h => by omega, fun h => by omega, fun _ => rfl⟩
    · by_cases hxk : x = k
      · subst hxk
        rw [updI_at]
        exact ⟨r, by omega, rfl, h2, h.tight hkx (.inl ⟨rfl, rfl⟩) (by omega)⟩
      · rw [ho x hxk] at h0 ⊢
        exact hA.own x hx (by omega) h0
    · by_cases hxk : x = k <;> by_cases hyk : y = k
      · omega
      · subst hxk
        rw [updI_at, ho y hyk] at he
        exact absurd he.symm (hA.nor (by omega) y hy (by omega))
      · subst hyk
        rw [updI_at, ho x hxk] at he
        exact absurd he (hA.nor (by omega) x hx (by omega))
      · rw [ho x hxk] at h0 he
        rw [ho y hyk] at he
        exact hA.inj x y hx hy (by omega) (by omega) h0 he
    · obtain ⟨x, g1, g2, g3⟩ := hA.onto i hi
      exact ⟨x, g1, by omega, by rw [ho x (by omega)]; exact g3⟩
    · by_cases hxk : x = k
      · subst hxk; rw [updI_at] at h0; omega
      · rw [ho x hxk] at h0
        exact hA.free x hx (by omega) h0
  · have hk' := hT.lt k' h1
    have hok' : o k' = (i : Int) := by rw [hsame k' hk' (by omega), h3]
    have hne : k' ≠ k := fun he => by subst he; omega
    have e1 : handR from_ o r k = (i : Int) := by unfold handR; rw [if_neg (by omega), h2, Int.toNat_natCast, hok']
    refine ⟨.inr ⟨k', i, h2, hk', hok', h6⟩, ?_⟩
    rw [h2, e1]
    have ho : ∀ x, x ≠ k → updI o k (i : Int) x = o x := fun x hx => updI_ne hx
    obtain ⟨j, j1, j2, _⟩ := hR.own k' hk' (by omega)
    refine ⟨fun x hx hxk' h0 => ?_, fun x y hx hy hxk' hyk' h0 he => ?_, fun i' hi => ?_, fun _ x hx hxk' => ?_, fun h => by omega, fun x hx hxk' h0 => ?_, fun _ x hx hix => ?_, fun _ => ⟨by simpa using hk', .inl (by simpa using h1)⟩, fun h => by omega⟩
    · by_cases hxk : x = k
      · subst hxk
        rw [updI_at]
        exact ⟨i, by omega, rfl, h4, h.tight hkx (.inr ⟨k', h1, h3, rfl⟩) h5⟩
      · rw [ho x hxk] at h0 ⊢
        exact hA.own x hx (by omega) h0
    · by_cases hxk : x = k <;> by_cases hyk : y = k
      · omega
      · subst hxk
        rw [updI_at, ho y hyk] at he
        have := hA.inj k' y hk' hy (by omega) (by omega) (by omega) (by rw [hok', he])
        omega
      · subst hyk
        rw [updI_at, ho x hxk] at he
        have := hA.inj k' x hk' hx (by omega) (by omega) (by omega) (by rw [hok', he])
        omega
      · rw [ho x hxk] at h0 he
        rw [ho y hyk] at he
        exact hA.inj x y hx hy (by omega) (by omega) h0 he
    · obtain ⟨x, g1, g2, g3⟩ := hA.onto i' hi
      by_cases hxk : x = k'
      · subst hxk
        exact ⟨k, hkn, by omega, by rw [updI_at]; omega⟩
      · exact ⟨x, g1, by omega, by rw [ho x (by omega)]; exact g3⟩
    · by_cases hxk : x = k
      · subst hxk; rw [updI_at]; omega
      · rw [ho x hxk]; exact hA.nor (by omega) x hx (by omega)
    · by_cases hxk : x = k
      · subst hxk; rw [updI_at] at h0; omega
      · rw [ho x hxk] at h0
        exact hA.free x hx (by omega) h0
    · simp only [Int.toNat_natCast] at hix
      have hxk : x ≠ k := fun he => by subst he; omega
      rw [ho x hxk]
      exact hsame x hx (by omega)
theorem Fin1.bound (h : Fin1 c R n r rows cols owner ord dist from_ now) : 0 ≤ dist now ∧ dist now ≤ 12 * 1000000 := by
  obtain ⟨base, hT⟩ := h.mid
  have h1 := TBase.ub h.hC h.hR h.hr hT.toTBase _ now rfl h.nxt.lt h.nxt.near
  have h2 := h.hR.free now h.nxt.lt h.free
  have h3 := List.idxOf_le_length (a := now) (l := ord)
  have h4 := ord_len hT.nd hT.lt
  have h5 := h.hC.small
  have h6 := (hT.d0 now h.nxt.lt).1
  omega
theorem AInv.done {o : Nat → Int} (h : Fin1 c R n r rows cols owner ord dist from_ now) (hA : AInv c R n r rows cols owner ord now (rowsJ rows owner dist ord r (dist now) n) (colsJ cols dist ord (dist now) n) (-1) o) :
    RInv c R n (r + 1) (rowsJ rows owner dist ord r (dist now) n) (colsJ cols dist ord (dist now) n) o := by
  obtain ⟨base, hT⟩ := h.mid
  have hR := h.hR
  obtain ⟨hb0, hb⟩ := h.bound
  have hd : ∀ i d, Scn r owner dist ord i d → 0 ≤ d ∧ d ≤ dist now := fun i d hs => by
    rcases hs with ⟨_, rfl⟩ | ⟨k, hk, _, rfl⟩
    · exact ⟨Int.le_refl _, hb0⟩
    · exact ⟨(hT.d0 k (hT.lt k hk)).1, (h.near (.inl hk)).2.2⟩
  have hc1 : ∀ k, k < n → colsJ cols dist ord (dist now) n k ≤ cols k ∧ cols k - dist now ≤ colsJ cols dist ord (dist now) n k := fun k hk => by
    by_cases hko : k ∈ ord
    · rw [h.cols_in hko]
      have := (h.near (.inl hko)).2.2
      have := (hT.d0 k hk).1
      omega
    · rw [Fin1.cols_out hko]; omega
  have hr1 : ∀ i, rows i ≤ rowsJ rows owner dist ord r (dist now) n i ∧ rowsJ rows owner dist ord r (dist now) n i ≤ rows i + dist now := fun i => by
    by_cases hs : ∃ d, Scn r owner dist ord i d
    · obtain ⟨d, hs⟩ := hs
      rw [rows_scn hR hT.lt hT.own hs]
      have := hd i d hs; omega
    · rw [rows_not hT.own fun d hd => hs ⟨d, hd⟩]; omega
  refine ⟨fun i k hi hk h0 => ?_, fun k hk => ?_, fun i hi => ?_, fun i h1 h2 => ?_, fun k hk h0 => hA.own k hk (by omega) h0, fun k k' hk hk' h0 he => hA.inj k k' hk hk' (by omega) (by omega) h0 he, fun i hi => ?_, fun k hk h0 => hA.free k hk (by omega) h0, fun i hi => ?_, fun k hk => ?_⟩
  · have hf := hR.feas i k hi hk h0
    by_cases hs : ∃ d, Scn r owner dist ord i d
    · obtain ⟨d, hs⟩ := hs
      rw [rows_scn hR hT.lt hT.own hs]
      have := hT.sc i d hs k hk h0
      by_cases hko : k ∈ ord
      · rw [h.cols_in hko]; omega
      · rw [Fin1.cols_out hko]
        have := h.nxt.min k hk hko
        omega
    · rw [rows_not hT.own fun d hd => hs ⟨d, hd⟩]
      have := (hc1 k hk).1
      omega
  · have := (hc1 k hk).1; have := hR.cneg k hk; omega
  · have := (hr1 i).1; have := hR.rpos i hi; omega
  · rw [rows_not hT.own]
    · exact hR.rnew i (by omega) h2
    · rintro d (⟨rfl, _⟩ | ⟨k, hk, g1, _⟩)
      · omega
      · obtain ⟨j, g2, g3, _⟩ := hR.own k (hT.lt k hk) (hT.own k hk)
        omega
  · rcases Nat.lt_succ_iff_lt_or_eq.1 hi with h1 | rfl
    · obtain ⟨x, g1, _, g3⟩ := hA.onto i h1
      exact ⟨x, g1, g3⟩
    · exact hA.yes (by omega)
  · have := (hr1 i).2; have := hR.rb i hi; omega
  · have := (hc1 k hk).2; have := hR.cb k hk; omega
end
end
end Go.Proofs.YtolmeekbjonbcaaGreat
set_option linter.unusedVariables false
namespace Go.SX
open Go Go.RowKit
section
variable {P : Program} {ops : Array Oper} {Q : Exit → St → Prop} {o : Oper} {rest : List Oper} {σ : St} {ds : List (Option Nat)}
def WV (P : Program) (ops : Array Oper) (Q : Exit → St → Prop) (T : List Own) (sn : List ((Nat → Prop) × World)) : Nat → Array Bool → St → Prop
  | 0, listed, σ => Region.ready .any ops listed = [] ∧ Q .normal σ
  | f + 1, listed, σ => Region.ready .any ops listed ≠ [] ∧ ∀ i ∈ Region.ready .any ops listed, ∃ o, ops[i]? = some o ∧ WO P ops (fun e σ' => match e with
    | .normal => keptL T σ'.own ∧ (∀ p, p ∈ sn → p ∈ σ'.snaps) ∧ WV P ops Q T sn f (listed.setIfInBounds i true) σ'
    | e => Q e σ') [o] σ
theorem WV.sound {T : List Own} {sn : List ((Nat → Prop) × World)} (hf : T.all freeO = true) : ∀ (fuel : Nat) (listed : Array Bool) (ρ : Nat → Nat) (σ : St) (a : Act) (w : World),
    WV P ops Q T sn fuel listed σ → Sat ρ σ a w → wpAnyC P .any ops (CF T sn) (lift Q) fuel listed a w
  | 0, listed, ρ, σ, a, w, h, hs => ⟨h.1, ρ, σ, hs, h.2⟩
  | f + 1, listed, ρ, σ, a, w, h, hs => by
    refine ⟨fun h0 => absurd h0 h.1, fun i hi => ?_⟩
    obtain ⟨o, ho, h1⟩ := h.2 i hi
    have h1 := h1 ρ a w hs
    simp only [wpList] at h1
    unfold wpOp
    simp only [ho]
    have next : ∀ a' w', lift (fun e σ' => match e with
        | .normal => keptL T σ'.own ∧ (∀ p, p ∈ sn → p ∈ σ'.snaps) ∧ WV P ops Q T sn f (listed.setIfInBounds i true) σ'
        | e => Q e σ') .normal a' w' → CF T sn w' ∧ wpAnyC P .any ops (CF T sn) (lift Q) f (listed.setIfInBounds i true) a' w' := fun a' w' ⟨ρ', σ', hs', g1, g2, g3⟩ =>
      ⟨CF.of hs'.base g1 hf g2, WV.sound hf f _ ρ' σ' a' w' g3 hs'⟩
    have exits : ∀ e a' w', e ≠ .normal → lift (fun e σ' => match e with
        | .normal => keptL T σ'.own ∧ (∀ p, p ∈ sn → p ∈ σ'.snaps) ∧ WV P ops Q T sn f (listed.setIfInBounds i true) σ'
        | e => Q e σ') e a' w' → lift Q e a' w' := fun e a' w' hne ⟨ρ', σ', hs', g⟩ => ⟨ρ', σ', hs', by cases e <;> first | exact absurd rfl hne | exact g⟩
    split
    · rename_i hw
      rw [if_pos hw] at h1
      rcases h1 with h1 | ⟨h1, a9, w9, h2⟩
      · exact .inl (upon_monoE next exits _ h1)
      · exact .inr ⟨h1, a9, w9, exits _ _ _ (by simp) h2⟩
    · rename_i hw
      rw [if_neg hw] at h1
      exact next _ _ h1
def floatOK2 (ops : Array Oper) (F : List Nat) (m : Nat) : Bool :=
  Region.noSelect ops && decide (F.length + m = ops.size) && F.all (fun i => decide (i < ops.size)) && floatB .any ops F (Array.replicate ops.size false)
theorem W.regionV {id : Nat} (F : List Nat) (m : Nat) (T : List Own) (hm : P.follows .mixedOrders = true) (hB : floatOK2 ops F m = true) (hf : T.all freeO = true) (hT : keptL T σ.own) (hlen : T.length = σ.own.length) (hQ : ∀ c σ, ¬ Q (.panic c) σ)
    (h : WF P (fun σ1 => WV P ops Q T σ.snaps m (markL F (Array.replicate ops.size false)) ⟨σ.n, σ1.env, σ.own, σ.snaps, σ.dfs⟩) (pickL ops F) ⟨σ.n, σ.env, T, σ.snaps, σ.dfs⟩) : W P (.region id ops true) Q σ := fun ρ a w hs => by
  simp only [floatOK2, Bool.and_eq_true, decide_eq_true_eq, List.all_eq_true] at hB
  obtain ⟨⟨⟨hsel, hsz⟩, hFl⟩, hFB⟩ := hB
  refine of_wp (wp_region_any hm ?_)
  have hs' : Sat ρ σ a { w with drawn := w.drawn + 1 } := hs.below (below_drew w)
  have hC : CF T σ.snaps { w with drawn := w.drawn + 1 } := CF.of hs'.base hT hf fun _ h => h
  have key : wpAnyC P .any ops (CF T σ.snaps) (lift Q) (F.length + m) (Array.replicate ops.size false) a { w with drawn := w.drawn + 1 } := by
    refine WF.sound hf hsel (fun c a w ⟨_, σ', _, h⟩ => hQ c σ' h) ρ _ hC F _ m ⟨σ.n, σ.env, T, σ.snaps, σ.dfs⟩ a hFB hFl rfl rfl ⟨hs'.size, hs'.defers, fun i s hi => ⟨(hs'.env i s hi).1, fun ρ' hρ => (hs'.env i s hi).2 ρ' (by rw [← hlen]; exact hρ)⟩⟩ h ?_
    intro σ1 a1 e1 e2 e3 e4 hk
    refine WV.sound hf _ _ ρ ⟨σ.n, σ1.env, σ.own, σ.snaps, σ.dfs⟩ a1 _ hk ⟨?_, ?_, fun i s hi => ?_, hs'.base.same rfl rfl⟩
    · have := e1.size; simp only [Prod.mk.injEq] at e4; rw [this]; exact e4.1
    · have := e1.defers; simp only [Prod.mk.injEq] at e4; rw [this, e4.2]
    · obtain ⟨g1, g2⟩ := e1.env i s hi
      simp only [Prod.mk.injEq] at e4
      exact ⟨by rw [← e4.1]; exact g1, fun ρ' hρ => g2 ρ' (by rw [e2, hlen]; exact hρ)⟩
  rw [hsz] at key
  exact wpAny_of_C _ _ _ _ key
variable {T : List Own} {sn : List ((Nat → Prop) × World)} {f : Nat} {listed : Array Bool}
abbrev QV (P : Program) (ops : Array Oper) (Q : Exit → St → Prop) (T : List Own) (sn : List ((Nat → Prop) × World)) (f : Nat) (listed : Array Bool) (i : Nat) : Exit → St → Prop := fun e σ' => match e with
    | .normal => keptL T σ'.own ∧ (∀ p, p ∈ sn → p ∈ σ'.snaps) ∧ WV P ops Q T sn f (listed.setIfInBounds i true) σ'
    | e => Q e σ'
theorem WV.one (i : Nat) {oi : Oper} (hr : Region.ready .any ops listed = [i]) (hi : ops[i]? = some oi) (h : WO P ops (QV P ops Q T sn f listed i) [oi] σ) : WV P ops Q T sn (f + 1) listed σ :=
  ⟨by rw [hr]; simp, fun k hk => by rw [hr] at hk; simp at hk; subst hk; exact ⟨oi, hi, h⟩⟩
theorem WV.two (i j : Nat) {oi oj : Oper} (hr : Region.ready .any ops listed = [i, j]) (hi : ops[i]? = some oi) (hj : ops[j]? = some oj) (h1 : WO P ops (QV P ops Q T sn f listed i) [oi] σ) (h2 : WO P ops (QV P ops Q T sn f listed j) [oj] σ) : WV P ops Q T sn (f + 1) listed σ :=
  ⟨by rw [hr]; simp, fun k hk => by
    rw [hr] at hk; simp at hk
    rcases hk with rfl | rfl
    · exact ⟨oi, hi, h1⟩
    · exact ⟨oj, hj, h2⟩⟩
theorem WV.three (i j l : Nat) {oi oj ol : Oper} (hr : Region.ready .any ops listed = [i, j, l]) (hi : ops[i]? = some oi) (hj : ops[j]? = some oj) (hl : ops[l]? = some ol) (h1 : WO P ops (QV P ops Q T sn f listed i) [oi] σ) (h2 : WO P ops (QV P ops Q T sn f listed j) [oj] σ) (h3 : WO P ops (QV P ops Q T sn f listed l) [ol] σ) : WV P ops Q T sn (f + 1) listed σ :=
  ⟨by rw [hr]; simp, fun k hk => by
    rw [hr] at hk; simp at hk
    rcases hk with rfl | rfl | rfl
    · exact ⟨oi, hi, h1⟩
    · exact ⟨oj, hj, h2⟩
    · exact ⟨ol, hl, h3⟩⟩
theorem WV.next {i : Nat} (h1 : keptL T σ.own) (h2 : ∀ p, p ∈ sn → p ∈ σ.snaps) (h3 : WV P ops Q T sn f (listed.setIfInBounds i true) σ) : WO P ops (QV P ops Q T sn f listed i) [] σ := WO.nil ⟨h1, h2, h3⟩
theorem WV.nil (hr : Region.ready .any ops listed = []) (h : Q .normal σ) : WV P ops Q T sn 0 listed σ := ⟨hr, h⟩
/-! ### a state as another -/
def Sub (σ τ : St) : Prop := ∀ ρ a w, Sat ρ σ a w → ∃ ρ', Sat ρ' τ a w
theorem Sub.refl (σ : St) : Sub σ σ := fun ρ _ _ h => ⟨ρ, h⟩
theorem W.sub {rO : Option Nat} {c : Code} {τ : St} (h : Sub σ τ) (k : WR rO P c Q τ) : WR rO P c Q σ := fun ρ a w hs => by
  obtain ⟨ρ', h'⟩ := h ρ a w hs
  exact k ρ' a w h'
theorem getE_in : ∀ {l : List (Nat × SV)} {i : Nat} {s : SV}, getE l i = some s → (i, s) ∈ l
  | [], _, _, h => by cases h
  | (j, x) :: l, i, s, h => by
    simp only [getE] at h
    split at h
    · rename_i he; subst he; obtain rfl := Option.some.inj h; exact List.mem_cons_self
    · exact List.mem_cons_of_mem _ (getE_in h)
def renS (π : List Nat) : SV → SV
  | .loc k off => .loc (π.getD k 0) off
  | s => s
def okS (m : Nat) : SV → Bool
  | .val _ => true
  | .loc k _ => decide (k < m)
  | _ => false
def flatO : Own → Bool
  | .cells _ cs => bndL 0 cs
  | _ => true
/-- the blocks of τ are those of σ at the places π -/
theorem Sub.permG {τ : St} (π : List Nat) (hn : τ.n = σ.n) (hd : τ.dfs = σ.dfs) (hsn : ∀ p, p ∈ τ.snaps → p ∈ σ.snaps) (he : ∀ i s, getE τ.env i = some s → okS τ.own.length s = true ∧ getE σ.env i = some (renS π s)) (hf : τ.own.all flatO = true) (hp : placed σ.own π τ.own) (hnd : π.Nodup) : Sub σ τ := fun ρ a w hs => by
  obtain ⟨hkl, hget⟩ := placed_get hp
  have hfk : ∀ (k : Nat) (o : Own), τ.own[k]? = some o → flatO o = true := fun k o hk => List.all_eq_true.1 hf o (List.mem_of_getElem? hk)
  have hks : ∀ (i : Nat) (o : Own), τ.own[i]? = some o → ∃ k, π[i]? = some k ∧ π.getD i 0 = k ∧ σ.own[k]? = some o := fun i o h => by
    have h1 := (List.getElem?_eq_some_iff.1 h).1
    have h2 : π[i]? = some (π[i]'(by omega)) := List.getElem?_eq_getElem _
    exact ⟨π[i]'(by omega), h2, by simp [List.getD_eq_getElem?_getD, h2], hget i _ o h2 h⟩
  have hnum : ∀ (i k : Nat) (o : Own), π.getD i 0 = k → o.num (fun k => ρ (π.getD k 0)) i = o.num ρ k := fun i k o h => by subst h; cases o <;> rfl
  refine ⟨fun k => ρ (π.getD k 0), by rw [hs.size, hn], by rw [hs.defers, hd], fun i s h => ?_, ⟨fun k o hk ρ' hρ => ?_, fun i j oi oj b h1 h2 h3 h4 => ?_, fun p hpm => ⟨(hs.base.keep p (hsn p hpm)).1, fun k o b hk hnb hS => ?_⟩⟩⟩
  · obtain ⟨g1, g2⟩ := he _ _ h
    obtain ⟨g3, g4⟩ := hs.env i _ g2
    refine ⟨by rw [hn]; exact g3, fun ρ' hρ => ?_⟩
    rw [g4 ρ (Agree.refl _ _)]
    cases s with
    | val x => simp [renS, den]
    | loc k off =>
      simp only [okS, decide_eq_true_eq] at g1
      simp only [renS, den, hρ k g1]
    | lsl => cases g1
    | agg => cases g1
    | tup => cases g1
    | fn => cases g1
  · obtain ⟨k', _, h0, h1⟩ := hks k o hk
    have h2 := hs.base.own k' o h1 ρ (Agree.refl _ _)
    have hkl2 := (List.getElem?_eq_some_iff.1 hk).1
    cases o with
    | cells T cs =>
      have h3 := hfk k _ hk
      simp only [flatO] at h3
      simp only [Own.holds] at h2 ⊢
      rw [hρ k hkl2, denL_agree (m := 0) (ρ := ρ) (fun i hi => by omega) cs h3]
      show w.heap[ρ (π.getD k 0)]? = _
      rw [h0]; exact h2
    | slice => exact h2
    | map => exact h2
    | dead => trivial
  · obtain ⟨k, g1, g0, hk⟩ := hks i oi h1
    obtain ⟨k', g2, g0', hk'⟩ := hks j oj h2
    have := hs.base.apart k k' oi oj b hk hk' (by rw [← hnum i k oi g0]; exact h3) (by rw [← hnum j k' oj g0']; exact h4)
    subst this
    exact (List.getElem?_inj (List.getElem?_eq_some_iff.1 g1).1 hnd).1 (g1.trans g2.symm)
  · obtain ⟨k', _, g0, h1⟩ := hks k o hk
    exact (hs.base.keep p (hsn p hpm)).2 k' o b h1 (by rw [← hnum k k' o g0]; exact hnb) hS
theorem Sub.perm {τ : St} (π : List Nat) (hn : τ.n = σ.n) (hd : τ.dfs = σ.dfs) (hsn : ∀ p, p ∈ τ.snaps → p ∈ σ.snaps) (he : ∀ p, p ∈ τ.env → okS τ.own.length p.2 = true ∧ getE σ.env p.1 = some (renS π p.2)) (hf : τ.own.all flatO = true) (hp : placed σ.own π τ.own) (hnd : π.Nodup) : Sub σ τ :=
  Sub.permG π hn hd hsn (fun i s h => he _ (getE_in h)) hf hp hnd
theorem W.seqVia {x y : Code} {X : Type} (M : X → St) (h1 : W P x (andThen (fun σ' => ∃ t, Sub σ' (M t)) Q) σ) (h2 : ∀ t, W P y Q (M t)) : W P (.seq x y) Q σ :=
  W.seqM _ h1 fun τ ⟨t, ht⟩ => W.sub ht (h2 t)
end
end Go.SX
set_option linter.unusedVariables false
set_option linter.unusedSimpArgs false
set_option maxHeartbeats 2000000
namespace Go.Proofs.YtolmeekbjonbcaaGreat
open Int renaming reduceEq → q1, reduceLT → q2, reduceBEq → q3, reduceBNe → q4
open Nat renaming reduceAdd → q5, reduceSub → q6, reduceMul → q7, reduceLT → q8, reduceLeDiff → q9, reduceEqDiff → qa
open List renaming reduceReplicate → qb
open Go Go.SX Go.RowKit
def tab (n : Nat) (f : Nat → Int) : List Int := (List.range n).map f
def tabB (n : Nat) (f : Nat → Bool) : List Bool := (List.range n).map f
theorem tab_len (n : Nat) (f : Nat → Int) : (tab n f).length = n := by simp [tab]
theorem tab_getE {n i : Nat} {f : Nat → Int} {v : Int} (h : i < n) (hv : f i = v) : (tab n f)[i]? = some v := by simp [tab, h, hv]
theorem tabB_getE {n i : Nat} {f : Nat → Bool} {v : Bool} (h : i < n) (hv : f i = v) : (tabB n f)[i]? = some v := by simp [tabB, h, hv]
theorem tab_congr {n : Nat} {f g : Nat → Int} (h : ∀ i, i < n → f i = g i) : tab n f = tab n g := List.map_congr_left fun i hi => h i (List.mem_range.1 hi)
theorem tab_set {n i : Nat} {f g : Nat → Int} {v : Int} (hv : g i = v) (h : ∀ k, k < n → k ≠ i → g k = f k) : (tab n f).set i v = tab n g := by
  apply List.ext_getElem
  · simp [tab]
  · intro k h1 h2
    simp only [tab, List.length_map, List.length_range] at h2
    simp only [tab, List.getElem_set, List.getElem_map, List.getElem_range]
    by_cases hk : i = k
    · subst hk; simp [hv]
    · rw [if_neg hk, h k h2 (Ne.symm hk)]
theorem tabB_set {n i : Nat} {f g : Nat → Bool} {v : Bool} (hv : g i = v) (h : ∀ k, k < n → k ≠ i → g k = f k) : (tabB n f).set i v = tabB n g := by
  apply List.ext_getElem
  · simp [tabB]
  · intro k h1 h2
    simp only [tabB, List.length_map, List.length_range] at h2
    simp only [tabB, List.getElem_set, List.getElem_map, List.getElem_range]
    by_cases hk : i = k
    · subst hk; simp [hv]
    · rw [if_neg hk, h k h2 (Ne.symm hk)]
theorem rep_tab (n : Nat) (x : Int) : List.replicate n x = tab n fun _ => x := by apply List.ext_getElem <;> simp [tab]
theorem rep_tabB (n : Nat) (x : Bool) : List.replicate n x = tabB n fun _ => x := by apply List.ext_getElem <;> simp [tabB]
def cF (cost : List (List Int)) (i k : Nat) : Int := (cost.getD i []).getD k (-1)
theorem cF_eq {cost : List (List Int)} {i k : Nat} {y : List Int} {z : Int} (hy : cost[i]? = some y) (hz : y[k]? = some z) : cF cost i k = z := by unfold cF; rw [getD_some hy, getD_some hz]
theorem costOk_of {cost : List (List Int)} {n : Nat} (hw : WfC cost n) : CostOk (cF cost) cost.length (wideF cost n) := by
  refine ⟨by have := hw.cols; unfold wideF; split <;> omega, fun i k hi hk => ?_⟩
  obtain ⟨y, hy⟩ := len_lt (rfl : cost.length = _) hi
  obtain ⟨h1, h2⟩ := hw.row y (List.mem_of_getElem? hy)
  unfold wideF at hk
  rw [if_neg (by omega)] at hk
  obtain ⟨z, hz⟩ := len_lt h1 hk
  rw [cF_eq hy hz]
  exact (h2 z (List.mem_of_getElem? hz)).2
theorem RInv.start (c : Nat → Nat → Int) (R n : Nat) : RInv c R n 0 (fun _ => 0) (fun _ => 0) (fun _ => -1) :=
  ⟨fun i k _ _ h => by omega, fun _ _ => Int.le_refl _, fun _ _ => Int.le_refl _, fun _ _ _ => rfl, fun k _ h => by omega, fun k k' _ _ h => by omega, fun i h => by omega, fun _ _ _ => rfl, fun i _ => by omega, fun k _ => by omega⟩
theorem ints_read {S : Nat → Prop} {w : World} (xs : List Int) : ∀ i y, xs[i]? = some y → rInt.rd S w (((xs.map (Value.int .i64)).drop (i * rInt.sz)).take rInt.sz) y := fun i y hy => by
  have h : i < xs.length := (List.getElem?_eq_some_iff.1 hy).1
  show ((xs.map (Value.int .i64)).drop (i * 1)).take 1 = [.int .i64 y]
  rw [Nat.mul_one, List.drop_eq_getElem_cons (by simpa using h), List.take_succ_cons, List.take_zero]
  simp only [List.getElem_map, List.cons.injEq, and_true, Value.int.injEq, true_and]
  rw [List.getElem?_eq_getElem h] at hy
  exact Option.some.inj hy
def farF (j k : Nat) : Int := if k < j then far else 0
theorem farF_all {n : Nat} : tab n (farF n) = tab n fun _ => far := tab_congr fun i hi => by unfold farF; rw [if_pos hi]
theorem farF_zero : farF 0 = fun _ => 0 := funext fun k => by unfold farF; rw [if_neg (by omega)]
section
variable {c : Nat → Nat → Int} {rows cols dist from_ : Nat → Int} {at' k : Nat} {now base : Int} {ord : List Nat}
theorem relaxD_self : relaxD c rows cols at' base ord dist k k = dist k := by unfold relaxD; rw [if_neg fun h => by omega]
theorem relaxD_zero : relaxD c rows cols at' base ord dist 0 = dist := funext fun k => by unfold relaxD; rw [if_neg fun h => by omega]
theorem relaxP_zero : relaxP c rows cols at' now base ord dist from_ 0 = from_ := funext fun k => by unfold relaxP; rw [if_neg fun h => by omega]
theorem relaxD_no (h : relaxC c rows cols at' base ord dist k ≠ true) : relaxD c rows cols at' base ord dist (k + 1) = relaxD c rows cols at' base ord dist k := funext fun x => by
  unfold relaxD
  by_cases hx : x = k
  · subst hx; rw [if_neg fun h' => h h'.2, if_neg fun h' => h h'.2]
  · have : (x < k + 1) = (x < k) := by simp; omega
    simp only [this]
theorem relaxP_no (h : relaxC c rows cols at' base ord dist k ≠ true) : relaxP c rows cols at' now base ord dist from_ (k + 1) = relaxP c rows cols at' now base ord dist from_ k := funext fun x => by
  unfold relaxP
  by_cases hx : x = k
  · subst hx; rw [if_neg fun h' => h h'.2, if_neg fun h' => h h'.2]
  · have : (x < k + 1) = (x < k) := by simp; omega
    simp only [this]
theorem relaxD_yes {n : Nat} (h : relaxC c rows cols at' base ord dist k = true) : (tab n (relaxD c rows cols at' base ord dist k)).set k (base + c at' k - rows at' - cols k) = tab n (relaxD c rows cols at' base ord dist (k + 1)) :=
  tab_set (by unfold relaxD; rw [if_pos ⟨by omega, h⟩]) fun x _ hx => by
    unfold relaxD
    have : (x < k + 1) = (x < k) := by simp; omega
    simp only [this]
theorem relaxP_yes {n : Nat} (h : relaxC c rows cols at' base ord dist k = true) : (tab n (relaxP c rows cols at' now base ord dist from_ k)).set k now = tab n (relaxP c rows cols at' now base ord dist from_ (k + 1)) :=
  tab_set (by unfold relaxP; rw [if_pos ⟨by omega, h⟩]) fun x _ hx => by
    unfold relaxP
    have : (x < k + 1) = (x < k) := by simp; omega
    simp only [this]
theorem colsJ_zero {b : Int} : colsJ cols dist ord b 0 = cols := funext fun k => by unfold colsJ; rw [if_neg fun h => by omega]
theorem colsJ_self {b : Int} : colsJ cols dist ord b k k = cols k := by unfold colsJ; rw [if_neg fun h => by omega]
theorem colsJ_no {b : Int} (h : k ∉ ord) : colsJ cols dist ord b (k + 1) = colsJ cols dist ord b k := funext fun x => by
  unfold colsJ
  by_cases hx : x = k
  · subst hx; rw [if_neg fun h' => h h'.2, if_neg fun h' => h h'.2]
  · have : (x < k + 1) = (x < k) := by simp; omega
    simp only [this]
theorem colsJ_yes {n : Nat} {b : Int} (h : k ∈ ord) : (tab n (colsJ cols dist ord b k)).set k (cols k - (b - dist k)) = tab n (colsJ cols dist ord b (k + 1)) :=
  tab_set (by unfold colsJ; rw [if_pos ⟨by omega, h⟩]) fun x _ hx => by
    unfold colsJ
    have : (x < k + 1) = (x < k) := by simp; omega
    simp only [this]
theorem done_step {n : Nat} : (tabB n fun x => decide (x ∈ ord)).set k true = tabB n fun x => decide (x ∈ ord ++ [k]) := tabB_set (by simp) fun x _ hx => by simp [hx]
end
/-- what is known of prices -/
theorem RInv.small {c : Nat → Nat → Int} {R n r : Nat} {rows cols owner : Nat → Int} (h : RInv c R n r rows cols owner) (hr : r ≤ 11) : (∀ i, i < R → 0 ≤ rows i ∧ rows i ≤ 132000000) ∧ ∀ k, k < n → -132000000 ≤ cols k ∧ cols k ≤ 0 := by
  have := cr_small hr
  exact ⟨fun i hi => ⟨h.rpos i hi, by have := h.rb i hi; omega⟩, fun k hk => ⟨by have := h.cb k hk; omega, h.cneg k hk⟩⟩
theorem TInv.bf {c : Nat → Nat → Int} {R n r : Nat} {rows cols owner dist from_ : Nat → Int} {ord : List Nat} {at' : Nat} {now base : Int} (h : TInv c R n r rows cols owner ord dist from_ at' now base) : base ≤ far := by
  rcases h.cur with ⟨_, _, _, h4⟩ | ⟨o, k, h1, _, _, h4⟩
  · rw [h4]; decide
  · rw [h4]; exact (h.d0 k (h.lt k (by rw [h1]; simp))).2
theorem done_ne {ord : List Nat} {kk j : Nat} (h : kk ∉ ord) : (decide (j ∈ ord ++ [kk]) && !((j : Int) == (kk : Int))) = decide (j ∈ ord) := by
  by_cases hj : j = kk
  · subst hj; simp [h]
  · have : ¬ (j : Int) = (kk : Int) := by omega
    simp [hj, this]
/-- function 30 -/
theorem raise_spec {S : Nat → Prop} {w : World} {v : Value} {cost : List (List Int)} {n m : Nat} {f : Nat → Nat} (hl : rRows.rd S w [v] cost) (hw : WfC cost n) (hm : wideF cost n = m) (hM : Mat (cF cost) cost.length m f) : Gives Tryz.prog 30 #[v] w fun r w' =>
    ∃ (rows cols owner : Nat → Int) (x y : Nat), r = .agg #[.slice (some ⟨x, 0, none⟩) cost.length cost.length, .slice (some ⟨y, 0, none⟩) m m] ∧ RInv (cF cost) cost.length m cost.length rows cols owner ∧
      rInts.rd (fun b => w.heap.size ≤ b) w' [.slice (some ⟨x, 0, none⟩) cost.length cost.length] (tab cost.length rows) ∧ rInts.rd (fun b => w.heap.size ≤ b) w' [.slice (some ⟨y, 0, none⟩) m m] (tab m cols) := by
  obtain ⟨p, c, rfl, hc1, hc2⟩ := Rp.slice_val hl
  have hl : (Rp.slice rInts).rd (fun _ => True) w _ cost := Rp.any hl
  have hr2 := hw.rows
  have hC := costOk_of hw
  rw [hm] at hC
  have hm11 := hC.small
  have hRm := hM.le
  refine gives_of [.val (.slice p cost.length c)] 225 [.cell 2 69] Tryz.func30 rfl rfl rfl (by simp) rfl rfl ?_
  refine W.pure (ds := []) rfl fun K1 hK1 => ?_
  simp only [sx, ty, q1, q2, q5, q6, q7, q8, q9, qa, qb, reduceIte, sy, q3, q4]; with_reducible refine hK1 _ ?_; clear hK1
  refine W.seqK fun K2 hK2 => W.region ?_
  refine WO.go 1 (ds := []) rfl ?_
  simp only [sx, ty, q1, q2, q5, q6, q7, q8, q9, qa, qb, reduceIte, sy, q3, q4]
  refine WO.call (.int .i64 (m : Int)) (ds := []) rfl rfl rfl rfl co31 (fun ρ w1 hb => by have h9 := wide_spec (Rp.now hl (hb.first (by simp))) (fun l hl => (hw.row l hl).1); rw [← hm]; exact h9) ?_
  refine WO.go 1 (ds := []) rfl ?_
  simp only [sx, ty, q1, q2, q5, q6, q7, q8, q9, qa, qb, reduceIte, sy, q3, q4]
  with_reducible refine WO.nil ?_
  refine hK2 _ ?_; clear hK2
  refine W.seqVia (X := Nat × Nat) (fun x => ⟨225, [(0, .val (.slice p cost.length c)), (2, .loc 0 0), (3, .val (.int .i64 (m : Int))), (4, .loc 3 0)], [.cells 69 [.val (.slice none 0 0), .val (.slice none 0 0)], OIN cost.length (tab cost.length (fun _ => 0)) (some ⟨x.1, 0, none⟩, cost.length), OIN m (tab m (fun _ => 0)) (some ⟨x.2, 0, none⟩, m), .cells 69 [.val (.slice (some ⟨x.1, 0, none⟩) cost.length cost.length), .val (.slice (some ⟨x.2, 0, none⟩) m m)]], [((fun _ => True), w)], []⟩) ?_ ?_
  · skip
    refine W.regionV [0, 1, 3] 5 ([.dead]) mixed (by kernel_rfl) rfl (by simp [keptL, boxO, OIN, OBs]) rfl (fun _ _ h => h) ?_
    simp only [sx, ty, q1, q2, q5, q6, q7, q8, q9, qa, qb, reduceIte, sxt, List.toList_toArray, RunP, sy, q3, q4]
    refine WF.go rfl rfl rfl ?_
    simp only [sx, ty, q1, q2, q5, q6, q7, q8, q9, qa, qb, reduceIte, sxt, List.toList_toArray, RunP, sy, q3, q4]
    refine WF.go rfl rfl rfl ?_
    simp only [sx, ty, q1, q2, q5, q6, q7, q8, q9, qa, qb, reduceIte, sxt, List.toList_toArray, RunP, sy, q3, q4]
    refine WF.go rfl rfl rfl ?_
    simp only [sx, ty, q1, q2, q5, q6, q7, q8, q9, qa, qb, reduceIte, sxt, List.toList_toArray, RunP, sy, q3, q4]
    refine WF.nil ?_
    simp only [sx, ty, q1, q2, q5, q6, q7, q8, q9, qa, qb, reduceIte, sxt, List.toList_toArray, sy, q3, q4]
    refine WV.three 2 4 6 (by kernel_rfl) rfl rfl rfl ?_ ?_ ?_
    · skip
      simp only [List.getElem_toArray, List.getElem_cons_succ, List.getElem_cons_zero]
      refine WO.make (ds := []) rfl rfl rfl rfl rfl rfl ek27 (Nat.le_refl _) (by rw [maxLen_eq]; omega) (by omega) fun bA => ?_
      rw [flat_rep (Value.int .i64) cost.length 0, rep_tab]
      simp only [sx, ty, q1, q2, q5, q6, q7, q8, q9, qa, qb, reduceIte, List.append_assoc, List.cons_append, List.nil_append, sy, q3, q4]
      with_reducible refine WV.next (by simp [keptL, boxO, OIN, OBs]) (by simp) ?_
      refine WV.two 4 6 (by kernel_rfl) rfl rfl ?_ ?_
      · skip
        simp only [List.getElem_toArray, List.getElem_cons_succ, List.getElem_cons_zero]
        refine WO.make (ds := []) rfl rfl rfl rfl rfl rfl ek27 (Nat.le_refl _) (by rw [maxLen_eq]; omega) (by omega) fun bB => ?_
        rw [flat_rep (Value.int .i64) m 0, rep_tab]
        simp only [sx, ty, q1, q2, q5, q6, q7, q8, q9, qa, qb, reduceIte, List.append_assoc, List.cons_append, List.nil_append, sy, q3, q4]
        with_reducible refine WV.next (by simp [keptL, boxO, OIN, OBs]) (by simp) ?_
        refine WV.two 5 6 (by kernel_rfl) rfl rfl ?_ ?_
        · skip
          simp only [List.getElem_toArray, List.getElem_cons_succ, List.getElem_cons_zero]
          refine WO.go 1 (ds := []) rfl ?_
          simp only [sx, ty, q1, q2, q5, q6, q7, q8, q9, qa, qb, reduceIte, List.append_assoc, List.cons_append, List.nil_append, sy, q3, q4]
          with_reducible refine WV.next (by simp [keptL, boxO, OIN, OBs]) (by simp) ?_
          refine WV.one 6 (by kernel_rfl) rfl ?_
          simp only [List.getElem_toArray, List.getElem_cons_succ, List.getElem_cons_zero]
          refine WO.go 1 (ds := []) rfl ?_
          simp only [sx, ty, q1, q2, q5, q6, q7, q8, q9, qa, qb, reduceIte, List.append_assoc, List.cons_append, List.nil_append, sy, q3, q4]
          with_reducible refine WV.next (by simp [keptL, boxO, OIN, OBs]) (by simp) ?_
          refine WV.one 7 (by kernel_rfl) rfl ?_
          simp only [List.getElem_toArray, List.getElem_cons_succ, List.getElem_cons_zero]
          refine WO.go 1 (ds := []) rfl ?_
          simp only [sx, ty, q1, q2, q5, q6, q7, q8, q9, qa, qb, reduceIte, List.append_assoc, List.cons_append, List.nil_append, sy, q3, q4]
          with_reducible refine WV.next (by simp [keptL, boxO, OIN, OBs]) (by simp) ?_
          refine WV.nil (by kernel_rfl) ?_
          exact ⟨(bA, bB), Sub.perm [0, 1, 2, 3] rfl rfl (by simp) (by simp [getE, okS, renS]) (by simp [flatO, bndL, bnd, OIN]) ⟨rfl, rfl, rfl, rfl, trivial⟩ (by decide)⟩
        · skip
          simp only [List.getElem_toArray, List.getElem_cons_succ, List.getElem_cons_zero]
          refine WO.go 1 (ds := []) rfl ?_
          simp only [sx, ty, q1, q2, q5, q6, q7, q8, q9, qa, qb, reduceIte, List.append_assoc, List.cons_append, List.nil_append, sy, q3, q4]
          with_reducible refine WV.next (by simp [keptL, boxO, OIN, OBs]) (by simp) ?_
          refine WV.one 5 (by kernel_rfl) rfl ?_
          simp only [List.getElem_toArray, List.getElem_cons_succ, List.getElem_cons_zero]
          refine WO.go 1 (ds := []) rfl ?_
          simp only [sx, ty, q1, q2, q5, q6, q7, q8, q9, qa, qb, reduceIte, List.append_assoc, List.cons_append, List.nil_append, sy, q3, q4]
          with_reducible refine WV.next (by simp [keptL, boxO, OIN, OBs]) (by simp) ?_
          refine WV.one 7 (by kernel_rfl) rfl ?_
          simp only [List.getElem_toArray, List.getElem_cons_succ, List.getElem_cons_zero]
          refine WO.go 1 (ds := []) rfl ?_
          simp only [sx, ty, q1, q2, q5, q6, q7, q8, q9, qa, qb, reduceIte, List.append_assoc, List.cons_append, List.nil_append, sy, q3, q4]
          with_reducible refine WV.next (by simp [keptL, boxO, OIN, OBs]) (by simp) ?_
          refine WV.nil (by kernel_rfl) ?_
          exact ⟨(bA, bB), Sub.perm [0, 1, 2, 3] rfl rfl (by simp) (by simp [getE, okS, renS]) (by simp [flatO, bndL, bnd, OIN]) ⟨rfl, rfl, rfl, rfl, trivial⟩ (by decide)⟩
      · skip
        simp only [List.getElem_toArray, List.getElem_cons_succ, List.getElem_cons_zero]
        refine WO.go 1 (ds := []) rfl ?_
        simp only [sx, ty, q1, q2, q5, q6, q7, q8, q9, qa, qb, reduceIte, List.append_assoc, List.cons_append, List.nil_append, sy, q3, q4]
        with_reducible refine WV.next (by simp [keptL, boxO, OIN, OBs]) (by simp) ?_
        refine WV.one 4 (by kernel_rfl) rfl ?_
        simp only [List.getElem_toArray, List.getElem_cons_succ, List.getElem_cons_zero]
        refine WO.make (ds := []) rfl rfl rfl rfl rfl rfl ek27 (Nat.le_refl _) (by rw [maxLen_eq]; omega) (by omega) fun bB => ?_
        rw [flat_rep (Value.int .i64) m 0, rep_tab]
        simp only [sx, ty, q1, q2, q5, q6, q7, q8, q9, qa, qb, reduceIte, List.append_assoc, List.cons_append, List.nil_append, sy, q3, q4]
        with_reducible refine WV.next (by simp [keptL, boxO, OIN, OBs]) (by simp) ?_
        refine WV.one 5 (by kernel_rfl) rfl ?_
        simp only [List.getElem_toArray, List.getElem_cons_succ, List.getElem_cons_zero]
        refine WO.go 1 (ds := []) rfl ?_
        simp only [sx, ty, q1, q2, q5, q6, q7, q8, q9, qa, qb, reduceIte, List.append_assoc, List.cons_append, List.nil_append, sy, q3, q4]
        with_reducible refine WV.next (by simp [keptL, boxO, OIN, OBs]) (by simp) ?_
        refine WV.one 7 (by kernel_rfl) rfl ?_
        simp only [List.getElem_toArray, List.getElem_cons_succ, List.getElem_cons_zero]
        refine WO.go 1 (ds := []) rfl ?_
        simp only [sx, ty, q1, q2, q5, q6, q7, q8, q9, qa, qb, reduceIte, List.append_assoc, List.cons_append, List.nil_append, sy, q3, q4]
        with_reducible refine WV.next (by simp [keptL, boxO, OIN, OBs]) (by simp) ?_
        refine WV.nil (by kernel_rfl) ?_
        exact ⟨(bA, bB), Sub.perm [0, 1, 3, 2] rfl rfl (by simp) (by simp [getE, okS, renS]) (by simp [flatO, bndL, bnd, OIN]) ⟨rfl, rfl, rfl, rfl, trivial⟩ (by decide)⟩
    · skip
      simp only [List.getElem_toArray, List.getElem_cons_succ, List.getElem_cons_zero]
      refine WO.make (ds := []) rfl rfl rfl rfl rfl rfl ek27 (Nat.le_refl _) (by rw [maxLen_eq]; omega) (by omega) fun bB => ?_
      rw [flat_rep (Value.int .i64) m 0, rep_tab]
      simp only [sx, ty, q1, q2, q5, q6, q7, q8, q9, qa, qb, reduceIte, List.append_assoc, List.cons_append, List.nil_append, sy, q3, q4]
      with_reducible refine WV.next (by simp [keptL, boxO, OIN, OBs]) (by simp) ?_
      refine WV.two 2 6 (by kernel_rfl) rfl rfl ?_ ?_
      · skip
        simp only [List.getElem_toArray, List.getElem_cons_succ, List.getElem_cons_zero]
        refine WO.make (ds := []) rfl rfl rfl rfl rfl rfl ek27 (Nat.le_refl _) (by rw [maxLen_eq]; omega) (by omega) fun bA => ?_
        rw [flat_rep (Value.int .i64) cost.length 0, rep_tab]
        simp only [sx, ty, q1, q2, q5, q6, q7, q8, q9, qa, qb, reduceIte, List.append_assoc, List.cons_append, List.nil_append, sy, q3, q4]
        with_reducible refine WV.next (by simp [keptL, boxO, OIN, OBs]) (by simp) ?_
        refine WV.two 5 6 (by kernel_rfl) rfl rfl ?_ ?_
        · skip
          simp only [List.getElem_toArray, List.getElem_cons_succ, List.getElem_cons_zero]
          refine WO.go 1 (ds := []) rfl ?_
          simp only [sx, ty, q1, q2, q5, q6, q7, q8, q9, qa, qb, reduceIte, List.append_assoc, List.cons_append, List.nil_append, sy, q3, q4]
          with_reducible refine WV.next (by simp [keptL, boxO, OIN, OBs]) (by simp) ?_
          refine WV.one 6 (by kernel_rfl) rfl ?_
          simp only [List.getElem_toArray, List.getElem_cons_succ, List.getElem_cons_zero]
          refine WO.go 1 (ds := []) rfl ?_
          simp only [sx, ty, q1, q2, q5, q6, q7, q8, q9, qa, qb, reduceIte, List.append_assoc, List.cons_append, List.nil_append, sy, q3, q4]
          with_reducible refine WV.next (by simp [keptL, boxO, OIN, OBs]) (by simp) ?_
          refine WV.one 7 (by kernel_rfl) rfl ?_
          simp only [List.getElem_toArray, List.getElem_cons_succ, List.getElem_cons_zero]
          refine WO.go 1 (ds := []) rfl ?_
          simp only [sx, ty, q1, q2, q5, q6, q7, q8, q9, qa, qb, reduceIte, List.append_assoc, List.cons_append, List.nil_append, sy, q3, q4]
          with_reducible refine WV.next (by simp [keptL, boxO, OIN, OBs]) (by simp) ?_
          refine WV.nil (by kernel_rfl) ?_
          exact ⟨(bA, bB), Sub.perm [0, 2, 1, 3] rfl rfl (by simp) (by simp [getE, okS, renS]) (by simp [flatO, bndL, bnd, OIN]) ⟨rfl, rfl, rfl, rfl, trivial⟩ (by decide)⟩
        · skip
          simp only [List.getElem_toArray, List.getElem_cons_succ, List.getElem_cons_zero]
          refine WO.go 1 (ds := []) rfl ?_
          simp only [sx, ty, q1, q2, q5, q6, q7, q8, q9, qa, qb, reduceIte, List.append_assoc, List.cons_append, List.nil_append, sy, q3, q4]
          with_reducible refine WV.next (by simp [keptL, boxO, OIN, OBs]) (by simp) ?_
          refine WV.one 5 (by kernel_rfl) rfl ?_
          simp only [List.getElem_toArray, List.getElem_cons_succ, List.getElem_cons_zero]
          refine WO.go 1 (ds := []) rfl ?_
          simp only [sx, ty, q1, q2, q5, q6, q7, q8, q9, qa, qb, reduceIte, List.append_assoc, List.cons_append, List.nil_append, sy, q3, q4]
          with_reducible refine WV.next (by simp [keptL, boxO, OIN, OBs]) (by simp) ?_
          refine WV.one 7 (by kernel_rfl) rfl ?_
          simp only [List.getElem_toArray, List.getElem_cons_succ, List.getElem_cons_zero]
          refine WO.go 1 (ds := []) rfl ?_
          simp only [sx, ty, q1, q2, q5, q6, q7, q8, q9, qa, qb, reduceIte, List.append_assoc, List.cons_append, List.nil_append, sy, q3, q4]
          with_reducible refine WV.next (by simp [keptL, boxO, OIN, OBs]) (by simp) ?_
          refine WV.nil (by kernel_rfl) ?_
          exact ⟨(bA, bB), Sub.perm [0, 2, 1, 3] rfl rfl (by simp) (by simp [getE, okS, renS]) (by simp [flatO, bndL, bnd, OIN]) ⟨rfl, rfl, rfl, rfl, trivial⟩ (by decide)⟩
      · skip
        simp only [List.getElem_toArray, List.getElem_cons_succ, List.getElem_cons_zero]
        refine WO.go 1 (ds := []) rfl ?_
        simp only [sx, ty, q1, q2, q5, q6, q7, q8, q9, qa, qb, reduceIte, List.append_assoc, List.cons_append, List.nil_append, sy, q3, q4]
        with_reducible refine WV.next (by simp [keptL, boxO, OIN, OBs]) (by simp) ?_
        refine WV.one 2 (by kernel_rfl) rfl ?_
        simp only [List.getElem_toArray, List.getElem_cons_succ, List.getElem_cons_zero]
        refine WO.make (ds := []) rfl rfl rfl rfl rfl rfl ek27 (Nat.le_refl _) (by rw [maxLen_eq]; omega) (by omega) fun bA => ?_
        rw [flat_rep (Value.int .i64) cost.length 0, rep_tab]
        simp only [sx, ty, q1, q2, q5, q6, q7, q8, q9, qa, qb, reduceIte, List.append_assoc, List.cons_append, List.nil_append, sy, q3, q4]
        with_reducible refine WV.next (by simp [keptL, boxO, OIN, OBs]) (by simp) ?_
        refine WV.one 5 (by kernel_rfl) rfl ?_
        simp only [List.getElem_toArray, List.getElem_cons_succ, List.getElem_cons_zero]
        refine WO.go 1 (ds := []) rfl ?_
        simp only [sx, ty, q1, q2, q5, q6, q7, q8, q9, qa, qb, reduceIte, List.append_assoc, List.cons_append, List.nil_append, sy, q3, q4]
        with_reducible refine WV.next (by simp [keptL, boxO, OIN, OBs]) (by simp) ?_
        refine WV.one 7 (by kernel_rfl) rfl ?_
        simp only [List.getElem_toArray, List.getElem_cons_succ, List.getElem_cons_zero]
        refine WO.go 1 (ds := []) rfl ?_
        simp only [sx, ty, q1, q2, q5, q6, q7, q8, q9, qa, qb, reduceIte, List.append_assoc, List.cons_append, List.nil_append, sy, q3, q4]
        with_reducible refine WV.next (by simp [keptL, boxO, OIN, OBs]) (by simp) ?_
        refine WV.nil (by kernel_rfl) ?_
        exact ⟨(bA, bB), Sub.perm [0, 3, 1, 2] rfl rfl (by simp) (by simp [getE, okS, renS]) (by simp [flatO, bndL, bnd, OIN]) ⟨rfl, rfl, rfl, rfl, trivial⟩ (by decide)⟩
    · skip
      simp only [List.getElem_toArray, List.getElem_cons_succ, List.getElem_cons_zero]
      refine WO.go 1 (ds := []) rfl ?_
      simp only [sx, ty, q1, q2, q5, q6, q7, q8, q9, qa, qb, reduceIte, List.append_assoc, List.cons_append, List.nil_append, sy, q3, q4]
      with_reducible refine WV.next (by simp [keptL, boxO, OIN, OBs]) (by simp) ?_
      refine WV.two 2 4 (by kernel_rfl) rfl rfl ?_ ?_
      · skip
        simp only [List.getElem_toArray, List.getElem_cons_succ, List.getElem_cons_zero]
        refine WO.make (ds := []) rfl rfl rfl rfl rfl rfl ek27 (Nat.le_refl _) (by rw [maxLen_eq]; omega) (by omega) fun bA => ?_
        rw [flat_rep (Value.int .i64) cost.length 0, rep_tab]
        simp only [sx, ty, q1, q2, q5, q6, q7, q8, q9, qa, qb, reduceIte, List.append_assoc, List.cons_append, List.nil_append, sy, q3, q4]
        with_reducible refine WV.next (by simp [keptL, boxO, OIN, OBs]) (by simp) ?_
        refine WV.one 4 (by kernel_rfl) rfl ?_
        simp only [List.getElem_toArray, List.getElem_cons_succ, List.getElem_cons_zero]
        refine WO.make (ds := []) rfl rfl rfl rfl rfl rfl ek27 (Nat.le_refl _) (by rw [maxLen_eq]; omega) (by omega) fun bB => ?_
        rw [flat_rep (Value.int .i64) m 0, rep_tab]
        simp only [sx, ty, q1, q2, q5, q6, q7, q8, q9, qa, qb, reduceIte, List.append_assoc, List.cons_append, List.nil_append, sy, q3, q4]
        with_reducible refine WV.next (by simp [keptL, boxO, OIN, OBs]) (by simp) ?_
        refine WV.one 5 (by kernel_rfl) rfl ?_
        simp only [List.getElem_toArray, List.getElem_cons_succ, List.getElem_cons_zero]
        refine WO.go 1 (ds := []) rfl ?_
        simp only [sx, ty, q1, q2, q5, q6, q7, q8, q9, qa, qb, reduceIte, List.append_assoc, List.cons_append, List.nil_append, sy, q3, q4]
        with_reducible refine WV.next (by simp [keptL, boxO, OIN, OBs]) (by simp) ?_
        refine WV.one 7 (by kernel_rfl) rfl ?_
        simp only [List.getElem_toArray, List.getElem_cons_succ, List.getElem_cons_zero]
        refine WO.go 1 (ds := []) rfl ?_
        simp only [sx, ty, q1, q2, q5, q6, q7, q8, q9, qa, qb, reduceIte, List.append_assoc, List.cons_append, List.nil_append, sy, q3, q4]
        with_reducible refine WV.next (by simp [keptL, boxO, OIN, OBs]) (by simp) ?_
        refine WV.nil (by kernel_rfl) ?_
        exact ⟨(bA, bB), Sub.perm [0, 2, 3, 1] rfl rfl (by simp) (by simp [getE, okS, renS]) (by simp [flatO, bndL, bnd, OIN]) ⟨rfl, rfl, rfl, rfl, trivial⟩ (by decide)⟩
      · skip
        simp only [List.getElem_toArray, List.getElem_cons_succ, List.getElem_cons_zero]
        refine WO.make (ds := []) rfl rfl rfl rfl rfl rfl ek27 (Nat.le_refl _) (by rw [maxLen_eq]; omega) (by omega) fun bB => ?_
        rw [flat_rep (Value.int .i64) m 0, rep_tab]
        simp only [sx, ty, q1, q2, q5, q6, q7, q8, q9, qa, qb, reduceIte, List.append_assoc, List.cons_append, List.nil_append, sy, q3, q4]
        with_reducible refine WV.next (by simp [keptL, boxO, OIN, OBs]) (by simp) ?_
        refine WV.one 2 (by kernel_rfl) rfl ?_
        simp only [List.getElem_toArray, List.getElem_cons_succ, List.getElem_cons_zero]
        refine WO.make (ds := []) rfl rfl rfl rfl rfl rfl ek27 (Nat.le_refl _) (by rw [maxLen_eq]; omega) (by omega) fun bA => ?_
        rw [flat_rep (Value.int .i64) cost.length 0, rep_tab]
        simp only [sx, ty, q1, q2, q5, q6, q7, q8, q9, qa, qb, reduceIte, List.append_assoc, List.cons_append, List.nil_append, sy, q3, q4]
        with_reducible refine WV.next (by simp [keptL, boxO, OIN, OBs]) (by simp) ?_
        refine WV.one 5 (by kernel_rfl) rfl ?_
        simp only [List.getElem_toArray, List.getElem_cons_succ, List.getElem_cons_zero]
        refine WO.go 1 (ds := []) rfl ?_
        simp only [sx, ty, q1, q2, q5, q6, q7, q8, q9, qa, qb, reduceIte, List.append_assoc, List.cons_append, List.nil_append, sy, q3, q4]
        with_reducible refine WV.next (by simp [keptL, boxO, OIN, OBs]) (by simp) ?_
        refine WV.one 7 (by kernel_rfl) rfl ?_
        simp only [List.getElem_toArray, List.getElem_cons_succ, List.getElem_cons_zero]
        refine WO.go 1 (ds := []) rfl ?_
        simp only [sx, ty, q1, q2, q5, q6, q7, q8, q9, qa, qb, reduceIte, List.append_assoc, List.cons_append, List.nil_append, sy, q3, q4]
        with_reducible refine WV.next (by simp [keptL, boxO, OIN, OBs]) (by simp) ?_
        refine WV.nil (by kernel_rfl) ?_
        exact ⟨(bA, bB), Sub.perm [0, 3, 2, 1] rfl rfl (by simp) (by simp [getE, okS, renS]) (by simp [flatO, bndL, bnd, OIN]) ⟨rfl, rfl, rfl, rfl, trivial⟩ (by decide)⟩
  · rintro ⟨bA, bB⟩
    simp only [sx, ty, q1, q2, q5, q6, q7, q8, q9, qa, qb, reduceIte, sxk, sy, q3, q4]
    refine W.seqK fun K4 hK4 => W.region ?_
    refine WO.go 1 (ds := []) rfl ?_
    simp only [sx, ty, q1, q2, q5, q6, q7, q8, q9, qa, qb, reduceIte, sy, q3, q4]
    refine WO.callO (fun b : Nat => .slice (some ⟨b, 0, none⟩) m m) (fun b => OIN m (tab m fun _ => -1) (some ⟨b, 0, none⟩, m)) (ds := []) rfl rfl rfl rfl co44 (fun x T cs h => by cases h) (fun ρ w1 hb => by rw [← rep_tab]; exact nobody_spec w1 m (by omega)) fun bo => ?_
    refine WO.go 1 (ds := []) rfl ?_
    simp only [sx, ty, q1, q2, q5, q6, q7, q8, q9, qa, qb, reduceIte, sy, q3, q4]
    with_reducible refine WO.nil ?_
    refine hK4 _ ?_; clear hK4
    refine W.seqK fun K5 hK5 => ?_
    refine W.pure (ds := []) rfl fun K6 hK6 => ?_
    simp only [sx, ty, q1, q2, q5, q6, q7, q8, q9, qa, qb, reduceIte, sy, q3, q4]; with_reducible refine hK6 _ ?_; clear hK6
    refine W.block ?_
    refine W.loopO (X := Nat × (Nat → Int) × (Nat → Int) × (Nat → Int)) [0, 2, 3, 4, 5, 31] (fun x => [(32, .val (.int .i64 x.1))]) (fun x => [.cells 69 [.val (.slice none 0 0), .val (.slice none 0 0)], OIN cost.length (tab cost.length x.2.1) (some ⟨bA, 0, none⟩, cost.length), OIN m (tab m x.2.2.1) (some ⟨bB, 0, none⟩, m), .cells 69 [.val (.slice (some ⟨bA, 0, none⟩) cost.length cost.length), .val (.slice (some ⟨bB, 0, none⟩) m m)], OIN m (tab m x.2.2.2) (some ⟨bo, 0, none⟩, m)]) (fun x => [((fun _ => True), w)]) (fun x => x.1 ≤ cost.length ∧ RInv (cF cost) cost.length m x.1 x.2.1 x.2.2.1 x.2.2.2) (fun x => cost.length - x.1) (0, (fun _ => 0), (fun _ => 0), (fun _ => -1)) ?_ ?_ ?_
    · exact ⟨rfl, by simp [getE, bnd, keepE], ⟨[], by simp⟩, by simp [Own.bnd, bndL, bnd, boxO, OIN, OBs], by simp⟩
    · skip
      exact ⟨Nat.zero_le _, RInv.start _ _ _⟩
    · rintro ⟨r, rows, cols, owner⟩ hI
      simp only at hI
      obtain ⟨hrc, hR⟩ := hI
      simp only [sx, ty, q1, q2, q5, q6, q7, q8, q9, qa, qb, reduceIte, sxk, sy, q3, q4]
      refine W.pure (ds := []) rfl fun K7 hK7 => ?_
      simp only [sx, ty, q1, q2, q5, q6, q7, q8, q9, qa, qb, reduceIte, sy, q3, q4]; with_reducible refine hK7 _ ?_; clear hK7
      refine W.seqK fun K8 hK8 => ?_
      refine W.cond rfl rfl (fun hc => ?_) (fun hc => ?_)
      · skip
        have hr : r < cost.length := by simpa using hc
        have hmn : ∀ l, l ∈ cost → l.length = m := fun l hl => by rw [← hm, wideF, if_neg (by omega)]; exact (hw.row l hl).1
        obtain ⟨hrs, hcs⟩ := hR.small (by omega)
        refine W.skip (hK8 _ ?_)
        refine W.seqK fun K9 hK9 => ?_
        refine W.block ?_
        refine W.pure (ds := []) rfl fun K10 hK10 => ?_
        simp only [sx, ty, q1, q2, q5, q6, q7, q8, q9, qa, qb, reduceIte, sy, q3, q4]; with_reducible refine hK10 _ ?_; clear hK10
        refine W.seqVia (X := Nat × Nat) (fun x => ⟨225, [(0, .val (.slice p cost.length c)), (2, .loc 0 0), (3, .val (.int .i64 (m : Int))), (4, .loc 3 0), (5, .val (.slice (some ⟨bo, 0, none⟩) m m)), (6, .val (.int .i64 (r : Int))), (7, .val (.slice (some ⟨x.1, 0, none⟩) m m)), (8, .val (.slice (some ⟨x.2, 0, none⟩) m m)), (31, .val (.int .i64 (cost.length : Int))), (32, .val (.int .i64 (r : Int)))], [.cells 69 [.val (.slice none 0 0), .val (.slice none 0 0)], OIN cost.length (tab cost.length rows) (some ⟨bA, 0, none⟩, cost.length), OIN m (tab m cols) (some ⟨bB, 0, none⟩, m), .cells 69 [.val (.slice (some ⟨bA, 0, none⟩) cost.length cost.length), .val (.slice (some ⟨bB, 0, none⟩) m m)], OIN m (tab m owner) (some ⟨bo, 0, none⟩, m), OIN m (tab m (fun _ => 0)) (some ⟨x.1, 0, none⟩, m), OIN m (tab m (fun _ => -1)) (some ⟨x.2, 0, none⟩, m)], [((fun _ => True), w)], []⟩) ?_ ?_
        · skip
          refine W.regionV [0, 2] 4 ([.dead, OIN cost.length (tab cost.length rows) (some ⟨bA, 0, none⟩, cost.length), OIN m (tab m cols) (some ⟨bB, 0, none⟩, m), .dead, OIN m (tab m owner) (some ⟨bo, 0, none⟩, m)]) mixed (by kernel_rfl) rfl (by simp [keptL, boxO, OIN, OBs]) rfl (fun _ _ h => h) ?_
          simp only [sx, ty, q1, q2, q5, q6, q7, q8, q9, qa, qb, reduceIte, sxt, List.toList_toArray, RunP, sy, q3, q4]
          refine WF.go rfl rfl rfl ?_
          simp only [sx, ty, q1, q2, q5, q6, q7, q8, q9, qa, qb, reduceIte, sxt, List.toList_toArray, RunP, sy, q3, q4]
          refine WF.go rfl rfl rfl ?_
          simp only [sx, ty, q1, q2, q5, q6, q7, q8, q9, qa, qb, reduceIte, sxt, List.toList_toArray, RunP, sy, q3, q4]
          refine WF.nil ?_
          simp only [sx, ty, q1, q2, q5, q6, q7, q8, q9, qa, qb, reduceIte, sxt, List.toList_toArray, sy, q3, q4]
          refine WV.two 1 3 (by kernel_rfl) rfl rfl ?_ ?_
          · skip
            simp only [List.getElem_toArray, List.getElem_cons_succ, List.getElem_cons_zero]
            refine WO.make (ds := []) rfl rfl rfl rfl rfl rfl ek27 (Nat.le_refl _) (by rw [maxLen_eq]; omega) (by omega) fun bd => ?_
            rw [flat_rep (Value.int .i64) m 0, rep_tab]
            simp only [sx, ty, q1, q2, q5, q6, q7, q8, q9, qa, qb, reduceIte, List.append_assoc, List.cons_append, List.nil_append, sy, q3, q4]
            with_reducible refine WV.next (by simp [keptL, boxO, OIN, OBs]) (by simp) ?_
            refine WV.one 3 (by kernel_rfl) rfl ?_
            simp only [List.getElem_toArray, List.getElem_cons_succ, List.getElem_cons_zero]
            refine WO.callO (fun b : Nat => .slice (some ⟨b, 0, none⟩) m m) (fun b => OIN m (tab m fun _ => -1) (some ⟨b, 0, none⟩, m)) (ds := []) rfl rfl rfl rfl co44 (fun x T cs h => by cases h) (fun ρ w1 hb => by rw [← rep_tab]; exact nobody_spec w1 m (by omega)) fun bf => ?_
            simp only [sx, ty, q1, q2, q5, q6, q7, q8, q9, qa, qb, reduceIte, List.append_assoc, List.cons_append, List.nil_append, sy, q3, q4]
            with_reducible refine WV.next (by simp [keptL, boxO, OIN, OBs]) (by simp) ?_
            refine WV.one 4 (by kernel_rfl) rfl ?_
            simp only [List.getElem_toArray, List.getElem_cons_succ, List.getElem_cons_zero]
            refine WO.go 1 (ds := []) rfl ?_
            simp only [sx, ty, q1, q2, q5, q6, q7, q8, q9, qa, qb, reduceIte, List.append_assoc, List.cons_append, List.nil_append, sy, q3, q4]
            with_reducible refine WV.next (by simp [keptL, boxO, OIN, OBs]) (by simp) ?_
            refine WV.one 5 (by kernel_rfl) rfl ?_
            simp only [List.getElem_toArray, List.getElem_cons_succ, List.getElem_cons_zero]
            refine WO.go 1 (ds := []) rfl ?_
            simp only [sx, ty, q1, q2, q5, q6, q7, q8, q9, qa, qb, reduceIte, List.append_assoc, List.cons_append, List.nil_append, sy, q3, q4]
            with_reducible refine WV.next (by simp [keptL, boxO, OIN, OBs]) (by simp) ?_
            refine WV.nil (by kernel_rfl) ?_
            exact ⟨(bd, bf), Sub.perm [0, 1, 2, 3, 4, 5, 6] rfl rfl (by simp) (by simp [getE, okS, renS]) (by simp [flatO, bndL, bnd, OIN]) ⟨rfl, rfl, rfl, rfl, rfl, rfl, rfl, trivial⟩ (by decide)⟩
          · skip
            simp only [List.getElem_toArray, List.getElem_cons_succ, List.getElem_cons_zero]
            refine WO.callO (fun b : Nat => .slice (some ⟨b, 0, none⟩) m m) (fun b => OIN m (tab m fun _ => -1) (some ⟨b, 0, none⟩, m)) (ds := []) rfl rfl rfl rfl co44 (fun x T cs h => by cases h) (fun ρ w1 hb => by rw [← rep_tab]; exact nobody_spec w1 m (by omega)) fun bf => ?_
            simp only [sx, ty, q1, q2, q5, q6, q7, q8, q9, qa, qb, reduceIte, List.append_assoc, List.cons_append, List.nil_append, sy, q3, q4]
            with_reducible refine WV.next (by simp [keptL, boxO, OIN, OBs]) (by simp) ?_
            refine WV.one 1 (by kernel_rfl) rfl ?_
            simp only [List.getElem_toArray, List.getElem_cons_succ, List.getElem_cons_zero]
            refine WO.make (ds := []) rfl rfl rfl rfl rfl rfl ek27 (Nat.le_refl _) (by rw [maxLen_eq]; omega) (by omega) fun bd => ?_
            rw [flat_rep (Value.int .i64) m 0, rep_tab]
            simp only [sx, ty, q1, q2, q5, q6, q7, q8, q9, qa, qb, reduceIte, List.append_assoc, List.cons_append, List.nil_append, sy, q3, q4]
            with_reducible refine WV.next (by simp [keptL, boxO, OIN, OBs]) (by simp) ?_
            refine WV.one 4 (by kernel_rfl) rfl ?_
            simp only [List.getElem_toArray, List.getElem_cons_succ, List.getElem_cons_zero]
            refine WO.go 1 (ds := []) rfl ?_
            simp only [sx, ty, q1, q2, q5, q6, q7, q8, q9, qa, qb, reduceIte, List.append_assoc, List.cons_append, List.nil_append, sy, q3, q4]
            with_reducible refine WV.next (by simp [keptL, boxO, OIN, OBs]) (by simp) ?_
            refine WV.one 5 (by kernel_rfl) rfl ?_
            simp only [List.getElem_toArray, List.getElem_cons_succ, List.getElem_cons_zero]
            refine WO.go 1 (ds := []) rfl ?_
            simp only [sx, ty, q1, q2, q5, q6, q7, q8, q9, qa, qb, reduceIte, List.append_assoc, List.cons_append, List.nil_append, sy, q3, q4]
            with_reducible refine WV.next (by simp [keptL, boxO, OIN, OBs]) (by simp) ?_
            refine WV.nil (by kernel_rfl) ?_
            exact ⟨(bd, bf), Sub.perm [0, 1, 2, 3, 4, 6, 5] rfl rfl (by simp) (by simp [getE, okS, renS]) (by simp [flatO, bndL, bnd, OIN]) ⟨rfl, rfl, rfl, rfl, rfl, rfl, rfl, trivial⟩ (by decide)⟩
        · rintro ⟨bd, bf⟩
          simp only [sx, ty, q1, q2, q5, q6, q7, q8, q9, qa, qb, reduceIte, sxk, sy, q3, q4]
          refine W.seqK fun K12 hK12 => ?_
          refine W.pure (ds := []) rfl fun K13 hK13 => ?_
          simp only [sx, ty, q1, q2, q5, q6, q7, q8, q9, qa, qb, reduceIte, sy, q3, q4]; with_reducible refine hK13 _ ?_; clear hK13
          refine W.block ?_
          refine W.loopO (X := Nat) [0, 2, 3, 4, 5, 6, 7, 8, 31, 32, 40] (fun x => [(41, .val (.int .i64 x))]) (fun x => [.cells 69 [.val (.slice none 0 0), .val (.slice none 0 0)], OIN cost.length (tab cost.length rows) (some ⟨bA, 0, none⟩, cost.length), OIN m (tab m cols) (some ⟨bB, 0, none⟩, m), .cells 69 [.val (.slice (some ⟨bA, 0, none⟩) cost.length cost.length), .val (.slice (some ⟨bB, 0, none⟩) m m)], OIN m (tab m owner) (some ⟨bo, 0, none⟩, m), OIN m (tab m (farF x)) (some ⟨bd, 0, none⟩, m), OIN m (tab m (fun _ => -1)) (some ⟨bf, 0, none⟩, m)]) (fun x => [((fun _ => True), w)]) (fun x => x ≤ m) (fun x => m - x) 0 ?_ ?_ ?_
          · exact ⟨rfl, by simp [getE, bnd, keepE], ⟨[], by simp [farF_zero]⟩, by simp [Own.bnd, bndL, bnd, boxO, OIN, OBs], by simp⟩
          · skip
            exact Nat.zero_le _
          · rintro j hj
            simp only [sx, ty, q1, q2, q5, q6, q7, q8, q9, qa, qb, reduceIte, sxk, sy, q3, q4]
            refine W.pure (ds := []) rfl fun K14 hK14 => ?_
            simp only [sx, ty, q1, q2, q5, q6, q7, q8, q9, qa, qb, reduceIte, sy, q3, q4]; with_reducible refine hK14 _ ?_; clear hK14
            refine W.seqK fun K15 hK15 => ?_
            refine W.cond rfl rfl (fun hc => ?_) (fun hc => ?_)
            · skip
              have hlt : j < m := by simpa using hc
              refine W.skip (hK15 _ ?_)
              refine W.seqK fun K16 hK16 => ?_
              refine W.block ?_
              refine W.pure (ds := []) rfl fun K17 hK17 => ?_
              simp only [sx, ty, q1, q2, q5, q6, q7, q8, q9, qa, qb, reduceIte, sy, q3, q4]; with_reducible refine hK17 _ ?_; clear hK17
              refine W.region ?_
              refine WO.go 2 (ds := []) rfl ?_
              simp only [sx, ty, q1, q2, q5, q6, q7, q8, q9, qa, qb, reduceIte, sy, q3, q4]
              refine WO.q (ds := []) rfl rfl rfl (QR.idx rfl rfl rfl el27 (by omega) (by omega)) ?_
              simp only [sx, ty, q1, q2, q5, q6, q7, q8, q9, qa, qb, reduceIte, sy, q3, q4]
              refine WO.storeOwn (k := 5) (i := j) (ds := []) rfl rfl rfl rfl rfl rfl rfl (by omega) rfl rfl sz3 ?_
              rw [show (((tab m (farF j)).map (Value.int .i64)).set j (Value.int .i64 1099511627776)) = ((tab m (farF (j + 1))).map (Value.int .i64)) by rw [← List.map_set]; exact congrArg _ (tab_set (by unfold farF; rw [if_pos (by omega)]) fun x _ hx => by unfold farF; simp only [show (x < j + 1) = (x < j) by simp; omega])]
              simp only [sx, ty, q1, q2, q5, q6, q7, q8, q9, qa, qb, reduceIte, sy, q3, q4]
              with_reducible refine WO.nil ?_
              refine hK16 _ ?_
              refine W.region ?_
              refine WO.go 2 (ds := []) rfl ?_
              simp only [sx, ty, q1, q2, q5, q6, q7, q8, q9, qa, qb, reduceIte, sy, q3, q4]
              with_reducible refine WO.nil ?_
              refine ⟨j + 1, hlt, by first | omega | (simp only; omega), rfl, by simp [getE, bnd, keepE, wrap_succ (show j + 1 ≤ 9223372036854775807 by omega)], ⟨[], by simp [OIN, OBs]⟩, by simp [Own.bnd, bndL, bnd, OIN, OBs, boxO], by simp⟩
            · skip
              have hjm : j = m := Nat.le_antisymm hj (by simp at hc; omega)
              subst j
              refine W.exit (hK12 _ ?_)
              refine W.seqK fun K18 hK18 => W.region ?_
              refine WO.go 1 (ds := []) rfl ?_
              simp only [sx, ty, q1, q2, q5, q6, q7, q8, q9, qa, qb, reduceIte, sy, q3, q4]
              refine WO.make (ds := []) rfl rfl rfl rfl rfl rfl ek71 (Nat.le_refl _) (by rw [maxLen_eq]; omega) (by omega) fun bn => ?_
              rw [flat_rep Value.bool m false, rep_tabB]
              refine WO.go 1 (ds := []) rfl ?_
              simp only [sx, ty, q1, q2, q5, q6, q7, q8, q9, qa, qb, reduceIte, sy, q3, q4]
              with_reducible refine WO.nil ?_
              refine hK18 _ ?_; clear hK18
              refine W.pure (ds := []) rfl fun K19 hK19 => ?_
              simp only [sx, ty, q1, q2, q5, q6, q7, q8, q9, qa, qb, reduceIte, sy, q3, q4]; with_reducible refine hK19 _ ?_; clear hK19
              refine W.seqK fun K20 hK20 => ?_
              refine W.block ?_
              refine W.loopO (X := List Nat × (Nat → Int) × (Nat → Int) × Nat × Int × Int) [0, 2, 3, 4, 5, 6, 7, 8, 10, 31, 32] (fun x => [(11, .val (.int .i64 (x.2.2.2.1 : Int))), (12, .val (.int .i64 x.2.2.2.2.1)), (13, .val (.int .i64 x.2.2.2.2.2))]) (fun x => [.cells 69 [.val (.slice none 0 0), .val (.slice none 0 0)], OIN cost.length (tab cost.length rows) (some ⟨bA, 0, none⟩, cost.length), OIN m (tab m cols) (some ⟨bB, 0, none⟩, m), .cells 69 [.val (.slice (some ⟨bA, 0, none⟩) cost.length cost.length), .val (.slice (some ⟨bB, 0, none⟩) m m)], OIN m (tab m owner) (some ⟨bo, 0, none⟩, m), OIN m (tab m x.2.1) (some ⟨bd, 0, none⟩, m), OIN m (tab m x.2.2.1) (some ⟨bf, 0, none⟩, m), OBs m (tabB m fun x9 => decide (x9 ∈ x.1)) (some ⟨bn, 0, none⟩, m)]) (fun x => [((fun _ => True), w)]) (fun x => TInv (cF cost) cost.length m r rows cols owner x.1 x.2.1 x.2.2.1 x.2.2.2.1 x.2.2.2.2.1 x.2.2.2.2.2) (fun x => m - x.1.length) ([], (fun _ => far), (fun _ => -1), r, -1, 0) ?_ ?_ ?_
              · exact ⟨rfl, by simp [getE, bnd, keepE], ⟨[], by simp [farF_all, OIN, OBs]⟩, by simp [Own.bnd, bndL, bnd, boxO, OIN, OBs], by simp⟩
              · skip
                exact TInv.start hR
              · rintro ⟨ord, dist, from_, at9, now, base⟩ hT
                simp only at hT
                have hat := hT.scn.lt hR hr hT.lt hT.own
                obtain ⟨y, hy⟩ := len_lt (rfl : cost.length = _) hat
                have hyn := hmn y (List.mem_of_getElem? hy)
                have hyr := (hw.row y (List.mem_of_getElem? hy)).2
                have hb0 := hT.b0
                have hbf := hT.bf
                have hfar : (far : Int) = 1099511627776 := rfl
                simp only [sx, ty, q1, q2, q5, q6, q7, q8, q9, qa, qb, reduceIte, sxk, sy, q3, q4]
                refine W.block ?_
                refine W.seqK fun K21 hK21 => ?_
                refine W.seqK fun K22 hK22 => W.region ?_
                refine WO.go 2 (ds := []) rfl ?_
                simp only [sx, ty, q1, q2, q5, q6, q7, q8, q9, qa, qb, reduceIte, sy, q3, q4]
                refine WO.elem (y := y) hl (by simp [St.put]) (ds := []) rfl rfl rfl (by simp [St.put]) (fun _ => rfl) rfl rfl rfl rfl rfl el36 agg27 sz27 (.inr rfl) (by omega) (hy) fun p ces hces => ?_
                obtain ⟨p9, c9, rfl, hc5, hc6⟩ := rInts_open hces
                have hces1 := hces
                clear hces
                refine WO.go 2 (ds := []) rfl ?_
                simp only [sx, ty, q1, q2, q5, q6, q7, q8, q9, qa, qb, reduceIte, sy, q3, q4]
                with_reducible refine WO.nil ?_
                refine hK22 _ ?_; clear hK22
                refine W.block ?_
                refine W.loopO (X := Nat) [0, 2, 3, 4, 5, 6, 7, 8, 10, 11, 12, 13, 31, 32, 54, 55] (fun x => [(56, .val (.int .i64 x))]) (fun x => [.cells 69 [.val (.slice none 0 0), .val (.slice none 0 0)], OIN cost.length (tab cost.length rows) (some ⟨bA, 0, none⟩, cost.length), OIN m (tab m cols) (some ⟨bB, 0, none⟩, m), .cells 69 [.val (.slice (some ⟨bA, 0, none⟩) cost.length cost.length), .val (.slice (some ⟨bB, 0, none⟩) m m)], OIN m (tab m owner) (some ⟨bo, 0, none⟩, m), OIN m (tab m (relaxD (cF cost) rows cols at9 base ord dist x)) (some ⟨bd, 0, none⟩, m), OIN m (tab m (relaxP (cF cost) rows cols at9 now base ord dist from_ x)) (some ⟨bf, 0, none⟩, m), OBs m (tabB m fun x9 => decide (x9 ∈ ord)) (some ⟨bn, 0, none⟩, m)]) (fun x => [((fun _ => True), w)]) (fun x => x ≤ m) (fun x => m - x) 0 ?_ ?_ ?_
                · exact ⟨rfl, by simp [getE, bnd, keepE], ⟨[], by simp [relaxD_zero, relaxP_zero]⟩, by simp [Own.bnd, bndL, bnd, boxO, OIN, OBs], by simp⟩
                · skip
                  exact Nat.zero_le _
                · rintro k hj
                  simp only [sx, ty, q1, q2, q5, q6, q7, q8, q9, qa, qb, reduceIte, sxk, sy, q3, q4]
                  refine W.pure (ds := []) rfl fun K23 hK23 => ?_
                  simp only [sx, ty, q1, q2, q5, q6, q7, q8, q9, qa, qb, reduceIte, sy, q3, q4]; with_reducible refine hK23 _ ?_; clear hK23
                  refine W.seqK fun K24 hK24 => ?_
                  refine W.cond rfl rfl (fun hc => ?_) (fun hc => ?_)
                  · skip
                    have hlt : k < m := by simp at hc; omega
                    obtain ⟨z, hz⟩ := len_lt hyn hlt
                    have hcz := cF_eq hy hz
                    have hzr := hyr z (List.mem_of_getElem? hz)
                    have hra := hrs at9 hat
                    have hck := hcs k hlt
                    have hw1 : IntKind.i64.wrap (base + z) = base + z := wrap_id (by omega) (by omega)
                    have hw2 : IntKind.i64.wrap (base + z - rows at9) = base + z - rows at9 := wrap_id (by omega) (by omega)
                    have hw3 : IntKind.i64.wrap (base + z - rows at9 - cols k) = base + z - rows at9 - cols k := wrap_id (by omega) (by omega)
                    refine W.skip (hK24 _ ?_)
                    refine W.seqK fun K25 hK25 => ?_
                    refine W.block ?_
                    refine W.seqK fun K26 hK26 => W.region ?_
                    refine WO.go 1 (ds := []) rfl ?_
                    simp only [sx, ty, q1, q2, q5, q6, q7, q8, q9, qa, qb, reduceIte, sy, q3, q4]
                    refine WO.elem (y := z) hces1 (by simp [St.put]) (ds := []) rfl rfl rfl (by simp [St.put]) (fun _ => rfl) rfl rfl rfl rfl rfl el27 agg3 sz3 (.inr rfl) (by omega) (hz) fun p ces hces => ?_
                    obtain rfl := rInt_open hces
                    clear hces
                    refine WO.go 2 (ds := []) rfl ?_
                    simp only [sx, ty, q1, q2, q5, q6, q7, q8, q9, qa, qb, reduceIte, sy, q3, q4]
                    with_reducible refine WO.nil ?_
                    refine hK26 _ ?_; clear hK26
                    refine W.seqK fun K27 hK27 => ?_
                    refine W.regionQ mixed (by kernel_rfl) ?_
                    refine WQ.go 6 (ds := []) rfl ?_
                    simp only [sx, ty, q1, q2, q5, q6, q7, q8, q9, qa, qb, reduceIte, sxq, sy, q3, q4, hw1, hw2, hw3]
                    refine WQ.q (ds := []) rfl rfl rfl (QR.idx rfl rfl rfl el27 (by omega) (by omega)) ?_
                    refine WQ.q (ds := []) rfl rfl rfl (QR.load [Value.int .i64 (rows at9)] false rfl rfl agg3 sz3 (.inr rfl) (fun ρ w1 hb => own_elem_at (k := 1) (i := at9) hb rfl (map_get (Value.int .i64) (tab_getE hat rfl)))) ?_
                    simp only [List.drop_succ_cons, List.drop_zero, List.take_succ_cons, List.take_zero, ofCells, Bool.false_eq_true, if_false, List.headD_cons]
                    refine WQ.go 4 (ds := []) rfl ?_
                    simp only [sx, ty, q1, q2, q5, q6, q7, q8, q9, qa, qb, reduceIte, sxq, sy, q3, q4, hw1, hw2, hw3]
                    refine WQ.q (ds := []) rfl rfl rfl (QR.idx rfl rfl rfl el27 (by omega) (by omega)) ?_
                    refine WQ.q (ds := []) rfl rfl rfl (QR.load [Value.int .i64 (cols k)] false rfl rfl agg3 sz3 (.inr rfl) (fun ρ w1 hb => own_elem_at (k := 2) (i := k) hb rfl (map_get (Value.int .i64) (tab_getE hlt rfl)))) ?_
                    simp only [List.drop_succ_cons, List.drop_zero, List.take_succ_cons, List.take_zero, ofCells, Bool.false_eq_true, if_false, List.headD_cons]
                    refine WQ.go 2 (ds := []) rfl ?_
                    simp only [sx, ty, q1, q2, q5, q6, q7, q8, q9, qa, qb, reduceIte, sxq, sy, q3, q4, hw1, hw2, hw3]
                    with_reducible refine WQ.nil ?_
                    refine hK27 _ ?_; clear hK27
                    refine W.join 92 (.val (.bool (relaxC (cF cost) rows cols at9 base ord dist k))) [0, 2, 3, 4, 5, 6, 7, 8, 10, 11, 12, 13, 14, 16, 31, 32, 54, 55, 56] (W.region ?_) ?_
                    · skip
                      refine WO.go 3 (ds := [some 76, some 77, some 78, some 79, some 80, some 81, some 82, some 83, some 84, some 85, some 86, some 87, some 88, some 89, some 90, some 91, some 92]) rfl ?_
                      simp only [sx, ty, q1, q2, q5, q6, q7, q8, q9, qa, qb, reduceIte, sy, q3, q4, hw1, hw2, hw3]
                      refine WO.cases 78 _ rfl (fun hg78 => ?_) (fun hg78 => ?_)
                      · skip
                        have a1 : 0 ≤ z := by simpa using hg78
                        refine WO.go 2 (ds := [some 76, some 77, some 78, some 79, some 80, some 81, some 82, some 83, some 84, some 85, some 86, some 87, some 88, some 89, some 90, some 91, some 92]) rfl ?_
                        simp only [sx, ty, q1, q2, q5, q6, q7, q8, q9, qa, qb, reduceIte, sy, q3, q4, hw1, hw2, hw3]
                        refine WO.q (ds := [some 76, some 77, some 78, some 79, some 80, some 81, some 82, some 83, some 84, some 85, some 86, some 87, some 88, some 89, some 90, some 91, some 92]) rfl rfl rfl (QR.idx rfl rfl rfl el71 (by omega) (by omega)) ?_
                        refine WO.q (ds := [some 76, some 77, some 78, some 79, some 80, some 81, some 82, some 83, some 84, some 85, some 86, some 87, some 88, some 89, some 90, some 91, some 92]) rfl rfl rfl (QR.load [Value.bool (decide (k ∈ ord))] false rfl rfl agg4 sz4 (.inr rfl) (fun ρ w1 hb => own_elem_at (k := 7) (i := k) hb rfl (map_get (Value.bool) (tabB_getE hlt rfl)))) ?_
                        simp only [List.drop_succ_cons, List.drop_zero, List.take_succ_cons, List.take_zero, ofCells, Bool.false_eq_true, if_false, List.headD_cons]
                        refine WO.go 3 (ds := [some 76, some 77, some 78, some 79, some 80, some 81, some 82, some 83, some 84, some 85, some 86, some 87, some 88, some 89, some 90, some 91, some 92]) rfl ?_
                        simp only [sx, ty, q1, q2, q5, q6, q7, q8, q9, qa, qb, reduceIte, sy, q3, q4, hw1, hw2, hw3]
                        refine WO.cases 85 _ rfl (fun hg85 => ?_) (fun hg85 => ?_)
                        · skip
                          have a2 : k ∉ ord := by simpa using hg85
                          refine WO.go 3 (ds := [some 76, some 77, some 78, some 79, some 80, some 81, some 82, some 83, some 84, some 85, some 86, some 87, some 88, some 89, some 90, some 91, some 92]) rfl ?_
                          simp only [sx, ty, q1, q2, q5, q6, q7, q8, q9, qa, qb, reduceIte, sy, q3, q4, hw1, hw2, hw3]
                          refine WO.q (ds := [some 76, some 77, some 78, some 79, some 80, some 81, some 82, some 83, some 84, some 85, some 86, some 87, some 88, some 89, some 90, some 91, some 92]) rfl rfl rfl (QR.idx rfl rfl rfl el27 (by omega) (by omega)) ?_
                          refine WO.q (ds := [some 76, some 77, some 78, some 79, some 80, some 81, some 82, some 83, some 84, some 85, some 86, some 87, some 88, some 89, some 90, some 91, some 92]) rfl rfl rfl (QR.load [Value.int .i64 (dist k)] false rfl rfl agg3 sz3 (.inr rfl) (fun ρ w1 hb => own_elem_at (k := 5) (i := k) hb rfl (map_get (Value.int .i64) (tab_getE hlt relaxD_self)))) ?_
                          simp only [List.drop_succ_cons, List.drop_zero, List.take_succ_cons, List.take_zero, ofCells, Bool.false_eq_true, if_false, List.headD_cons]
                          refine WO.go 2 (ds := [some 76, some 77, some 78, some 79, some 80, some 81, some 82, some 83, some 84, some 85, some 86, some 87, some 88, some 89, some 90, some 91, some 92]) rfl ?_
                          simp only [sx, ty, q1, q2, q5, q6, q7, q8, q9, qa, qb, reduceIte, sy, q3, q4, hw1, hw2, hw3]
                          with_reducible refine WO.nil ?_
                          refine ⟨rfl, ?_, ⟨_, rfl⟩, by simp [Own.bnd, bndL, bnd, boxO, OIN, OBs], by simp⟩
                          try simp [getE, bnd, keepE, relaxC, hcz, a1, a2]
                          try simp [getE, bnd, keepE, relaxC, hcz, a1]
                        · skip
                          have a2 : k ∈ ord := by simpa using hg85
                          refine WO.go 7 (ds := [some 76, some 77, some 78, some 79, some 80, some 81, some 82, some 83, some 84, some 85, some 86, some 87, some 88, some 89, some 90, some 91, some 92]) rfl ?_
                          simp only [sx, ty, q1, q2, q5, q6, q7, q8, q9, qa, qb, reduceIte, sy, q3, q4, hw1, hw2, hw3]
                          with_reducible refine WO.nil ?_
                          refine ⟨rfl, ?_, ⟨_, rfl⟩, by simp [Own.bnd, bndL, bnd, boxO, OIN, OBs], by simp⟩
                          try simp [getE, bnd, keepE, relaxC, hcz, a1, a2]
                          try simp [getE, bnd, keepE, relaxC, hcz, a1]
                      · skip
                        have a1 : ¬ 0 ≤ z := by simpa using hg78
                        refine WO.go 14 (ds := [some 76, some 77, some 78, some 79, some 80, some 81, some 82, some 83, some 84, some 85, some 86, some 87, some 88, some 89, some 90, some 91, some 92]) rfl ?_
                        simp only [sx, ty, q1, q2, q5, q6, q7, q8, q9, qa, qb, reduceIte, sy, q3, q4, hw1, hw2, hw3]
                        with_reducible refine WO.nil ?_
                        refine ⟨rfl, ?_, ⟨_, rfl⟩, by simp [Own.bnd, bndL, bnd, boxO, OIN, OBs], by simp⟩
                        try simp [getE, bnd, keepE, relaxC, hcz, a1, a2]
                        try simp [getE, bnd, keepE, relaxC, hcz, a1]
                    · simp only [sx, ty, q1, q2, q5, q6, q7, q8, q9, qa, qb, reduceIte, sxk, sy, q3, q4, hw1, hw2, hw3]
                      refine W.cond rfl rfl (fun hc => ?_) (fun hc => ?_)
                      · skip
                        have hcd : relaxC (cF cost) rows cols at9 base ord dist k = true := by simpa using hc
                        refine W.region ?_
                        refine WO.go 6 (ds := []) rfl ?_
                        simp only [sx, ty, q1, q2, q5, q6, q7, q8, q9, qa, qb, reduceIte, sy, q3, q4, hw1, hw2, hw3]
                        refine WO.q (ds := []) rfl rfl rfl (QR.idx rfl rfl rfl el27 (by omega) (by omega)) ?_
                        simp only [sx, ty, q1, q2, q5, q6, q7, q8, q9, qa, qb, reduceIte, sy, q3, q4, hw1, hw2, hw3]
                        refine WO.storeOwn (k := 5) (i := k) (ds := []) rfl rfl rfl rfl rfl rfl rfl (by omega) rfl rfl sz3 ?_
                        rw [show (((tab m (relaxD (cF cost) rows cols at9 base ord dist k)).map (Value.int .i64)).set k (Value.int .i64 (base + z - rows at9 - cols k))) = ((tab m (relaxD (cF cost) rows cols at9 base ord dist (k + 1))).map (Value.int .i64)) by rw [← List.map_set]; exact congrArg _ (by rw [← hcz]; exact relaxD_yes hcd)]
                        simp only [sx, ty, q1, q2, q5, q6, q7, q8, q9, qa, qb, reduceIte, sy, q3, q4, hw1, hw2, hw3]
                        refine WO.q (ds := []) rfl rfl rfl (QR.idx rfl rfl rfl el27 (by omega) (by omega)) ?_
                        simp only [sx, ty, q1, q2, q5, q6, q7, q8, q9, qa, qb, reduceIte, sy, q3, q4, hw1, hw2, hw3]
                        refine WO.storeOwn (k := 6) (i := k) (ds := []) rfl rfl rfl rfl rfl rfl rfl (by omega) rfl rfl sz3 ?_
                        rw [show (((tab m (relaxP (cF cost) rows cols at9 now base ord dist from_ k)).map (Value.int .i64)).set k (Value.int .i64 now)) = ((tab m (relaxP (cF cost) rows cols at9 now base ord dist from_ (k + 1))).map (Value.int .i64)) by rw [← List.map_set]; exact congrArg _ (relaxP_yes hcd)]
                        simp only [sx, ty, q1, q2, q5, q6, q7, q8, q9, qa, qb, reduceIte, sy, q3, q4, hw1, hw2, hw3]
                        with_reducible refine WO.nil ?_
                        refine hK25 _ ?_
                        refine W.region ?_
                        refine WO.go 2 (ds := []) rfl ?_
                        simp only [sx, ty, q1, q2, q5, q6, q7, q8, q9, qa, qb, reduceIte, sy, q3, q4, hw1, hw2, hw3]
                        with_reducible refine WO.nil ?_
                        refine ⟨k + 1, hlt, by first | omega | (simp only; omega), rfl, by simp [getE, bnd, keepE, wrap_succ (show k + 1 ≤ 9223372036854775807 by omega)], ⟨[], by simp [OIN, OBs]⟩, by simp [Own.bnd, bndL, bnd, OIN, OBs, boxO], by simp⟩
                      · skip
                        have hcd : relaxC (cF cost) rows cols at9 base ord dist k ≠ true := by simpa using hc
                        refine W.skip (hK25 _ ?_)
                        refine W.region ?_
                        refine WO.go 2 (ds := []) rfl ?_
                        simp only [sx, ty, q1, q2, q5, q6, q7, q8, q9, qa, qb, reduceIte, sy, q3, q4, hw1, hw2, hw3]
                        with_reducible refine WO.nil ?_
                        refine ⟨k + 1, hlt, by first | omega | (simp only; omega), rfl, by simp [getE, bnd, keepE, wrap_succ (show k + 1 ≤ 9223372036854775807 by omega)], ⟨[], by simp [OIN, OBs, relaxD_no hcd, relaxP_no hcd]⟩, by simp [Own.bnd, bndL, bnd, OIN, OBs, boxO], by simp⟩
                  · skip
                    have hjm : k = m := Nat.le_antisymm hj (by simp at hc; omega)
                    subst k
                    have hMid := relax_mid hR hr hT
                    obtain ⟨kk, hpk, hnx⟩ := hMid.pick hC hM hR hr
                    obtain ⟨D, hD⟩ : ∃ D, (relaxD (cF cost) rows cols at9 base ord dist m) = D := ⟨_, rfl⟩
                    obtain ⟨Pf, hPf⟩ : ∃ Pf, (relaxP (cF cost) rows cols at9 now base ord dist from_ m) = Pf := ⟨_, rfl⟩
                    have hkk := hnx.lt
                    rw [hD, hPf] at hMid
                    rw [hD] at hpk hnx
                    simp only [hD, hPf]
                    refine W.exit (hK21 _ ?_)
                    refine W.pure (ds := []) rfl fun K29 hK29 => ?_
                    simp only [sx, ty, q1, q2, q5, q6, q7, q8, q9, qa, qb, reduceIte, sy, q3, q4]; with_reducible refine hK29 _ ?_; clear hK29
                    refine W.seqK fun K30 hK30 => ?_
                    refine W.pure (ds := []) rfl fun K31 hK31 => ?_
                    simp only [sx, ty, q1, q2, q5, q6, q7, q8, q9, qa, qb, reduceIte, sy, q3, q4]; with_reducible refine hK31 _ ?_; clear hK31
                    refine W.block ?_
                    refine W.loopK (X := Nat) [0, 2, 3, 4, 5, 6, 7, 8, 10, 31, 32, 103] (fun x => [(12, .val (.int .i64 (pickN ord D x))), (104, .val (.int .i64 x))]) (fun x => x ≤ m) (fun x => m - x) 0 ?_ ?_ ?_
                    · exact ⟨rfl, by simp [getE, bnd, keepE, pickN], ⟨[], by simp⟩, by simp [Own.bnd, bndL, bnd, boxO, OIN, OBs], by simp⟩
                    · skip
                      exact Nat.zero_le _
                    · rintro j hj
                      simp only [sx, ty, q1, q2, q5, q6, q7, q8, q9, qa, qb, reduceIte, sxk, sy, q3, q4]
                      refine W.pure (ds := []) rfl fun K32 hK32 => ?_
                      simp only [sx, ty, q1, q2, q5, q6, q7, q8, q9, qa, qb, reduceIte, sy, q3, q4]; with_reducible refine hK32 _ ?_; clear hK32
                      refine W.seqK fun K33 hK33 => ?_
                      refine W.cond rfl rfl (fun hc => ?_) (fun hc => ?_)
                      · skip
                        have hlt : j < m := by simp at hc; omega
                        refine W.skip (hK33 _ ?_)
                        refine W.seqK fun K34 hK34 => ?_
                        refine W.block ?_
                        refine W.pure (ds := []) rfl fun K35 hK35 => ?_
                        simp only [sx, ty, q1, q2, q5, q6, q7, q8, q9, qa, qb, reduceIte, sy, q3, q4]; with_reducible refine hK35 _ ?_; clear hK35
                        refine W.join 126 (.val (.bool (!decide (j ∈ ord) && (decide (pickN ord D j < 0) || decide (D j < D (pickN ord D j).toNat))))) [0, 2, 3, 4, 5, 6, 7, 8, 10, 12, 17, 31, 32, 103, 104] (W.regionQ mixed (by kernel_rfl) ?_) ?_
                        · skip
                          refine WQ.go 2 (ds := [some 107, some 108, some 109, some 110, some 111, some 112, some 113, some 114, some 115, some 116, some 117, some 118, some 119, some 120, some 121, some 122, some 123, some 124, some 125, some 126]) rfl ?_
                          simp only [sx, ty, q1, q2, q5, q6, q7, q8, q9, qa, qb, reduceIte, sxq, sy, q3, q4]
                          refine WQ.q (ds := [some 107, some 108, some 109, some 110, some 111, some 112, some 113, some 114, some 115, some 116, some 117, some 118, some 119, some 120, some 121, some 122, some 123, some 124, some 125, some 126]) rfl rfl rfl (QR.idx rfl rfl rfl el71 (by omega) (by omega)) ?_
                          refine WQ.q (ds := [some 107, some 108, some 109, some 110, some 111, some 112, some 113, some 114, some 115, some 116, some 117, some 118, some 119, some 120, some 121, some 122, some 123, some 124, some 125, some 126]) rfl rfl rfl (QR.load [Value.bool (decide (j ∈ ord))] false rfl rfl agg4 sz4 (.inr rfl) (fun ρ w1 hb => own_elem_at (k := 7) (i := j) hb rfl (map_get (Value.bool) (tabB_getE hlt rfl)))) ?_
                          simp only [List.drop_succ_cons, List.drop_zero, List.take_succ_cons, List.take_zero, ofCells, Bool.false_eq_true, if_false, List.headD_cons]
                          refine WQ.go 2 (ds := [some 107, some 108, some 109, some 110, some 111, some 112, some 113, some 114, some 115, some 116, some 117, some 118, some 119, some 120, some 121, some 122, some 123, some 124, some 125, some 126]) rfl ?_
                          simp only [sx, ty, q1, q2, q5, q6, q7, q8, q9, qa, qb, reduceIte, sxq, sy, q3, q4]
                          refine WQ.cases 112 _ rfl (fun hg112 => ?_) (fun hg112 => ?_)
                          · skip
                            have a1 : j ∉ ord := by simpa using hg112
                            refine WQ.go 3 (ds := [some 107, some 108, some 109, some 110, some 111, some 112, some 113, some 114, some 115, some 116, some 117, some 118, some 119, some 120, some 121, some 122, some 123, some 124, some 125, some 126]) rfl ?_
                            simp only [sx, ty, q1, q2, q5, q6, q7, q8, q9, qa, qb, reduceIte, sxq, sy, q3, q4]
                            refine WQ.cases 115 _ rfl (fun hg115 => ?_) (fun hg115 => ?_)
                            · skip
                              have a2 : pickN ord D j < 0 := by simpa using hg115
                              refine WQ.go 11 (ds := [some 107, some 108, some 109, some 110, some 111, some 112, some 113, some 114, some 115, some 116, some 117, some 118, some 119, some 120, some 121, some 122, some 123, some 124, some 125, some 126]) rfl ?_
                              simp only [sx, ty, q1, q2, q5, q6, q7, q8, q9, qa, qb, reduceIte, sxq, sy, q3, q4]
                              with_reducible refine WQ.nil ?_
                              refine ⟨rfl, ?_, ⟨_, rfl⟩, by simp [Own.bnd, bndL, bnd, boxO, OIN, OBs], by simp⟩
                              try simp [getE, bnd, keepE, a1, a2]
                              try simp [getE, bnd, keepE, a1, a2, g1]
                              try simp [getE, bnd, keepE, a1]
                              try omega
                            · skip
                              have a2 : ¬ pickN ord D j < 0 := by simpa using hg115
                              obtain ⟨k1, g1, g2⟩ : ∃ k1 : Nat, pickN ord D j = (k1 : Int) ∧ k1 < j := by
                                rcases pickN_spec (ord := ord) (dist := D) j with ⟨h, _⟩ | ⟨k1, h1, h2, _⟩
                                · omega
                                · exact ⟨k1, h1, h2⟩
                              simp only [g1]
                              refine WQ.go 2 (ds := [some 107, some 108, some 109, some 110, some 111, some 112, some 113, some 114, some 115, some 116, some 117, some 118, some 119, some 120, some 121, some 122, some 123, some 124, some 125, some 126]) rfl ?_
                              simp only [sx, ty, q1, q2, q5, q6, q7, q8, q9, qa, qb, reduceIte, sxq, sy, q3, q4]
                              refine WQ.q (ds := [some 107, some 108, some 109, some 110, some 111, some 112, some 113, some 114, some 115, some 116, some 117, some 118, some 119, some 120, some 121, some 122, some 123, some 124, some 125, some 126]) rfl rfl rfl (QR.idx rfl rfl rfl el27 (by omega) (by omega)) ?_
                              refine WQ.q (ds := [some 107, some 108, some 109, some 110, some 111, some 112, some 113, some 114, some 115, some 116, some 117, some 118, some 119, some 120, some 121, some 122, some 123, some 124, some 125, some 126]) rfl rfl rfl (QR.load [Value.int .i64 (D j)] false rfl rfl agg3 sz3 (.inr rfl) (fun ρ w1 hb => own_elem_at (k := 5) (i := j) hb rfl (map_get (Value.int .i64) (tab_getE hlt rfl)))) ?_
                              simp only [List.drop_succ_cons, List.drop_zero, List.take_succ_cons, List.take_zero, ofCells, Bool.false_eq_true, if_false, List.headD_cons]
                              refine WQ.go 2 (ds := [some 107, some 108, some 109, some 110, some 111, some 112, some 113, some 114, some 115, some 116, some 117, some 118, some 119, some 120, some 121, some 122, some 123, some 124, some 125, some 126]) rfl ?_
                              simp only [sx, ty, q1, q2, q5, q6, q7, q8, q9, qa, qb, reduceIte, sxq, sy, q3, q4]
                              refine WQ.q (ds := [some 107, some 108, some 109, some 110, some 111, some 112, some 113, some 114, some 115, some 116, some 117, some 118, some 119, some 120, some 121, some 122, some 123, some 124, some 125, some 126]) rfl rfl rfl (QR.idx rfl rfl rfl el27 (by omega) (by omega)) ?_
                              refine WQ.q (ds := [some 107, some 108, some 109, some 110, some 111, some 112, some 113, some 114, some 115, some 116, some 117, some 118, some 119, some 120, some 121, some 122, some 123, some 124, some 125, some 126]) rfl rfl rfl (QR.load [Value.int .i64 (D k1)] false rfl rfl agg3 sz3 (.inr rfl) (fun ρ w1 hb => own_elem_at (k := 5) (i := k1) hb rfl (map_get (Value.int .i64) (tab_getE (by omega) rfl)))) ?_
                              simp only [List.drop_succ_cons, List.drop_zero, List.take_succ_cons, List.take_zero, ofCells, Bool.false_eq_true, if_false, List.headD_cons]
                              refine WQ.go 3 (ds := [some 107, some 108, some 109, some 110, some 111, some 112, some 113, some 114, some 115, some 116, some 117, some 118, some 119, some 120, some 121, some 122, some 123, some 124, some 125, some 126]) rfl ?_
                              simp only [sx, ty, q1, q2, q5, q6, q7, q8, q9, qa, qb, reduceIte, sxq, sy, q3, q4]
                              with_reducible refine WQ.nil ?_
                              refine ⟨rfl, ?_, ⟨_, rfl⟩, by simp [Own.bnd, bndL, bnd, boxO, OIN, OBs], by simp⟩
                              try simp [getE, bnd, keepE, a1, a2]
                              try simp [getE, bnd, keepE, a1, a2, g1]
                              try simp [getE, bnd, keepE, a1]
                              try omega
                          · skip
                            have a1 : j ∈ ord := by simpa using hg112
                            refine WQ.go 14 (ds := [some 107, some 108, some 109, some 110, some 111, some 112, some 113, some 114, some 115, some 116, some 117, some 118, some 119, some 120, some 121, some 122, some 123, some 124, some 125, some 126]) rfl ?_
                            simp only [sx, ty, q1, q2, q5, q6, q7, q8, q9, qa, qb, reduceIte, sxq, sy, q3, q4]
                            with_reducible refine WQ.nil ?_
                            refine ⟨rfl, ?_, ⟨_, rfl⟩, by simp [Own.bnd, bndL, bnd, boxO, OIN, OBs], by simp⟩
                            try simp [getE, bnd, keepE, a1, a2]
                            try simp [getE, bnd, keepE, a1, a2, g1]
                            try simp [getE, bnd, keepE, a1]
                            try omega
                        · simp only [sx, ty, q1, q2, q5, q6, q7, q8, q9, qa, qb, reduceIte, sxk, sy, q3, q4]
                          refine W.cond rfl rfl (fun hc => ?_) (fun hc => ?_)
                          · skip
                            have e1 : pickN ord D (j + 1) = (j : Int) := by rw [pickN, if_pos (by simpa using hc)]
                            refine W.region ?_
                            refine WO.go 2 (ds := []) rfl ?_
                            simp only [sx, ty, q1, q2, q5, q6, q7, q8, q9, qa, qb, reduceIte, sy, q3, q4]
                            with_reducible refine WO.nil ?_
                            refine hK34 _ ?_
                            refine W.region ?_
                            refine WO.go 2 (ds := []) rfl ?_
                            simp only [sx, ty, q1, q2, q5, q6, q7, q8, q9, qa, qb, reduceIte, sy, q3, q4]
                            with_reducible refine WO.nil ?_
                            refine ⟨j + 1, hlt, by first | omega | (simp only; omega), rfl, by simp [getE, bnd, keepE, e1, wrap_succ (show j + 1 ≤ 9223372036854775807 by omega)], ⟨[], by simp [OIN, OBs]⟩, by simp [Own.bnd, bndL, bnd, OIN, OBs, boxO], by simp⟩
                          · skip
                            have e1 : pickN ord D (j + 1) = pickN ord D j := by rw [pickN, if_neg (by simpa using hc)]
                            refine W.skip (hK34 _ ?_)
                            refine W.region ?_
                            refine WO.go 2 (ds := []) rfl ?_
                            simp only [sx, ty, q1, q2, q5, q6, q7, q8, q9, qa, qb, reduceIte, sy, q3, q4]
                            with_reducible refine WO.nil ?_
                            refine ⟨j + 1, hlt, by first | omega | (simp only; omega), rfl, by simp [getE, bnd, keepE, e1, wrap_succ (show j + 1 ≤ 9223372036854775807 by omega)], ⟨[], by simp [OIN, OBs]⟩, by simp [Own.bnd, bndL, bnd, OIN, OBs, boxO], by simp⟩
                      · skip
                        have hjm : j = m := Nat.le_antisymm hj (by simp at hc; omega)
                        subst j
                        simp only [hpk]
                        refine W.exit (hK30 _ ?_)
                        refine W.seqK fun K37 hK37 => W.region ?_
                        refine WO.go 4 (ds := []) rfl ?_
                        simp only [sx, ty, q1, q2, q5, q6, q7, q8, q9, qa, qb, reduceIte, sy, q3, q4]
                        refine WO.q (ds := []) rfl rfl rfl (QR.idx rfl rfl rfl el27 (by omega) (by omega)) ?_
                        refine WO.q (ds := []) rfl rfl rfl (QR.load [Value.int .i64 (D kk)] false rfl rfl agg3 sz3 (.inr rfl) (fun ρ w1 hb => own_elem_at (k := 5) (i := kk) hb rfl (map_get (Value.int .i64) (tab_getE hnx.lt rfl)))) ?_
                        simp only [List.drop_succ_cons, List.drop_zero, List.take_succ_cons, List.take_zero, ofCells, Bool.false_eq_true, if_false, List.headD_cons]
                        simp only [sx, ty, q1, q2, q5, q6, q7, q8, q9, qa, qb, reduceIte, sy, q3, q4]
                        refine WO.q (ds := []) rfl rfl rfl (QR.idx rfl rfl rfl el71 (by omega) (by omega)) ?_
                        simp only [sx, ty, q1, q2, q5, q6, q7, q8, q9, qa, qb, reduceIte, sy, q3, q4]
                        refine WO.storeOwn (k := 7) (i := kk) (ds := []) rfl rfl rfl rfl rfl rfl rfl (by omega) rfl rfl sz4 ?_
                        rw [show (((tabB m fun x9 => decide (x9 ∈ ord)).map (Value.bool)).set kk (Value.bool true)) = ((tabB m fun x9 => decide (x9 ∈ ord ++ [kk])).map (Value.bool)) by rw [← List.map_set]; exact congrArg _ (done_step)]
                        refine WO.go 1 (ds := []) rfl ?_
                        simp only [sx, ty, q1, q2, q5, q6, q7, q8, q9, qa, qb, reduceIte, sy, q3, q4]
                        with_reducible refine WO.nil ?_
                        refine hK37 _ ?_; clear hK37
                        refine W.seqK fun K38 hK38 => ?_
                        refine W.seqK fun K39 hK39 => W.region ?_
                        refine WO.go 2 (ds := []) rfl ?_
                        simp only [sx, ty, q1, q2, q5, q6, q7, q8, q9, qa, qb, reduceIte, sy, q3, q4]
                        refine WO.q (ds := []) rfl rfl rfl (QR.idx rfl rfl rfl el27 (by omega) (by omega)) ?_
                        refine WO.q (ds := []) rfl rfl rfl (QR.load [Value.int .i64 (owner kk)] false rfl rfl agg3 sz3 (.inr rfl) (fun ρ w1 hb => own_elem_at (k := 4) (i := kk) hb rfl (map_get (Value.int .i64) (tab_getE hnx.lt rfl)))) ?_
                        simp only [List.drop_succ_cons, List.drop_zero, List.take_succ_cons, List.take_zero, ofCells, Bool.false_eq_true, if_false, List.headD_cons]
                        refine WO.go 1 (ds := []) rfl ?_
                        simp only [sx, ty, q1, q2, q5, q6, q7, q8, q9, qa, qb, reduceIte, sy, q3, q4]
                        with_reducible refine WO.nil ?_
                        refine hK39 _ ?_; clear hK39
                        refine W.cond rfl rfl (fun hc => ?_) (fun hc => ?_)
                        · skip
                          have h0 : owner kk < 0 := by simpa using hc
                          have hF : Fin1 (cF cost) cost.length m r rows cols owner ord D Pf kk := ⟨hR, hC, hr, hM.le, ⟨base, hMid⟩, hnx, h0⟩
                          obtain ⟨hk0, hk1⟩ := hF.bound
                          have hrr := hrs r hr
                          have hq1 : IntKind.i64.wrap (rows r + D kk) = rows r + D kk := wrap_id (by omega) (by omega)
                          refine W.exit (hK20 _ ?_)
                          refine W.seqK fun K40 hK40 => W.region ?_
                          refine WO.go 3 (ds := []) rfl ?_
                          simp only [sx, ty, q1, q2, q5, q6, q7, q8, q9, qa, qb, reduceIte, sy, q3, q4, hq1]
                          refine WO.q (ds := []) rfl rfl rfl (QR.idx rfl rfl rfl el27 (by omega) (by omega)) ?_
                          refine WO.q (ds := []) rfl rfl rfl (QR.load [Value.int .i64 (rows r)] false rfl rfl agg3 sz3 (.inr rfl) (fun ρ w1 hb => own_elem_at (k := 1) (i := r) hb rfl (map_get (Value.int .i64) (tab_getE hr rfl)))) ?_
                          simp only [List.drop_succ_cons, List.drop_zero, List.take_succ_cons, List.take_zero, ofCells, Bool.false_eq_true, if_false, List.headD_cons]
                          refine WO.go 2 (ds := []) rfl ?_
                          simp only [sx, ty, q1, q2, q5, q6, q7, q8, q9, qa, qb, reduceIte, sy, q3, q4, hq1]
                          refine WO.q (ds := []) rfl rfl rfl (QR.idx rfl rfl rfl el27 (by omega) (by omega)) ?_
                          simp only [sx, ty, q1, q2, q5, q6, q7, q8, q9, qa, qb, reduceIte, sy, q3, q4, hq1]
                          refine WO.storeOwn (k := 1) (i := r) (ds := []) rfl rfl rfl rfl rfl rfl rfl (by omega) rfl rfl sz3 ?_
                          rw [show (((tab cost.length rows).map (Value.int .i64)).set r (Value.int .i64 (rows r + D kk))) = ((tab cost.length (rowsJ rows owner D ord r (D kk) 0)).map (Value.int .i64)) by rw [← List.map_set]; exact congrArg _ (tab_set (updI_at _ _ _) fun x _ hx => updI_ne hx)]
                          simp only [sx, ty, q1, q2, q5, q6, q7, q8, q9, qa, qb, reduceIte, sy, q3, q4, hq1]
                          with_reducible refine WO.nil ?_
                          refine hK40 _ ?_; clear hK40
                          refine W.seqK fun K41 hK41 => ?_
                          refine W.pure (ds := []) rfl fun K42 hK42 => ?_
                          simp only [sx, ty, q1, q2, q5, q6, q7, q8, q9, qa, qb, reduceIte, sy, q3, q4, hq1]; with_reducible refine hK42 _ ?_; clear hK42
                          refine W.block ?_
                          refine W.loopO (X := Nat) [0, 2, 3, 4, 5, 6, 7, 8, 10, 12, 13, 31, 32, 154] (fun x => [(155, .val (.int .i64 x))]) (fun x => [.cells 69 [.val (.slice none 0 0), .val (.slice none 0 0)], OIN cost.length (tab cost.length (rowsJ rows owner D ord r (D kk) x)) (some ⟨bA, 0, none⟩, cost.length), OIN m (tab m (colsJ cols D ord (D kk) x)) (some ⟨bB, 0, none⟩, m), .cells 69 [.val (.slice (some ⟨bA, 0, none⟩) cost.length cost.length), .val (.slice (some ⟨bB, 0, none⟩) m m)], OIN m (tab m owner) (some ⟨bo, 0, none⟩, m), OIN m (tab m D) (some ⟨bd, 0, none⟩, m), OIN m (tab m Pf) (some ⟨bf, 0, none⟩, m), OBs m (tabB m fun x9 => decide (x9 ∈ (ord ++ [kk]))) (some ⟨bn, 0, none⟩, m)]) (fun x => [((fun _ => True), w)]) (fun x => x ≤ m) (fun x => m - x) 0 ?_ ?_ ?_
                          · exact ⟨rfl, by simp [getE, bnd, keepE], ⟨[], by simp [colsJ_zero, OIN, OBs]⟩, by simp [Own.bnd, bndL, bnd, boxO, OIN, OBs], by simp⟩
                          · skip
                            exact Nat.zero_le _
                          · rintro j hj
                            simp only [sx, ty, q1, q2, q5, q6, q7, q8, q9, qa, qb, reduceIte, sxk, sy, q3, q4, hq1]
                            refine W.pure (ds := []) rfl fun K43 hK43 => ?_
                            simp only [sx, ty, q1, q2, q5, q6, q7, q8, q9, qa, qb, reduceIte, sy, q3, q4, hq1]; with_reducible refine hK43 _ ?_; clear hK43
                            refine W.seqK fun K44 hK44 => ?_
                            refine W.cond rfl rfl (fun hc => ?_) (fun hc => ?_)
                            · skip
                              have hlt : j < m := by simp at hc; omega
                              refine W.skip (hK44 _ ?_)
                              refine W.seqK fun K45 hK45 => ?_
                              refine W.block ?_
                              refine W.pure (ds := []) rfl fun K46 hK46 => ?_
                              simp only [sx, ty, q1, q2, q5, q6, q7, q8, q9, qa, qb, reduceIte, sy, q3, q4, hq1]; with_reducible refine hK46 _ ?_; clear hK46
                              refine W.join 166 (.val (.bool (decide (j ∈ ord)))) [0, 2, 3, 4, 5, 6, 7, 8, 10, 12, 13, 18, 31, 32, 154, 155] (W.region ?_) ?_
                              · skip
                                refine WO.go 2 (ds := [some 158, some 159, some 160, some 161, some 162, some 163, some 164, some 165, some 166]) rfl ?_
                                simp only [sx, ty, q1, q2, q5, q6, q7, q8, q9, qa, qb, reduceIte, sy, q3, q4, hq1]
                                refine WO.q (ds := [some 158, some 159, some 160, some 161, some 162, some 163, some 164, some 165, some 166]) rfl rfl rfl (QR.idx rfl rfl rfl el71 (by omega) (by omega)) ?_
                                refine WO.q (ds := [some 158, some 159, some 160, some 161, some 162, some 163, some 164, some 165, some 166]) rfl rfl rfl (QR.load [Value.bool (decide (j ∈ ord ++ [kk]))] false rfl rfl agg4 sz4 (.inr rfl) (fun ρ w1 hb => own_elem_at (k := 7) (i := j) hb rfl (map_get (Value.bool) (tabB_getE hlt rfl)))) ?_
                                simp only [List.drop_succ_cons, List.drop_zero, List.take_succ_cons, List.take_zero, ofCells, Bool.false_eq_true, if_false, List.headD_cons]
                                refine WO.go 1 (ds := [some 158, some 159, some 160, some 161, some 162, some 163, some 164, some 165, some 166]) rfl ?_
                                simp only [sx, ty, q1, q2, q5, q6, q7, q8, q9, qa, qb, reduceIte, sy, q3, q4, hq1]
                                refine WO.cases 162 _ rfl (fun hg162 => ?_) (fun hg162 => ?_)
                                · skip
                                  refine WO.go 4 (ds := [some 158, some 159, some 160, some 161, some 162, some 163, some 164, some 165, some 166]) rfl ?_
                                  simp only [sx, ty, q1, q2, q5, q6, q7, q8, q9, qa, qb, reduceIte, sy, q3, q4, hq1]
                                  with_reducible refine WO.nil ?_
                                  refine ⟨rfl, ?_, ⟨_, rfl⟩, by simp [Own.bnd, bndL, bnd, boxO, OIN, OBs], by simp⟩
                                  have e9 := done_ne (j := j) hnx.un
                                  rw [hg162] at e9
                                  simp only [Bool.true_and, Bool.false_and] at e9
                                  simp [getE, bnd, keepE, ← e9, bne]
                                · skip
                                  refine WO.go 4 (ds := [some 158, some 159, some 160, some 161, some 162, some 163, some 164, some 165, some 166]) rfl ?_
                                  simp only [sx, ty, q1, q2, q5, q6, q7, q8, q9, qa, qb, reduceIte, sy, q3, q4, hq1]
                                  with_reducible refine WO.nil ?_
                                  refine ⟨rfl, ?_, ⟨_, rfl⟩, by simp [Own.bnd, bndL, bnd, boxO, OIN, OBs], by simp⟩
                                  have e9 := done_ne (j := j) hnx.un
                                  rw [hg162] at e9
                                  simp only [Bool.true_and, Bool.false_and] at e9
                                  simp [getE, bnd, keepE, ← e9, bne]
                              · simp only [sx, ty, q1, q2, q5, q6, q7, q8, q9, qa, qb, reduceIte, sxk, sy, q3, q4, hq1]
                                refine W.cond rfl rfl (fun hc => ?_) (fun hc => ?_)
                                · skip
                                  have hjo : j ∈ ord := by simpa using hc
                                  obtain ⟨i9, hi9, ho9, _⟩ := hR.own j hlt (hMid.own j hjo)
                                  have hri9 : (rowsJ rows owner D ord r (D kk) j) i9 = rows i9 := by
                                    rw [rowsJ_no hMid.own j fun k1 h1 h2 he => by have := hR.inj k1 j (hMid.lt k1 h2) hlt (hMid.own k1 h2) (by omega); omega, updI_ne (by omega)]
                                  have hrj : (rowsJ rows owner D ord r (D kk) (j + 1)) = updI (rowsJ rows owner D ord r (D kk) j) i9 (rows i9 + (D kk - D j)) := by rw [rowsJ, if_pos hjo, show (owner j).toNat = i9 by omega, hri9]
                                  obtain ⟨_, _, hdj⟩ := hF.near (.inl hjo)
                                  have hdj0 := (hMid.d0 j hlt).1
                                  have hcj := hcs j hlt
                                  have hri := hrs i9 (by omega)
                                  have hv1 : IntKind.i64.wrap (D kk - D j) = D kk - D j := wrap_id (by omega) (by omega)
                                  have hv2 : IntKind.i64.wrap (cols j - (D kk - D j)) = cols j - (D kk - D j) := wrap_id (by omega) (by omega)
                                  have hv3 : IntKind.i64.wrap (rows i9 + (D kk - D j)) = rows i9 + (D kk - D j) := wrap_id (by omega) (by omega)
                                  refine W.seqK fun K48 hK48 => ?_
                                  refine W.regionT' 13 [] [0, 1, 2, 3, 4, 5, 6, 7, 8, 9, 10, 11, 12] mixed (by kernel_rfl) ?_
                                  simp only [sx, ty, q1, q2, q5, q6, q7, q8, q9, qa, qb, reduceIte, sxt, List.toList_toArray, sy, q3, q4, hq1, hv1, hv2]
                                  refine WQ.go 3 (ds := []) rfl ?_
                                  simp only [sx, ty, q1, q2, q5, q6, q7, q8, q9, qa, qb, reduceIte, sxq, sy, q3, q4, hq1, hv1, hv2]
                                  refine WQ.q (ds := []) rfl rfl rfl (QR.idx rfl rfl rfl el27 (by omega) (by omega)) ?_
                                  refine WQ.q (ds := []) rfl rfl rfl (QR.load [Value.int .i64 (cols j)] false rfl rfl agg3 sz3 (.inr rfl) (fun ρ w1 hb => own_elem_at (k := 2) (i := j) hb rfl (map_get (Value.int .i64) (tab_getE hlt colsJ_self)))) ?_
                                  simp only [List.drop_succ_cons, List.drop_zero, List.take_succ_cons, List.take_zero, ofCells, Bool.false_eq_true, if_false, List.headD_cons]
                                  refine WQ.go 3 (ds := []) rfl ?_
                                  simp only [sx, ty, q1, q2, q5, q6, q7, q8, q9, qa, qb, reduceIte, sxq, sy, q3, q4, hq1, hv1, hv2]
                                  refine WQ.q (ds := []) rfl rfl rfl (QR.idx rfl rfl rfl el27 (by omega) (by omega)) ?_
                                  refine WQ.q (ds := []) rfl rfl rfl (QR.load [Value.int .i64 (D j)] false rfl rfl agg3 sz3 (.inr rfl) (fun ρ w1 hb => own_elem_at (k := 5) (i := j) hb rfl (map_get (Value.int .i64) (tab_getE hlt rfl)))) ?_
                                  simp only [List.drop_succ_cons, List.drop_zero, List.take_succ_cons, List.take_zero, ofCells, Bool.false_eq_true, if_false, List.headD_cons]
                                  refine WQ.go 2 (ds := []) rfl ?_
                                  simp only [sx, ty, q1, q2, q5, q6, q7, q8, q9, qa, qb, reduceIte, sxq, sy, q3, q4, hq1, hv1, hv2]
                                  refine WQ.q (ds := []) rfl rfl rfl (QR.idx rfl rfl rfl el27 (by omega) (by omega)) ?_
                                  simp only [sx, ty, q1, q2, q5, q6, q7, q8, q9, qa, qb, reduceIte, sy, q3, q4, hq1, hv1, hv2]
                                  with_reducible refine WQ.nil ?_
                                  refine WO.storeOwn (k := 2) (i := j) (ds := []) rfl rfl rfl rfl rfl rfl rfl (by omega) rfl rfl sz3 ?_
                                  rw [show (((tab m (colsJ cols D ord (D kk) j)).map (Value.int .i64)).set j (Value.int .i64 (cols j - (D kk - D j)))) = ((tab m (colsJ cols D ord (D kk) (j + 1))).map (Value.int .i64)) by rw [← List.map_set]; exact congrArg _ (colsJ_yes hjo)]
                                  simp only [sx, ty, q1, q2, q5, q6, q7, q8, q9, qa, qb, reduceIte, sy, q3, q4, hq1, hv1, hv2]
                                  with_reducible refine WO.nil ?_
                                  refine hK48 _ ?_; clear hK48
                                  refine W.regionT' 16 [] [0, 1, 2, 3, 4, 5, 6, 7, 8, 9, 10, 11, 12, 13, 14, 15] mixed (by kernel_rfl) ?_
                                  simp only [sx, ty, q1, q2, q5, q6, q7, q8, q9, qa, qb, reduceIte, sxt, List.toList_toArray, sy, q3, q4, hq1, hv1, hv2, hv1, hv3]
                                  refine WQ.go 4 (ds := []) rfl ?_
                                  simp only [sx, ty, q1, q2, q5, q6, q7, q8, q9, qa, qb, reduceIte, sxq, sy, q3, q4, hq1, hv1, hv2, hv1, hv3]
                                  refine WQ.q (ds := []) rfl rfl rfl (QR.idx rfl rfl rfl el27 (by omega) (by omega)) ?_
                                  refine WQ.q (ds := []) rfl rfl rfl (QR.load [Value.int .i64 (i9 : Int)] false rfl rfl agg3 sz3 (.inr rfl) (fun ρ w1 hb => own_elem_at (k := 4) (i := j) hb rfl (map_get (Value.int .i64) (tab_getE hlt ho9)))) ?_
                                  simp only [List.drop_succ_cons, List.drop_zero, List.take_succ_cons, List.take_zero, ofCells, Bool.false_eq_true, if_false, List.headD_cons]
                                  simp only [sx, ty, q1, q2, q5, q6, q7, q8, q9, qa, qb, reduceIte, sy, q3, q4, hq1, hv1, hv2, hv1, hv3]
                                  refine WQ.q (ds := []) rfl rfl rfl (QR.idx rfl rfl rfl el27 (by omega) (by omega)) ?_
                                  refine WQ.q (ds := []) rfl rfl rfl (QR.load [Value.int .i64 (rows i9)] false rfl rfl agg3 sz3 (.inr rfl) (fun ρ w1 hb => own_elem_at (k := 1) (i := i9) hb rfl (map_get (Value.int .i64) (tab_getE (by omega) hri9)))) ?_
                                  simp only [List.drop_succ_cons, List.drop_zero, List.take_succ_cons, List.take_zero, ofCells, Bool.false_eq_true, if_false, List.headD_cons]
                                  refine WQ.go 3 (ds := []) rfl ?_
                                  simp only [sx, ty, q1, q2, q5, q6, q7, q8, q9, qa, qb, reduceIte, sxq, sy, q3, q4, hq1, hv1, hv2, hv1, hv3]
                                  refine WQ.q (ds := []) rfl rfl rfl (QR.idx rfl rfl rfl el27 (by omega) (by omega)) ?_
                                  refine WQ.q (ds := []) rfl rfl rfl (QR.load [Value.int .i64 (D j)] false rfl rfl agg3 sz3 (.inr rfl) (fun ρ w1 hb => own_elem_at (k := 5) (i := j) hb rfl (map_get (Value.int .i64) (tab_getE hlt rfl)))) ?_
                                  simp only [List.drop_succ_cons, List.drop_zero, List.take_succ_cons, List.take_zero, ofCells, Bool.false_eq_true, if_false, List.headD_cons]
                                  refine WQ.go 2 (ds := []) rfl ?_
                                  simp only [sx, ty, q1, q2, q5, q6, q7, q8, q9, qa, qb, reduceIte, sxq, sy, q3, q4, hq1, hv1, hv2, hv1, hv3]
                                  refine WQ.q (ds := []) rfl rfl rfl (QR.idx rfl rfl rfl el27 (by omega) (by omega)) ?_
                                  simp only [sx, ty, q1, q2, q5, q6, q7, q8, q9, qa, qb, reduceIte, sy, q3, q4, hq1, hv1, hv2, hv1, hv3]
                                  with_reducible refine WQ.nil ?_
                                  refine WO.storeOwn (k := 1) (i := i9) (ds := []) rfl rfl rfl rfl rfl rfl rfl (by omega) rfl rfl sz3 ?_
                                  rw [show (((tab cost.length (rowsJ rows owner D ord r (D kk) j)).map (Value.int .i64)).set i9 (Value.int .i64 (rows i9 + (D kk - D j)))) = ((tab cost.length (rowsJ rows owner D ord r (D kk) (j + 1))).map (Value.int .i64)) by rw [← List.map_set]; exact congrArg _ (tab_set (by rw [hrj, updI_at]) fun x _ hx => by rw [hrj, updI_ne hx])]
                                  simp only [sx, ty, q1, q2, q5, q6, q7, q8, q9, qa, qb, reduceIte, sy, q3, q4, hq1, hv1, hv2, hv1, hv3]
                                  with_reducible refine WO.nil ?_
                                  refine hK45 _ ?_
                                  refine W.region ?_
                                  refine WO.go 2 (ds := []) rfl ?_
                                  simp only [sx, ty, q1, q2, q5, q6, q7, q8, q9, qa, qb, reduceIte, sy, q3, q4, hq1, hv1, hv2, hv1, hv3]
                                  with_reducible refine WO.nil ?_
                                  refine ⟨j + 1, hlt, by first | omega | (simp only; omega), rfl, by simp [getE, bnd, keepE, wrap_succ (show j + 1 ≤ 9223372036854775807 by omega)], ⟨[], by simp [OIN, OBs]⟩, by simp [Own.bnd, bndL, bnd, OIN, OBs, boxO], by simp⟩
                                · skip
                                  have hjo : j ∉ ord := by simpa using hc
                                  have hrj : (rowsJ rows owner D ord r (D kk) (j + 1)) = (rowsJ rows owner D ord r (D kk) j) := by rw [rowsJ, if_neg hjo]
                                  refine W.skip (hK45 _ ?_)
                                  refine W.region ?_
                                  refine WO.go 2 (ds := []) rfl ?_
                                  simp only [sx, ty, q1, q2, q5, q6, q7, q8, q9, qa, qb, reduceIte, sy, q3, q4, hq1]
                                  with_reducible refine WO.nil ?_
                                  refine ⟨j + 1, hlt, by first | omega | (simp only; omega), rfl, by simp [getE, bnd, keepE, wrap_succ (show j + 1 ≤ 9223372036854775807 by omega)], ⟨[], by simp [OIN, OBs, colsJ_no hjo, hrj]⟩, by simp [Own.bnd, bndL, bnd, OIN, OBs, boxO], by simp⟩
                            · skip
                              have hjm : j = m := Nat.le_antisymm hj (by simp at hc; omega)
                              subst j
                              refine W.exit (hK41 _ ?_)
                              refine W.pure (ds := []) rfl fun K49 hK49 => ?_
                              simp only [sx, ty, q1, q2, q5, q6, q7, q8, q9, qa, qb, reduceIte, sy, q3, q4, hq1]; with_reducible refine hK49 _ ?_; clear hK49
                              refine W.block ?_
                              refine W.loopO (X := Int × (Nat → Int)) [0, 2, 3, 4, 5, 6, 8, 31, 32] (fun x => [(19, .val (.int .i64 x.1))]) (fun x => [.cells 69 [.val (.slice none 0 0), .val (.slice none 0 0)], OIN cost.length (tab cost.length (rowsJ rows owner D ord r (D kk) m)) (some ⟨bA, 0, none⟩, cost.length), OIN m (tab m (colsJ cols D ord (D kk) m)) (some ⟨bB, 0, none⟩, m), .cells 69 [.val (.slice (some ⟨bA, 0, none⟩) cost.length cost.length), .val (.slice (some ⟨bB, 0, none⟩) m m)], OIN m (tab m x.2) (some ⟨bo, 0, none⟩, m), OIN m (tab m D) (some ⟨bd, 0, none⟩, m), OIN m (tab m Pf) (some ⟨bf, 0, none⟩, m), OBs m (tabB m fun x9 => decide (x9 ∈ (ord ++ [kk]))) (some ⟨bn, 0, none⟩, m)]) (fun x => [((fun _ => True), w)]) (fun x => AInv (cF cost) cost.length m r rows cols owner ord kk (rowsJ rows owner D ord r (D kk) m) (colsJ cols D ord (D kk) m) x.1 x.2) (fun x => if x.1 < 0 then 0 else ord.idxOf x.1.toNat + 1) ((kk : Int), owner) ?_ ?_ ?_
                              · exact ⟨rfl, by simp [getE, bnd, keepE], ⟨[], by simp⟩, by simp [Own.bnd, bndL, bnd, boxO, OIN, OBs], by simp⟩
                              · skip
                                exact hF.start
                              · rintro ⟨kx, o⟩ hA
                                simp only at hA
                                simp only [sx, ty, q1, q2, q5, q6, q7, q8, q9, qa, qb, reduceIte, sxk, sy, q3, q4, hq1]
                                refine W.seqK fun K50 hK50 => ?_
                                refine W.pure (ds := []) rfl fun K51 hK51 => ?_
                                simp only [sx, ty, q1, q2, q5, q6, q7, q8, q9, qa, qb, reduceIte, sy, q3, q4, hq1]; with_reducible refine hK51 _ ?_; clear hK51
                                refine W.cond rfl rfl (fun hc => ?_) (fun hc => ?_)
                                · skip
                                  have hkx : 0 ≤ kx := by simpa using hc
                                  obtain ⟨k5, rfl⟩ := Int.eq_ofNat_of_zero_le hkx
                                  have hk5 := (hA.kin (by omega)).1
                                  simp only [Int.toNat_natCast] at hk5
                                  obtain ⟨hst, hA2⟩ := AInv.step hF hA
                                  refine W.skip (hK50 _ ?_)
                                  refine W.seqK fun K52 hK52 => ?_
                                  refine W.block ?_
                                  refine W.seqK fun K53 hK53 => W.region ?_
                                  refine WO.go 2 (ds := []) rfl ?_
                                  simp only [sx, ty, q1, q2, q5, q6, q7, q8, q9, qa, qb, reduceIte, sy, q3, q4, hq1]
                                  refine WO.q (ds := []) rfl rfl rfl (QR.idx rfl rfl rfl el27 (by omega) (by omega)) ?_
                                  refine WO.q (ds := []) rfl rfl rfl (QR.load [Value.int .i64 (Pf k5)] false rfl rfl agg3 sz3 (.inr rfl) (fun ρ w1 hb => own_elem_at (k := 6) (i := k5) hb rfl (map_get (Value.int .i64) (tab_getE hk5 rfl)))) ?_
                                  simp only [List.drop_succ_cons, List.drop_zero, List.take_succ_cons, List.take_zero, ofCells, Bool.false_eq_true, if_false, List.headD_cons]
                                  refine WO.go 1 (ds := []) rfl ?_
                                  simp only [sx, ty, q1, q2, q5, q6, q7, q8, q9, qa, qb, reduceIte, sy, q3, q4, hq1]
                                  with_reducible refine WO.nil ?_
                                  refine hK53 _ ?_; clear hK53
                                  refine W.cond rfl rfl (fun hc => ?_) (fun hc => ?_)
                                  · skip
                                    have h5 : Pf k5 < 0 := by simpa using hc
                                    refine W.region ?_
                                    refine WO.go 3 (ds := []) rfl ?_
                                    simp only [sx, ty, q1, q2, q5, q6, q7, q8, q9, qa, qb, reduceIte, sy, q3, q4, hq1]
                                    refine WO.q (ds := []) rfl rfl rfl (QR.idx rfl rfl rfl el27 (by omega) (by omega)) ?_
                                    simp only [sx, ty, q1, q2, q5, q6, q7, q8, q9, qa, qb, reduceIte, sy, q3, q4, hq1]
                                    refine WO.storeOwn (k := 4) (i := k5) (ds := []) rfl rfl rfl rfl rfl rfl rfl (by omega) rfl rfl sz3 ?_
                                    rw [show (((tab m o).map (Value.int .i64)).set k5 (Value.int .i64 (r : Int))) = ((tab m (updI o k5 (handR Pf o r k5))).map (Value.int .i64)) by rw [← List.map_set]; exact congrArg _ (tab_set (by rw [updI_at, handR, if_pos h5]) fun x _ hx => updI_ne hx)]
                                    simp only [sx, ty, q1, q2, q5, q6, q7, q8, q9, qa, qb, reduceIte, sy, q3, q4, hq1]
                                    with_reducible refine WO.nil ?_
                                    refine hK52 _ ?_
                                    refine W.region ?_
                                    refine WO.go 2 (ds := []) rfl ?_
                                    simp only [sx, ty, q1, q2, q5, q6, q7, q8, q9, qa, qb, reduceIte, sy, q3, q4, hq1]
                                    refine WO.q (ds := []) rfl rfl rfl (QR.idx rfl rfl rfl el27 (by omega) (by omega)) ?_
                                    refine WO.q (ds := []) rfl rfl rfl (QR.load [Value.int .i64 (Pf k5)] false rfl rfl agg3 sz3 (.inr rfl) (fun ρ w1 hb => own_elem_at (k := 6) (i := k5) hb rfl (map_get (Value.int .i64) (tab_getE hk5 rfl)))) ?_
                                    simp only [List.drop_succ_cons, List.drop_zero, List.take_succ_cons, List.take_zero, ofCells, Bool.false_eq_true, if_false, List.headD_cons]
                                    refine WO.go 1 (ds := []) rfl ?_
                                    simp only [sx, ty, q1, q2, q5, q6, q7, q8, q9, qa, qb, reduceIte, sy, q3, q4, hq1]
                                    with_reducible refine WO.nil ?_
                                    refine ⟨(Pf k5, updI o k5 (handR Pf o r k5)), hA2, ?_, rfl, by simp [getE, bnd, keepE], ⟨[], by simp [OIN]⟩, by simp [Own.bnd, bndL, bnd, OIN, OBs, boxO], by simp⟩
                                    simp only; rw [if_pos h5, if_neg (by omega)]; omega
                                  · skip
                                    have h5 : ¬ Pf k5 < 0 := by simpa using hc
                                    obtain ⟨k6, i6, hpf, hk6, ho6, hix⟩ := hst.resolve_left h5
                                    rw [hpf] at hA2
                                    refine W.region ?_
                                    refine WO.go 5 (ds := []) rfl ?_
                                    simp only [sx, ty, q1, q2, q5, q6, q7, q8, q9, qa, qb, reduceIte, sy, q3, q4, hq1]
                                    refine WO.q (ds := []) rfl rfl rfl (QR.idx rfl rfl rfl el27 (by omega) (by omega)) ?_
                                    refine WO.q (ds := []) rfl rfl rfl (QR.load [Value.int .i64 (k6 : Int)] false rfl rfl agg3 sz3 (.inr rfl) (fun ρ w1 hb => own_elem_at (k := 6) (i := k5) hb rfl (map_get (Value.int .i64) (tab_getE hk5 hpf)))) ?_
                                    simp only [List.drop_succ_cons, List.drop_zero, List.take_succ_cons, List.take_zero, ofCells, Bool.false_eq_true, if_false, List.headD_cons]
                                    simp only [sx, ty, q1, q2, q5, q6, q7, q8, q9, qa, qb, reduceIte, sy, q3, q4, hq1]
                                    refine WO.q (ds := []) rfl rfl rfl (QR.idx rfl rfl rfl el27 (by omega) (by omega)) ?_
                                    refine WO.q (ds := []) rfl rfl rfl (QR.load [Value.int .i64 (i6 : Int)] false rfl rfl agg3 sz3 (.inr rfl) (fun ρ w1 hb => own_elem_at (k := 4) (i := k6) hb rfl (map_get (Value.int .i64) (tab_getE hk6 ho6)))) ?_
                                    simp only [List.drop_succ_cons, List.drop_zero, List.take_succ_cons, List.take_zero, ofCells, Bool.false_eq_true, if_false, List.headD_cons]
                                    simp only [sx, ty, q1, q2, q5, q6, q7, q8, q9, qa, qb, reduceIte, sy, q3, q4, hq1]
                                    refine WO.q (ds := []) rfl rfl rfl (QR.idx rfl rfl rfl el27 (by omega) (by omega)) ?_
                                    simp only [sx, ty, q1, q2, q5, q6, q7, q8, q9, qa, qb, reduceIte, sy, q3, q4, hq1]
                                    refine WO.storeOwn (k := 4) (i := k5) (ds := []) rfl rfl rfl rfl rfl rfl rfl (by omega) rfl rfl sz3 ?_
                                    rw [show (((tab m o).map (Value.int .i64)).set k5 (Value.int .i64 (i6 : Int))) = ((tab m (updI o k5 (handR Pf o r k5))).map (Value.int .i64)) by rw [← List.map_set]; exact congrArg _ (tab_set (by rw [updI_at, handR, if_neg h5, hpf, Int.toNat_natCast, ho6]) fun x _ hx => updI_ne hx)]
                                    simp only [sx, ty, q1, q2, q5, q6, q7, q8, q9, qa, qb, reduceIte, sy, q3, q4, hq1]
                                    with_reducible refine WO.nil ?_
                                    refine hK52 _ ?_
                                    refine W.region ?_
                                    refine WO.go 2 (ds := []) rfl ?_
                                    simp only [sx, ty, q1, q2, q5, q6, q7, q8, q9, qa, qb, reduceIte, sy, q3, q4, hq1]
                                    refine WO.q (ds := []) rfl rfl rfl (QR.idx rfl rfl rfl el27 (by omega) (by omega)) ?_
                                    refine WO.q (ds := []) rfl rfl rfl (QR.load [Value.int .i64 (k6 : Int)] false rfl rfl agg3 sz3 (.inr rfl) (fun ρ w1 hb => own_elem_at (k := 6) (i := k5) hb rfl (map_get (Value.int .i64) (tab_getE hk5 hpf)))) ?_
                                    simp only [List.drop_succ_cons, List.drop_zero, List.take_succ_cons, List.take_zero, ofCells, Bool.false_eq_true, if_false, List.headD_cons]
                                    refine WO.go 1 (ds := []) rfl ?_
                                    simp only [sx, ty, q1, q2, q5, q6, q7, q8, q9, qa, qb, reduceIte, sy, q3, q4, hq1]
                                    with_reducible refine WO.nil ?_
                                    refine ⟨((k6 : Int), updI o k5 (handR Pf o r k5)), hA2, ?_, rfl, by simp [getE, bnd, keepE], ⟨[], by simp [OIN]⟩, by simp [Own.bnd, bndL, bnd, OIN, OBs, boxO], by simp⟩
                                    simp only [Int.toNat_natCast]; rw [if_neg (by omega), if_neg (by omega)]; omega
                                · skip
                                  have hkx : kx = -1 := hA.neg (by simpa using hc)
                                  subst hkx
                                  refine W.exit (hK9 _ ?_)
                                  refine W.region ?_
                                  refine WO.go 2 (ds := []) rfl ?_
                                  simp only [sx, ty, q1, q2, q5, q6, q7, q8, q9, qa, qb, reduceIte, sy, q3, q4, hq1]
                                  with_reducible refine WO.nil ?_
                                  refine ⟨(r + 1, (rowsJ rows owner D ord r (D kk) m), (colsJ cols D ord (D kk) m), o), ⟨hr, hA.done hF⟩, by first | omega | (simp only; omega), rfl, by simp [getE, bnd, keepE, wrap_succ (show r + 1 ≤ 9223372036854775807 by omega)], ⟨[OIN m (tab m D) (some ⟨bd, 0, none⟩, m), OIN m (tab m Pf) (some ⟨bf, 0, none⟩, m), OBs m (tabB m fun x9 => decide (x9 ∈ (ord ++ [kk]))) (some ⟨bn, 0, none⟩, m)], by simp [OIN, OBs]⟩, by simp [Own.bnd, bndL, bnd, OIN, OBs, boxO], by simp⟩
                        · skip
                          have h0 : ¬ owner kk < 0 := by simpa using hc
                          obtain ⟨i9, hi9, ho9, _⟩ := hR.own kk hnx.lt (by omega)
                          have hT2 := hMid.next hR hnx ho9
                          have hol := ord_len hT2.nd hT2.lt
                          rw [List.length_append, List.length_singleton] at hol
                          refine W.skip (hK38 _ ?_)
                          refine W.region ?_
                          refine WO.go 2 (ds := []) rfl ?_
                          simp only [sx, ty, q1, q2, q5, q6, q7, q8, q9, qa, qb, reduceIte, sy, q3, q4]
                          refine WO.q (ds := []) rfl rfl rfl (QR.idx rfl rfl rfl el27 (by omega) (by omega)) ?_
                          refine WO.q (ds := []) rfl rfl rfl (QR.load [Value.int .i64 (i9 : Int)] false rfl rfl agg3 sz3 (.inr rfl) (fun ρ w1 hb => own_elem_at (k := 4) (i := kk) hb rfl (map_get (Value.int .i64) (tab_getE hnx.lt ho9)))) ?_
                          simp only [List.drop_succ_cons, List.drop_zero, List.take_succ_cons, List.take_zero, ofCells, Bool.false_eq_true, if_false, List.headD_cons]
                          refine WO.go 1 (ds := []) rfl ?_
                          simp only [sx, ty, q1, q2, q5, q6, q7, q8, q9, qa, qb, reduceIte, sy, q3, q4]
                          with_reducible refine WO.nil ?_
                          refine ⟨(ord ++ [kk], D, Pf, i9, (kk : Int), D kk), hT2, by simp only [List.length_append, List.length_singleton]; omega, rfl, by simp [getE, bnd, keepE], ⟨[], by simp [OIN, OBs]⟩, by simp [Own.bnd, bndL, bnd, OIN, OBs, boxO], by simp⟩
      · skip
        obtain rfl : r = cost.length := Nat.le_antisymm hrc (by simpa using hc)
        refine W.exit (hK5 _ ?_)
        refine W.pure (ds := []) rfl fun K54 hK54 => ?_
        simp only [sx, ty, q1, q2, q5, q6, q7, q8, q9, qa, qb, reduceIte, sy, q3, q4]; with_reducible refine hK54 _ ?_; clear hK54
        refine W.ret ?_
        refine ⟨by simp, RunR.ex ?_⟩
        simp only [sx, ty, q1, q2, q5, q6, q7, q8, q9, qa, qb, reduceIte, sxr, sy, q3, q4]
        intro ρ w1 hb
        refine ⟨rows, cols, owner, bA, bB, rfl, hR, ?_, ?_⟩
        · exact own_slice (A := rInt) (k := 1) (n := cost.length) (c := cost.length) (xs := (tab cost.length rows).map (.int .i64)) hb rfl (tab_len _ _).symm (fun b hb' => own_new hb (by simp) (k := 1) rfl hb') (ints_read (tab cost.length rows))
        · exact own_slice (A := rInt) (k := 2) (n := m) (c := m) (xs := (tab m cols).map (.int .i64)) hb rfl (tab_len _ _).symm (fun b hb' => own_new hb (by simp) (k := 2) rfl hb') (ints_read (tab m cols))
end Go.Proofs.YtolmeekbjonbcaaGreat
set_option linter.unusedVariables false
namespace Go.Proofs.YtolmeekbjonbcaaGreat
open Go Go.SX
section
variable {can : Int → Nat → Bool}
def sn (s : Fst) (k : Nat) : Prop := s.seen.getD k true = true
/-- a row more has a column -/
structure Suc (can : Int → Nat → Bool) (row : Int) (s t : Fst) : Prop where
  len : t.owner.length = s.owner.length
  keep : ∀ k, sn s k → t.owner[k]? = s.owner[k]?
  new : ∀ k x, t.owner[k]? = some x → s.owner[k]? = some x ∨ (0 ≤ x ∧ can x k = true)
  cnt : ∀ x, 0 ≤ x → t.owner.count x = s.owner.count x + if x = row then 1 else 0
/-- none was found -/
structure Fai (can : Int → Nat → Bool) (row : Int) (s t : Fst) : Prop where
  own : t.owner = s.owner
  sl : t.seen.length = s.seen.length
  mono : ∀ k, sn s k → sn t k
  un : unseen t ≤ unseen s
  met : ∀ x, x ∈ s.met → x ∈ t.met
  seen : ∀ k, k < s.owner.length → sn t k → sn s k ∨ ∃ o, s.owner[k]? = some o ∧ 0 ≤ o ∧ o ∈ t.met
  done : ∀ x, x ∈ t.met → x ∈ s.met ∨ ∀ k, k < s.owner.length → can x k = true → sn t k
  frm : ∀ x, x ∈ t.met → x ∈ s.met ∨ x = row ∨ (0 ≤ x ∧ x ∈ s.owner)
theorem Fai.refl (row : Int) (s : Fst) : Fai can row s s := ⟨rfl, rfl, fun _ h => h, Nat.le_refl _, fun _ h => h, fun _ _ h => .inl h, fun _ h => .inl h, fun _ h => .inl h⟩
theorem Fai.trans {row : Int} {s t u : Fst} (h : Fai can row s t) (g : Fai can row t u) : Fai can row s u where
  frm x hx := by
    rcases g.frm x hx with h1 | h1 | h1
    · exact h.frm x h1
    · exact .inr (.inl h1)
    · exact .inr (.inr (by rw [← h.own]; exact h1))
  own := g.own.trans h.own
  sl := g.sl.trans h.sl
  mono k hk := g.mono k (h.mono k hk)
  un := Nat.le_trans g.un h.un
  met x hx := g.met x (h.met x hx)
  seen k hk hu := by
    rcases g.seen k (by rw [h.own]; exact hk) hu with h1 | ⟨o, h1, h2, h3⟩
    · rcases h.seen k hk h1 with h2 | ⟨o, h2, h3, h4⟩
      · exact .inl h2
      · exact .inr ⟨o, h2, h3, g.met o h4⟩
    · exact .inr ⟨o, by rw [← h.own]; exact h1, h2, h3⟩
  done x hx := by
    rcases g.done x hx with h1 | h1
    · rcases h.done x h1 with h2 | h2
      · exact .inl h2
      · exact .inr fun k hk hc => g.mono k (h2 k hk hc)
    · exact .inr fun k hk hc => h1 k (by rw [h.own]; exact hk) hc
theorem Suc.after {row : Int} {s t u : Fst} (h : Fai can row s t) (g : Suc can row t u) : Suc can row s u :=
  ⟨by rw [g.len, h.own], fun k hk => by rw [g.keep k (h.mono k hk), h.own], fun k x hx => by rw [← h.own]; exact g.new k x hx, fun x hx => by rw [g.cnt x hx, h.own]⟩
theorem stepsF_spec {row : Int} {n f : Nat} {step : Nat → Fst → Bool × Fst}
    (h : ∀ k s, k < n → s.owner.length = n → s.seen.length = n → unseen s ≤ f → ((step k s).1 = true → Suc can row s (step k s).2) ∧ ((step k s).1 = false → Fai can row s (step k s).2 ∧ (can row k = true → sn (step k s).2 k))) :
    ∀ (ks : List Nat) (s : Fst), (∀ k, k ∈ ks → k < n) → s.owner.length = n → s.seen.length = n → unseen s ≤ f →
      ((stepsF step ks s).1 = true → Suc can row s (stepsF step ks s).2) ∧ ((stepsF step ks s).1 = false → Fai can row s (stepsF step ks s).2 ∧ ∀ k, k ∈ ks → can row k = true → sn (stepsF step ks s).2 k)
  | [], s, _, _, _, _ => ⟨fun h => by simp [stepsF] at h, fun _ => ⟨Fai.refl _ s, fun k hk => by cases hk⟩⟩
  | k :: ks, s, hk, ho, hs, hu => by
    obtain ⟨g1, g2⟩ := h k s (hk k List.mem_cons_self) ho hs hu
    unfold stepsF
    cases hst : step k s with
    | mk b t =>
      rw [hst] at g1 g2
      cases b with
      | true => exact ⟨fun _ => g1 rfl, fun h => by simp at h⟩
      | false =>
        obtain ⟨g3, g4⟩ := g2 rfl
        obtain ⟨g5, g6⟩ := stepsF_spec h ks t (fun x hx => hk x (List.mem_cons_of_mem _ hx)) (by rw [g3.own, ho]) (by rw [g3.sl, hs]) (Nat.le_trans g3.un hu)
        refine ⟨fun h9 => (g5 h9).after g3, fun h9 => ?_⟩
        obtain ⟨g7, g8⟩ := g6 h9
        refine ⟨g3.trans g7, fun x hx hc => ?_⟩
        rcases List.mem_cons.1 hx with rfl | hx
        · exact g7.mono x (g4 hc)
        · exact g8 x hx hc
theorem count_set_new {l : List Int} {k : Nat} {o row x : Int} (h : l[k]? = some o) : (l.set k row).count x + (if o = x then 1 else 0) = l.count x + if row = x then 1 else 0 := by
  induction l generalizing k with
  | nil => simp at h
  | cons y l ih =>
    cases k with
    | zero =>
      simp only [List.getElem?_cons_zero, Option.some.injEq] at h
      subst h
      simp only [List.set_cons_zero, List.count_cons, beq_iff_eq]
      omega
    | succ k =>
      have := ih (k := k) (by simpa using h)
      rw [List.set_cons_succ, List.count_cons, List.count_cons]; omega
theorem get_set_of {l : List Int} {k j : Nat} {row x : Int} (h : (l.set k row)[j]? = some x) : (j = k ∧ x = row) ∨ (j ≠ k ∧ l[j]? = some x) := by
  by_cases hj : k = j
  · subst hj
    have hl := (List.getElem?_eq_some_iff.1 h).1
    simp only [List.length_set] at hl
    simp only [List.getElem?_set_self hl, Option.some.injEq] at h
    exact .inl ⟨rfl, h.symm⟩
  · rw [List.getElem?_set_ne hj] at h
    exact .inr ⟨fun h => hj h.symm, h⟩
theorem sn_set {s : Fst} {k j : Nat} {ow met} (h : sn s j) : sn ⟨ow, s.seen.set k true, met⟩ j := by
  unfold sn at *
  rw [List.getD_eq_getElem?_getD] at *
  simp only [List.getElem?_set]
  split
  · split <;> simp
  · exact h
theorem sn_self {s : Fst} {k : Nat} {ow met} : sn ⟨ow, s.seen.set k true, met⟩ k := by
  unfold sn
  rw [List.getD_eq_getElem?_getD]
  simp only [List.getElem?_set_self']
  cases s.seen[k]? <;> rfl
theorem sn_of_set {s : Fst} {k j : Nat} {ow met} (h : sn ⟨ow, s.seen.set k true, met⟩ j) : j = k ∨ sn s j := by
  by_cases hj : k = j
  · exact .inl hj.symm
  · unfold sn at *
    rw [List.getD_eq_getElem?_getD] at *
    simp only [List.getElem?_set_ne hj] at h
    exact .inr h
theorem findF_spec : ∀ (f : Nat) (row : Int) (s : Fst), 0 ≤ row → s.seen.length = s.owner.length → unseen s + 1 ≤ f →
    ((findF can f row s).1 = true → Suc can row s (findF can f row s).2) ∧ ((findF can f row s).1 = false → Fai can row s (findF can f row s).2 ∧ row ∈ (findF can f row s).2.met)
  | 0, row, s, _, _, hu => by omega
  | f + 1, row, s, hrow, hl, hu => by
    have key : ∀ k s', k < s.owner.length → s'.owner.length = s.owner.length → s'.seen.length = s.owner.length → unseen s' ≤ f → ((lookF (findF can f) can row k s').1 = true → Suc can row s' (lookF (findF can f) can row k s').2) ∧ ((lookF (findF can f) can row k s').1 = false → Fai can row s' (lookF (findF can f) can row k s').2 ∧ (can row k = true → sn (lookF (findF can f) can row k s').2 k)) := fun k s hk ho hs hu => by
      unfold lookF
      split
      · rename_i h1
        refine ⟨fun h => by simp at h, fun _ => ⟨Fai.refl _ _, fun hc => ?_⟩⟩
        simp only [hc, Bool.not_true, Bool.or_false] at h1
        exact h1
      · rename_i h1
        have hcan : can row k = true := by
          cases hq : can row k with
          | true => rfl
          | false => exact absurd (by rw [hq]; simp) h1
        have hsn : ¬ sn s k := fun h => h1 (by unfold sn at h; rw [h]; rfl)
        obtain ⟨o, hok⟩ := len_lt ho hk
        have hsk : s.seen[k]? = some false := by
          obtain ⟨z, hz⟩ := len_lt hs hk
          cases z with
          | false => exact hz
          | true => exact absurd (getD_some hz) hsn
        have hc := count_set hsk
        rw [getD_some hok]
        split
        · rename_i h2
          refine ⟨fun _ => ⟨by simp, fun j hj => ?_, fun j x hx => ?_, fun x hx => ?_⟩, fun h => by simp at h⟩
          · show (s.owner.set k row)[j]? = _
            rw [List.getElem?_set_ne fun he => hsn (by rw [he]; exact hj)]
          · rcases get_set_of hx with ⟨rfl, rfl⟩ | ⟨_, h⟩
            · exact .inr ⟨hrow, hcan⟩
            · exact .inl h
          · have := count_set_new (row := row) (x := x) hok
            rw [if_neg (by omega)] at this
            show (s.owner.set k row).count x = _
            simp only [show (x = row) = (row = x) from propext eq_comm]
            omega
        · rename_i h2
          obtain ⟨g1, g2⟩ := findF_spec f o ⟨s.owner, s.seen.set k true, s.met⟩ (by omega) (by simp [hs, ho]) (by simp only [unseen] at hu ⊢; omega)
          split
          · rename_i t ht
            rw [ht] at g1
            have g3 := g1 rfl
            have htk : t.owner[k]? = some o := by rw [← hok]; exact g3.keep k sn_self
            refine ⟨fun _ => ⟨by simp [g3.len], fun j hj => ?_, fun j x hx => ?_, fun x hx => ?_⟩, fun h => by simp at h⟩
            · show (t.owner.set k row)[j]? = _
              rw [List.getElem?_set_ne fun he => hsn (by rw [he]; exact hj)]
              exact g3.keep j (sn_set hj)
            · rcases get_set_of hx with ⟨rfl, rfl⟩ | ⟨_, h⟩
              · exact .inr ⟨hrow, hcan⟩
              · exact g3.new j x h
            · have h4 := count_set_new (row := row) (x := x) htk
              have h5 := g3.cnt x hx
              show (t.owner.set k row).count x = _
              simp only at h5
              simp only [show (x = row) = (row = x) from propext eq_comm]
              simp only [show (x = o) = (o = x) from propext eq_comm] at h5
              omega
          · rename_i t ht
            rw [ht] at g2
            obtain ⟨g3, g4⟩ := g2 rfl
            refine ⟨fun h => by simp at h, fun _ => ⟨⟨g3.own, by rw [g3.sl]; simp, fun j hj => g3.mono j (sn_set hj), ?_, g3.met, fun j hj hu => ?_, g3.done, fun x hx => ?_⟩, fun _ => g3.mono k sn_self⟩⟩
            · have := g3.un
              simp only [unseen] at this hc ⊢
              omega
            · rcases g3.seen j hj hu with h | h
              · rcases sn_of_set h with rfl | h
                · exact .inr ⟨o, hok, by omega, g4⟩
                · exact .inl h
              · exact .inr h
            · rcases g3.frm x hx with h | rfl | h
              · exact .inl h
              · exact .inr (.inr ⟨by omega, List.mem_of_getElem? hok⟩)
              · exact .inr (.inr h)
    obtain ⟨g1, g2⟩ := stepsF_spec key (List.range s.owner.length) ⟨s.owner, s.seen, s.met ++ [row]⟩ (fun k hk => List.mem_range.1 hk) rfl hl (by simp only [unseen] at hu ⊢; omega)
    unfold findF
    refine ⟨fun h => ?_, fun h => ?_⟩
    · have g3 := g1 h
      exact ⟨g3.len, g3.keep, g3.new, g3.cnt⟩
    · obtain ⟨g3, g4⟩ := g2 h
      refine ⟨⟨g3.own, g3.sl, g3.mono, g3.un, fun x hx => g3.met x (List.mem_append_left _ hx), g3.seen, fun x hx => ?_, fun x hx => ?_⟩, g3.met row (by simp)⟩
      rotate_left
      · rcases g3.frm x hx with h1 | h1
        · rcases List.mem_append.1 h1 with h2 | h2
          · exact .inl h2
          · exact .inr (.inl (List.mem_singleton.1 h2))
        · exact .inr h1
      rcases g3.done x hx with h1 | h1
      · rcases List.mem_append.1 h1 with h2 | h2
        · exact .inl h2
        · obtain rfl := List.mem_singleton.1 h2
          exact .inr fun k hk hc => g4 k (List.mem_range.2 hk) hc
      · exact .inr h1
/-- the rows of D have columns, nobody else has -/
structure MOk (can : Int → Nat → Bool) (n : Nat) (D : Int → Bool) (owner : List Int) : Prop where
  len : owner.length = n
  can : ∀ k x, owner[k]? = some x → 0 ≤ x → can x k = true
  cnt : ∀ x : Int, 0 ≤ x → owner.count x = if D x = true then 1 else 0
theorem MOk.start (can : Int → Nat → Bool) (n : Nat) : MOk can n (fun _ => false) (List.replicate n (-1)) := by
  refine ⟨by simp, fun k x h hx => ?_, fun x hx => ?_⟩
  · have := List.mem_of_getElem? h
    rw [List.mem_replicate] at this; omega
  · rw [if_neg (by simp), List.count_eq_zero, List.mem_replicate]; omega
theorem unseen_rep (owner : List Int) (n : Nat) (met : List Int) : unseen ⟨owner, List.replicate n false, met⟩ = n := by simp [unseen]
theorem MOk.next {n r : Nat} {D D' : Int → Bool} {owner : List Int} (h : MOk can n D owner) (hb : (topF can n (r : Int) owner).1 = true) (hr : D (r : Int) = false) (hD : ∀ x, D' x = (D x || decide (x = (r : Int)))) : MOk can n D' (topF can n (r : Int) owner).2.1 := by
  have g := (findF_spec (can := can) (n + 1) (r : Int) ⟨owner, List.replicate n false, []⟩ (by omega) (by simp [h.len]) (by rw [unseen_rep]; exact Nat.le_refl _)).1 hb
  refine ⟨by have := g.len; simp only [topF]; rw [this]; exact h.len, fun k x hx h0 => ?_, fun x hx => ?_⟩
  · rcases g.new k x hx with h1 | h1
    · exact h.can k x h1 h0
    · exact h1.2
  · have := g.cnt x hx
    have h2 := h.cnt x hx
    simp only [topF]
    rw [this, h2, hD]
    by_cases hx : x = (r : Int)
    · subst hx; simp [hr]
    · simp [hx]
theorem seen_len (l : List Bool) : ((List.range l.length).filter fun k => decide (l.getD k true = true)).length + l.count false = l.length := by
  have h1 : l = (List.range l.length).map fun k => l.getD k true := by
    apply List.ext_getElem
    · simp
    · intro i h1 h2; simp [List.getD_eq_getElem?_getD, h1]
  have h2 : l.count false = (List.range l.length).countP fun k => !decide (l.getD k true = true) := by
    conv => lhs; rw [h1]
    rw [List.count, List.countP_map]
    congr 1
    funext k
    simp only [Function.comp]
    cases l.getD k true <;> rfl
  have h3 := List.length_eq_countP_add_countP (fun k => decide (l.getD k true = true)) (l := List.range l.length)
  rw [List.length_range] at h3
  rw [← List.countP_eq_length_filter, h2]
  have h4 : (List.range l.length).countP (fun k => !decide (l.getD k true = true)) = (List.range l.length).countP (fun a => decide ¬decide (l.getD a true = true) = true) := by congr 1; funext k; cases l.getD k true <;> rfl
  omega
theorem bound_of : ∀ l : List Int, ∃ R : Nat, ∀ x, x ∈ l → x < (R : Int)
  | [] => ⟨0, fun x h => by cases h⟩
  | y :: l => by
    obtain ⟨R, hR⟩ := bound_of l
    refine ⟨R + y.toNat + 1, fun x hx => ?_⟩
    rcases List.mem_cons.1 hx with rfl | h
    · omega
    · have := hR x h; omega
theorem met_len {n : Nat} {owner : List Int} (hl : owner.length = n) (r : Nat) : mea (findF can (n + 1) (r : Int) ⟨owner, List.replicate n false, []⟩).2 ≤ n + 1 := by
  obtain ⟨R, hR⟩ := bound_of ((r : Int) :: owner)
  have := (findF_to (can := can) (R := R) (n := n) (n + 1) (r : Int) ⟨owner, List.replicate n false, []⟩ (hR _ (by simp)) ⟨hl, by simp, fun k o ho => hR o (List.mem_cons_of_mem _ (List.mem_of_getElem? ho))⟩).2.1
  simpa [mea, unseen] using this
/-- a row that gets no column: the rows that were met have too few -/
theorem MOk.stuck {n r : Nat} {D : Int → Bool} {owner : List Int} (h : MOk can n D owner) (hr : D (r : Int) = false) (hb : (topF can n (r : Int) owner).1 = false) :
    (r : Int) ∈ (topF can n (r : Int) owner).2.2 ∧ (∀ x, x ∈ (topF can n (r : Int) owner).2.2 → x = (r : Int) ∨ (0 ≤ x ∧ D x = true)) ∧
    ∃ T : List Nat, T.Nodup ∧ (∀ x k, x ∈ (topF can n (r : Int) owner).2.2 → k < n → can x k = true → k ∈ T) ∧ (∀ k, k ∈ T → ∃ o : Int, owner[k]? = some o ∧ 0 ≤ o ∧ o ∈ (topF can n (r : Int) owner).2.2 ∧ o ≠ (r : Int)) ∧ (topF can n (r : Int) owner).2.2.length ≤ T.length + 1 := by
  have hme := met_len (can := can) h.len r
  obtain ⟨g, g0⟩ := (findF_spec (can := can) (n + 1) (r : Int) ⟨owner, List.replicate n false, []⟩ (by omega) (by simp [h.len]) (by rw [unseen_rep]; exact Nat.le_refl _)).2 hb
  have hsn0 : ∀ k, k < n → ¬ sn (⟨owner, List.replicate n false, []⟩ : Fst) k := fun k hk hs => by
    unfold sn at hs
    simp [List.getD_eq_getElem?_getD, hk] at hs
  have hgs : (findF can (n + 1) (r : Int) ⟨owner, List.replicate n false, []⟩).2.seen.length = n := by rw [g.sl]; simp
  simp only [topF]
  obtain ⟨t, ht⟩ : ∃ t, (findF can (n + 1) (r : Int) ⟨owner, List.replicate n false, []⟩).2 = t := ⟨_, rfl⟩
  rw [ht] at g g0 hme hgs ⊢
  have hlt : ∀ k, k < n → sn t k → ∃ o, owner[k]? = some o ∧ 0 ≤ o ∧ o ∈ t.met := fun k hk hs => (g.seen k (by show k < owner.length; rw [h.len]; exact hk) hs).resolve_left (hsn0 k hk)
  have hown : ∀ (k : Nat) (o : Int), owner[k]? = some o → 0 ≤ o → D o = true := fun k o hk h0 => by
    have h1 := h.cnt o h0
    have h2 := List.count_pos_iff.2 (List.mem_of_getElem? hk)
    split at h1
    · assumption
    · omega
  refine ⟨g0, fun x hx => ?_, (List.range n).filter (fun k => decide (t.seen.getD k true = true)), List.Pairwise.filter _ List.nodup_range, fun x k hx hk hc => ?_, fun k hk => ?_, ?_⟩
  rotate_right
  · have := seen_len t.seen
    rw [hgs] at this
    simp only [mea, unseen] at hme
    omega
  · rcases g.frm x hx with h1 | rfl | ⟨h1, h2⟩
    · cases h1
    · exact .inl rfl
    · obtain ⟨k, hk⟩ := List.mem_iff_getElem?.1 h2
      exact .inr ⟨h1, hown k x hk h1⟩
  · rw [List.mem_filter, List.mem_range]
    rcases g.done x hx with h1 | h1
    · cases h1
    · exact ⟨hk, (decide_eq_true (show t.seen.getD k true = true from h1 k (by show k < owner.length; rw [h.len]; exact hk) hc))⟩
  · rw [List.mem_filter, List.mem_range] at hk
    obtain ⟨o, h1, h2, h3⟩ := hlt k hk.1 (show t.seen.getD k true = true from of_decide_eq_true hk.2)
    exact ⟨o, h1, h2, h3, fun he => by have := hown k o h1 h2; rw [he, hr] at this; cases this⟩
theorem idx_one : ∀ {l : List Int} {k j : Nat} {o : Int}, l[k]? = some o → l[j]? = some o → l.count o ≤ 1 → k = j
  | [], _, _, _, h, _, _ => by simp at h
  | x :: l, 0, 0, _, _, _, _ => rfl
  | x :: l, k + 1, j + 1, o, h, g, hc => by
    rw [List.count_cons] at hc
    have := idx_one (l := l) (k := k) (j := j) (o := o) (by simpa using h) (by simpa using g) (by omega)
    omega
  | x :: l, 0, j + 1, o, h, g, hc => by
    simp only [List.getElem?_cons_zero, Option.some.injEq] at h
    subst h
    have := List.count_pos_iff.2 (List.mem_of_getElem? (l := l) (i := j) (by simpa using g))
    rw [List.count_cons_self] at hc; omega
  | x :: l, k + 1, 0, o, h, g, hc => by
    simp only [List.getElem?_cons_zero, Option.some.injEq] at g
    subst g
    have := List.count_pos_iff.2 (List.mem_of_getElem? (l := l) (i := k) (by simpa using h))
    rw [List.count_cons_self] at hc; omega
theorem MOk.one {n : Nat} {D : Int → Bool} {owner : List Int} (h : MOk can n D owner) {k j : Nat} {o : Int} (h0 : 0 ≤ o) (hk : owner[k]? = some o) (hj : owner[j]? = some o) : k = j :=
  idx_one hk hj (by rw [h.cnt o h0]; split <;> omega)
/-- columns for the rows of D, each its own -/
structure Cov (can : Int → Nat → Bool) (n : Nat) (D : Int → Bool) (f : Int → Nat) : Prop where
  lt : ∀ x, 0 ≤ x → D x = true → f x < n
  ok : ∀ x, 0 ≤ x → D x = true → can x (f x) = true
  inj : ∀ x y, 0 ≤ x → 0 ≤ y → D x = true → D y = true → f x = f y → x = y
theorem MOk.cov {n : Nat} {D : Int → Bool} {owner : List Int} (h : MOk can n D owner) : ∃ f, Cov can n D f := by
  have hm : ∀ x, 0 ≤ x → D x = true → owner[owner.idxOf x]? = some x := fun x h0 hD => by
    have h1 := h.cnt x h0
    rw [if_pos hD] at h1
    have h2 : x ∈ owner := List.count_pos_iff.1 (by omega)
    rw [List.getElem?_eq_getElem (List.idxOf_lt_length_of_mem h2), List.getElem_idxOf]
  have hl : ∀ x, 0 ≤ x → D x = true → owner.idxOf x < n := fun x h0 hD => by rw [← h.len]; exact (List.getElem?_eq_some_iff.1 (hm x h0 hD)).1
  refine ⟨fun x => owner.idxOf x, hl, fun x h0 hD => h.can _ _ (hm x h0 hD) h0, fun x y h0 h0' hD hD' he => ?_⟩
  have h1 := hm x h0 hD
  have he : owner.idxOf x = owner.idxOf y := he
  rw [he, hm y h0' hD'] at h1
  simp only [Option.some.injEq] at h1
  omega
theorem exists_nodup {α : Type} [DecidableEq α] : ∀ l : List α, ∃ A : List α, A.Nodup ∧ ∀ x, x ∈ A ↔ x ∈ l
  | [] => ⟨[], List.nodup_nil, fun _ => Iff.rfl⟩
  | x :: l => by
    obtain ⟨A, h1, h2⟩ := exists_nodup l
    by_cases hx : x ∈ A
    · refine ⟨A, h1, fun y => ?_⟩
      rw [List.mem_cons, ← h2]
      exact ⟨.inr, fun h => h.elim (fun he => he ▸ hx) id⟩
    · refine ⟨x :: A, List.nodup_cons.2 ⟨hx, h1⟩, fun y => ?_⟩
      rw [List.mem_cons, List.mem_cons, h2]
theorem MOk.none {n r : Nat} {D D' : Int → Bool} {owner : List Int} (h : MOk can n D owner) (hr : D (r : Int) = false) (hb : (topF can n (r : Int) owner).1 = false) (hD : ∀ x, 0 ≤ x → D x = true ∨ x = (r : Int) → D' x = true) (f : Int → Nat) : ¬ Cov can n D' f := fun hM => by
  obtain ⟨g1, g2, T, g3, g4, g5, _⟩ := h.stuck hr hb
  obtain ⟨met, hmet⟩ : ∃ met, (topF can n (r : Int) owner).2.2 = met := ⟨_, rfl⟩
  rw [hmet] at g1 g2 g4 g5
  obtain ⟨A, hAn, hAm⟩ := exists_nodup met
  have hA0 : ∀ x, x ∈ A → 0 ≤ x ∧ D' x = true := fun x hx => by
    rcases g2 x ((hAm x).1 hx) with rfl | ⟨h1, h2⟩
    · exact ⟨by omega, hD _ (by omega) (.inr rfl)⟩
    · exact ⟨h1, hD x h1 (.inl h2)⟩
  have h1 := nodup_len (l := A.map f) (m := T) (nodup_map hAn fun x y hx hy he => hM.inj x y (hA0 x hx).1 (hA0 y hy).1 (hA0 x hx).2 (hA0 y hy).2 he) fun k hk => by
    obtain ⟨i, hi, rfl⟩ := List.mem_map.1 hk
    obtain ⟨h2, h3⟩ := hA0 i hi
    exact g4 _ _ ((hAm i).1 hi) (hM.lt i h2 h3) (hM.ok i h2 h3)
  have h2 := nodup_len (l := T.map fun k => owner.getD k 0) (m := A.erase (r : Int)) (nodup_map g3 fun x y hx hy he => by
      obtain ⟨o, a1, a0, a2, a3⟩ := g5 x hx
      obtain ⟨o', b1, b0, b2, b3⟩ := g5 y hy
      simp only [getD_some a1, getD_some b1] at he
      subst he
      exact h.one a0 a1 b1) fun i hi => by
    obtain ⟨k, hk, rfl⟩ := List.mem_map.1 hi
    obtain ⟨o, a1, a0, a2, a3⟩ := g5 k hk
    rw [getD_some a1]
    exact (List.mem_erase_of_ne a3).2 ((hAm _).2 a2)
  have h3 : (r : Int) ∈ A := (hAm _).2 g1
  have h4 := List.length_erase_of_mem h3
  have h5 := List.length_pos_of_mem h3
  simp only [List.length_map] at h1 h2
  omega
def below (r : Nat) : Int → Bool := fun x => decide (x < (r : Int))
theorem Cov.mat {c : Nat → Nat → Int} {R n : Nat} {f : Int → Nat} (h : Cov can n (below R) f) (hc : ∀ i k : Nat, i < R → k < n → can (i : Int) k = true → 0 ≤ c i k) : ∃ f, Mat c R n f := by
  have hD : ∀ i : Nat, i < R → below R (i : Int) = true := fun i hi => decide_eq_true (by omega)
  exact ⟨fun i => f (i : Int), fun i hi => h.lt _ (by omega) (hD i hi), fun i hi => hc i _ hi (h.lt _ (by omega) (hD i hi)) (h.ok _ (by omega) (hD i hi)), fun i j hi hj he => by
    have := h.inj _ _ (by omega) (by omega) (hD i hi) (hD j hj) he
    omega⟩
theorem Mat.cov {c : Nat → Nat → Int} {R n : Nat} {f : Nat → Nat} (h : Mat c R n f) (hc : ∀ i k : Nat, i < R → k < n → 0 ≤ c i k → can (i : Int) k = true) : Cov can n (below R) (fun x => f x.toNat) := by
  have hD : ∀ x : Int, 0 ≤ x → below R x = true → x.toNat < R := fun x h0 hx => by have := of_decide_eq_true hx; omega
  refine ⟨fun x h0 hx => h.lt _ (hD x h0 hx), fun x h0 hx => ?_, fun x y h0 h0' hx hy he => ?_⟩
  · have := hc x.toNat _ (hD x h0 hx) (h.lt _ (hD x h0 hx)) (h.ok _ (hD x h0 hx))
    rwa [Int.toNat_of_nonneg h0] at this
  · have := h.inj _ _ (hD x h0 hx) (hD y h0' hy) he
    omega
theorem shortGo_spec {n R : Nat} : ∀ (m r : Nat) (owner : List Int), r + m = R → (h : ∃ D, (∀ x, 0 ≤ x → D x = below r x) ∧ MOk can n D owner) →
    (shortGo can n ((List.range R).drop r) owner = none → ∃ f, Cov can n (below R) f) ∧ ∀ met, shortGo can n ((List.range R).drop r) owner = some met → ∀ f, ¬ Cov can n (below R) f
  | 0, r, owner, he, ⟨D, hD, h⟩ => by
    rw [List.drop_eq_nil_of_le (by simp; omega)]
    obtain rfl : r = R := by omega
    obtain ⟨f, hf⟩ := h.cov
    exact ⟨fun _ => ⟨f, fun x h0 hx => hf.lt x h0 (by rw [hD x h0]; exact hx), fun x h0 hx => hf.ok x h0 (by rw [hD x h0]; exact hx), fun x y h0 h0' hx hy he => hf.inj x y h0 h0' (by rw [hD x h0]; exact hx) (by rw [hD y h0']; exact hy) he⟩, fun met h => by simp [shortGo] at h⟩
  | m + 1, r, owner, he, ⟨D, hD, h⟩ => by
    rw [range_drop (by omega), shortGo]
    have hr : D (r : Int) = false := by rw [hD _ (by omega)]; exact decide_eq_false (by omega)
    cases hb : (topF can n (r : Int) owner).1 with
    | true => rw [if_pos rfl]; exact shortGo_spec m (r + 1) _ (by omega) ⟨fun x => D x || decide (x = (r : Int)), fun x h0 => by
        simp only [hD x h0, below, ← Bool.decide_or]
        exact decide_eq_decide.2 (by omega), h.next hb hr fun _ => rfl⟩
    | false =>
      rw [if_neg (by simp)]
      exact ⟨fun h => by simp at h, fun met h9 => h.none hr hb fun x h0 hx => by
        rw [hD x h0] at hx
        simp only [below, decide_eq_true_eq] at hx ⊢
        omega⟩
end
theorem canF_nat {cost : List (List Int)} {i k : Nat} : canF cost (i : Int) k = decide (0 ≤ cF cost i k) := by unfold canF cF; rw [Int.toNat_natCast]
theorem short_key {cost : List (List Int)} {n : Nat} : (shortO cost n = none → ∃ f, Cov (canF cost) (wideF cost n) (below cost.length) f) ∧ ∀ met, shortO cost n = some met → ∀ f, ¬ Cov (canF cost) (wideF cost n) (below cost.length) f := by
  have h := shortGo_spec (can := canF cost) (n := wideF cost n) (R := cost.length) cost.length 0 (List.replicate (wideF cost n) (-1)) (by omega) ⟨fun _ => false, fun x h0 => (decide_eq_false (by omega)).symm, MOk.start _ _⟩
  simpa [shortO] using h
theorem short_none {cost : List (List Int)} {n : Nat} (h : shortO cost n = none) : ∃ f, Mat (cF cost) cost.length (wideF cost n) f := by
  obtain ⟨f, hf⟩ := short_key.1 h
  exact hf.mat fun i k hi hk hc => by rw [canF_nat] at hc; simpa using hc
theorem short_some {cost : List (List Int)} {n : Nat} {met : List Int} (h : shortO cost n = some met) : ∀ f, ¬ Mat (cF cost) cost.length (wideF cost n) f := fun f hM =>
  short_key.2 met h _ (hM.cov fun i k hi hk hc => by rw [canF_nat]; simpa using hc)
end Go.Proofs.YtolmeekbjonbcaaGreat
