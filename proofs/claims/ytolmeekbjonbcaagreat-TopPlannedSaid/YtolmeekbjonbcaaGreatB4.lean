/-
  Plan: demands without one, demands by falling ID: walks.
-/
import Derived.Test.YtolmeekbjonbcaaGreatB3
import Derived.Scope
import Derived.Lib.SliceRun
set_option linter.unusedVariables false
set_option linter.unusedSimpArgs false
set_option maxHeartbeats 1000000
namespace Go.Proofs.YtolmeekbjonbcaaGreat
open Int renaming reduceEq → q1, reduceLT → q2, reduceBEq → q3, reduceBNe → q4
open Nat renaming reduceAdd → q5, reduceSub → q6, reduceMul → q7, reduceLT → q8, reduceLeDiff → q9, reduceEqDiff → qa
open List renaming reduceReplicate → qb
open Go Go.SX Go.RowKit
/-- what Prices answers -/
def PriceR (cost : List (List Int)) (m : Nat) (lo : Nat) (r : Value) (w : World) : Prop :=
  ((∀ f, ¬ Mat (cF cost) cost.length m f) ∧ r = .tuple #[.slice none 0 0, .slice none 0 0, .int .i64 4]) ∨
  ((∃ f, Mat (cF cost) cost.length m f) ∧ ∃ (rows cols owner : Nat → Int) (x y : Nat), r = .tuple #[.slice (some ⟨x, 0, none⟩) cost.length cost.length, .slice (some ⟨y, 0, none⟩) m m, .int .i64 0] ∧ RInv (cF cost) cost.length m cost.length rows cols owner ∧
      rInts.rd (fun b => lo ≤ b) w [.slice (some ⟨x, 0, none⟩) cost.length cost.length] (tab cost.length rows) ∧ rInts.rd (fun b => lo ≤ b) w [.slice (some ⟨y, 0, none⟩) m m] (tab m cols))
theorem shortF_none {cost : List (List Int)} {n : Nat} (h : (shortF cost n).1 = false) : ∃ f, Mat (cF cost) cost.length (wideF cost n) f := by
  unfold shortF at h
  cases hs : shortO cost n with
  | none => exact short_none hs
  | some met => rw [hs] at h; simp at h
theorem shortF_some {cost : List (List Int)} {n : Nat} (h : (shortF cost n).1 = true) : ∀ f, ¬ Mat (cF cost) cost.length (wideF cost n) f := by
  unfold shortF at h
  cases hs : shortO cost n with
  | none => rw [hs] at h; simp at h
  | some met => exact short_some hs
/-- function 14 -/
theorem prices_spec {S : Nat → Prop} {w : World} {v : Value} {cost : List (List Int)} {n m : Nat} (hl : rRows.rd S w [v] cost) (hw : WfC cost n) (hm : wideF cost n = m) : Gives Tryz.prog 14 #[v] w fun r w' => PriceR cost m w.heap.size r w' := by
  obtain ⟨p, c, rfl, hc1, hc2⟩ := Rp.slice_val hl
  have hl : (Rp.slice rInts).rd (fun _ => True) w _ cost := Rp.any hl
  refine gives_of [.val (.slice p cost.length c)] 26 [.tmp 2, .tmp 3, .tmp 4] Tryz.func14 rfl rfl rfl (by simp) rfl rfl ?_
  refine W.pure (ds := []) rfl fun K1 hK1 => ?_
  simp only [sx, ty, q1, q2, q5, q6, q7, q8, q9, qa, qb, reduceIte, sy, q3, q4]; with_reducible refine hK1 _ ?_; clear hK1
  refine W.seqK fun K2 hK2 => W.region ?_
  refine WO.go 1 (ds := []) rfl ?_
  simp only [sx, ty, q1, q2, q5, q6, q7, q8, q9, qa, qb, reduceIte, sy, q3, q4]
  refine WO.callM (fun x : Option Addr × Nat => .tuple #[.slice x.1 (shortF cost n).2 x.2, .bool (shortF cost n).1, .int .i64 0]) (fun _ _ _ => True) (ds := []) rfl rfl rfl rfl co25 (fun ρ w1 hb => Gives.mono (short_spec (Rp.now hl (hb.first (by simp))) hw) fun r w9 _ ⟨x, hx⟩ => ⟨x, hx, trivial⟩) fun x lo9 s9 _ => ?_
  refine WO.go 7 (ds := []) rfl ?_
  simp only [sx, ty, q1, q2, q5, q6, q7, q8, q9, qa, qb, reduceIte, sy, q3, q4]
  with_reducible refine WO.nil ?_
  refine hK2 _ ?_; clear hK2
  refine W.seqK fun K3 hK3 => ?_
  refine W.block ?_
  refine W.pure (ds := []) rfl fun K4 hK4 => ?_
  simp only [sx, ty, q1, q2, q5, q6, q7, q8, q9, qa, qb, reduceIte, sy, q3, q4]; with_reducible refine hK4 _ ?_; clear hK4
  refine W.cond rfl rfl (fun hc => ?_) (fun hc => ?_)
  · skip
    simp at hc
  · skip
    refine W.pure (ds := []) rfl fun K5 hK5 => ?_
    simp only [sx, ty, q1, q2, q5, q6, q7, q8, q9, qa, qb, reduceIte, sy, q3, q4]; with_reducible refine hK5 _ ?_; clear hK5
    refine W.cond rfl rfl (fun hc => ?_) (fun hc => ?_)
    · skip
      have hs : (shortF cost n).1 = true := by simpa using hc
      refine W.pure (ds := []) rfl fun K6 hK6 => ?_
      simp only [sx, ty, q1, q2, q5, q6, q7, q8, q9, qa, qb, reduceIte, sy, q3, q4]; with_reducible refine hK6 _ ?_; clear hK6
      refine W.ret ⟨by simp, _, rfl, fun ρ w1 hb => ?_⟩
      have h9 := shortF_some hs
      rw [hm] at h9
      exact .inl ⟨h9, rfl⟩
    · skip
      have hs : (shortF cost n).1 = false := by simpa using hc
      obtain ⟨f, hM⟩ := shortF_none hs
      rw [hm] at hM
      refine W.skip (hK3 _ ?_)
      refine W.seqK fun K7 hK7 => W.region ?_
      refine WO.go 1 (ds := []) rfl ?_
      simp only [sx, ty, q1, q2, q5, q6, q7, q8, q9, qa, qb, reduceIte, sy, q3, q4]
      refine WO.callM (fun x : (Nat → Int) × (Nat → Int) × (Nat → Int) × Nat × Nat => .agg #[.slice (some ⟨x.2.2.2.1, 0, none⟩) cost.length cost.length, .slice (some ⟨x.2.2.2.2, 0, none⟩) m m]) (fun lo x s8 => w.heap.size ≤ lo ∧ RInv (cF cost) cost.length m cost.length x.1 x.2.1 x.2.2.1 ∧
            rInts.rd (fun b => lo ≤ b) s8 [.slice (some ⟨x.2.2.2.1, 0, none⟩) cost.length cost.length] (tab cost.length x.1) ∧ rInts.rd (fun b => lo ≤ b) s8 [.slice (some ⟨x.2.2.2.2, 0, none⟩) m m] (tab m x.2.1)) (ds := []) rfl rfl rfl rfl co30 (fun ρ w1 hb => Gives.mono (raise_spec (Rp.now hl (hb.first (by simp))) hw hm hM) fun r w9 _ ⟨rows, cols, owner, bA, bB, h1, h2, h3, h4⟩ => ⟨(rows, cols, owner, bA, bB), h1, (hb.at (S := fun _ => True) (s := w) (by simp [St.put])).size, h2, h3, h4⟩) fun x lo s8 hx => ?_
      obtain ⟨rows, cols, owner, bA, bB⟩ := x
      obtain ⟨hlo, hR, hx1, hx2⟩ := hx
      simp only at hR hx1 hx2
      refine WO.go 2 (ds := []) rfl ?_
      simp only [sx, ty, q1, q2, q5, q6, q7, q8, q9, qa, qb, reduceIte, sy, q3, q4]
      with_reducible refine WO.nil ?_
      refine hK7 _ ?_; clear hK7
      refine W.seqK fun K8 hK8 => ?_
      refine W.regionQ mixed (by kernel_rfl) ?_
      refine WQ.go 7 (ds := []) rfl ?_
      simp only [sx, ty, q1, q2, q5, q6, q7, q8, q9, qa, qb, reduceIte, sxq, sy, q3, q4]
      with_reducible refine WQ.nil ?_
      refine hK8 _ ?_; clear hK8
      refine W.ret ⟨by simp, _, rfl, fun ρ w1 hb => ?_⟩
      refine .inr ⟨⟨f, hM⟩, rows, cols, owner, bA, bB, rfl, hR, ?_, ?_⟩
      · exact Rp.mono _ (Rp.keep hx1 (hb.at (by simp))) fun b h _ => Nat.le_trans hlo h
      · exact Rp.mono _ (Rp.keep hx2 (hb.at (by simp))) fun b h _ => Nat.le_trans hlo h
end Go.Proofs.YtolmeekbjonbcaaGreat
set_option linter.unusedVariables false
set_option linter.unusedSimpArgs false
set_option maxHeartbeats 1000000
namespace Go.Proofs.YtolmeekbjonbcaaGreat
open Int renaming reduceEq → q1, reduceLT → q2, reduceBEq → q3, reduceBNe → q4
open Nat renaming reduceAdd → q5, reduceSub → q6, reduceMul → q7, reduceLT → q8, reduceLeDiff → q9, reduceEqDiff → qa
open List renaming reduceReplicate → qb
open Go Go.SX Go.RowKit
abbrev rBools : Rp (List Bool) := Rp.slice Rp.bool
theorem rBool_open {S : Nat → Prop} {w : World} {ces : List Value} {x : Bool} (h : Rp.bool.rd S w ces x) : ces = [.bool x] := h
/-- a pair that may be used: the column is free, the pair is allowed, its cost is what the prices say -/
def exF (cost : List (List Int)) (rows cols : Nat → Int) (used : Nat → Bool) (row : Int) (k : Nat) : Bool := !used k && (decide (0 ≤ cF cost row.toNat k) && decide (rows row.toNat + cols k = cF cost row.toNat k))
structure PrB (R m : Nat) (rows cols : Nat → Int) : Prop where
  row : ∀ i, i < R → 0 ≤ rows i ∧ rows i ≤ 132000000
  col : ∀ k, k < m → -132000000 ≤ cols k ∧ cols k ≤ 0
/-- function 57 -/
theorem can57_spec {w : World} {cost : List (List Int)} {n m : Nat} {rows cols : Nat → Int} {used : Nat → Bool} {p0 pu pr pc : Option Addr} {c cu cr cc : Nat} {a2 a3 a4 : Addr} (hw : WfC cost n) (hn : ∀ l, l ∈ cost → l.length = m) (hP : PrB cost.length m rows cols)
    (hl : rRows.rd (fun _ => True) w [.slice p0 cost.length c] cost) (hu : rBools.rd (fun _ => True) w [.slice pu m cu] (tabB m used)) (hr : rInts.rd (fun _ => True) w [.slice pr cost.length cr] (tab cost.length rows)) (hc : rInts.rd (fun _ => True) w [.slice pc m cc] (tab m cols))
    (h2 : At w a2 [.slice pu m cu]) (h3 : At w a3 [.slice p0 cost.length c]) (h4 : At w a4 [.slice pr cost.length cr, .slice pc m cc]) (h2z : a2.block < w.heap.size) (h3z : a3.block < w.heap.size) (h4z : a4.block < w.heap.size) (row : Int) (k : Nat) (h0 : 0 ≤ row) (hR : row < (cost.length : Int)) (hk : k < m) : Gives Tryz.prog 57 #[.int .i64 row, .int .i64 (k : Int), .pointer (some a2), .pointer (some a3), .pointer (some a4)] w fun r _ => r = .bool (exF cost rows cols used row k) := by
  obtain ⟨i, rfl⟩ := Int.eq_ofNat_of_zero_le h0
  obtain ⟨y, hy⟩ := len_lt (rfl : cost.length = _) (show i < cost.length by omega)
  have hyn := hn y (List.mem_of_getElem? hy)
  obtain ⟨z, hz⟩ := len_lt hyn hk
  have hcz := cF_eq hy hz
  have hzr := (hw.row y (List.mem_of_getElem? hy)).2 z (List.mem_of_getElem? hz)
  have hri := hP.row i (by omega)
  have hck := hP.col k hk
  have hwr : IntKind.i64.wrap (rows i + cols k) = rows i + cols k := wrap_id (by omega) (by omega)
  have hbe : ∀ a b : Int, (a == b) = decide (a = b) := fun a b => by by_cases h : a = b <;> simp [h]
  refine gives_of [.val (.int .i64 (i : Int)), .val (.int .i64 (k : Int)), .val (.pointer (some a2)), .val (.pointer (some a3)), .val (.pointer (some a4))] 44 [.tmp 7] Tryz.func57 rfl rfl rfl (by simp) rfl rfl ?_
  refine W.pure (ds := []) rfl fun K1 hK1 => ?_
  simp only [sx, ty, q1, q2, q5, q6, q7, q8, q9, qa, qb, reduceIte, sy, q3, q4]; with_reducible refine hK1 _ ?_; clear hK1
  refine W.join 7 (.val (.bool (exF cost rows cols used (i : Int) k))) [] (W.regionQ mixed (by kernel_rfl) ?_) ?_
  · skip
    refine WQ.q (ds := [some 8, some 9, some 10, some 11, some 12, some 13, some 14, some 15, some 16, some 17, some 18, some 19, some 20, some 21, some 22, some 23, some 24, some 25, some 26, some 27, some 28, some 29, some 30, some 31, some 32, some 33, some 34, some 35, some 36, some 37, some 38, some 39, some 40, some 41, some 42, some 43, some 7]) rfl rfl rfl (QR.load [.slice pu m cu] false rfl rfl agg71 sz71 (.inr rfl) (fun ρ w1 hb => h2.now (S := fun _ => True) hb (by simp [St.put]) trivial h2z)) ?_
    simp only [List.drop_succ_cons, List.drop_zero, List.take_succ_cons, List.take_zero, ofCells, Bool.false_eq_true, if_false, List.headD_cons]
    refine WQ.go 1 (ds := [some 8, some 9, some 10, some 11, some 12, some 13, some 14, some 15, some 16, some 17, some 18, some 19, some 20, some 21, some 22, some 23, some 24, some 25, some 26, some 27, some 28, some 29, some 30, some 31, some 32, some 33, some 34, some 35, some 36, some 37, some 38, some 39, some 40, some 41, some 42, some 43, some 7]) rfl ?_
    simp only [sx, ty, q1, q2, q5, q6, q7, q8, q9, qa, qb, reduceIte, sxq, sy, q3, q4]
    refine WQ.elem (y := (used k)) hu (by simp [St.put]) (ds := [some 8, some 9, some 10, some 11, some 12, some 13, some 14, some 15, some 16, some 17, some 18, some 19, some 20, some 21, some 22, some 23, some 24, some 25, some 26, some 27, some 28, some 29, some 30, some 31, some 32, some 33, some 34, some 35, some 36, some 37, some 38, some 39, some 40, some 41, some 42, some 43, some 7]) rfl rfl rfl (by simp [St.put]) (fun _ => rfl) rfl rfl rfl rfl rfl el71 agg4 sz4 (.inr rfl) (by omega) ((tabB_getE hk rfl)) fun p ces hces => ?_
    obtain rfl := rBool_open hces
    clear hces
    refine WQ.go 2 (ds := [some 8, some 9, some 10, some 11, some 12, some 13, some 14, some 15, some 16, some 17, some 18, some 19, some 20, some 21, some 22, some 23, some 24, some 25, some 26, some 27, some 28, some 29, some 30, some 31, some 32, some 33, some 34, some 35, some 36, some 37, some 38, some 39, some 40, some 41, some 42, some 43, some 7]) rfl ?_
    simp only [sx, ty, q1, q2, q5, q6, q7, q8, q9, qa, qb, reduceIte, sxq, sy, q3, q4]
    refine WQ.cases 13 _ rfl (fun hg13 => ?_) (fun hg13 => ?_)
    · skip
      have a1 : used k = false := by simpa using hg13
      refine WQ.q (ds := [some 8, some 9, some 10, some 11, some 12, some 13, some 14, some 15, some 16, some 17, some 18, some 19, some 20, some 21, some 22, some 23, some 24, some 25, some 26, some 27, some 28, some 29, some 30, some 31, some 32, some 33, some 34, some 35, some 36, some 37, some 38, some 39, some 40, some 41, some 42, some 43, some 7]) rfl rfl rfl (QR.load [.slice p0 cost.length c] false rfl rfl agg36 sz36 (.inr rfl) (fun ρ w1 hb => h3.now (S := fun _ => True) hb (by simp [St.put]) trivial h3z)) ?_
      simp only [List.drop_succ_cons, List.drop_zero, List.take_succ_cons, List.take_zero, ofCells, Bool.false_eq_true, if_false, List.headD_cons]
      refine WQ.go 1 (ds := [some 8, some 9, some 10, some 11, some 12, some 13, some 14, some 15, some 16, some 17, some 18, some 19, some 20, some 21, some 22, some 23, some 24, some 25, some 26, some 27, some 28, some 29, some 30, some 31, some 32, some 33, some 34, some 35, some 36, some 37, some 38, some 39, some 40, some 41, some 42, some 43, some 7]) rfl ?_
      simp only [sx, ty, q1, q2, q5, q6, q7, q8, q9, qa, qb, reduceIte, sxq, sy, q3, q4]
      refine WQ.elem (y := y) hl (by simp [St.put]) (ds := [some 8, some 9, some 10, some 11, some 12, some 13, some 14, some 15, some 16, some 17, some 18, some 19, some 20, some 21, some 22, some 23, some 24, some 25, some 26, some 27, some 28, some 29, some 30, some 31, some 32, some 33, some 34, some 35, some 36, some 37, some 38, some 39, some 40, some 41, some 42, some 43, some 7]) rfl rfl rfl (by simp [St.put]) (fun _ => rfl) rfl rfl rfl rfl rfl el36 agg27 sz27 (.inr rfl) (by omega) (hy) fun p ces hces => ?_
      obtain ⟨p9, c9, rfl, hc5, hc6⟩ := rInts_open hces
      have hces1 := hces
      clear hces
      refine WQ.go 1 (ds := [some 8, some 9, some 10, some 11, some 12, some 13, some 14, some 15, some 16, some 17, some 18, some 19, some 20, some 21, some 22, some 23, some 24, some 25, some 26, some 27, some 28, some 29, some 30, some 31, some 32, some 33, some 34, some 35, some 36, some 37, some 38, some 39, some 40, some 41, some 42, some 43, some 7]) rfl ?_
      simp only [sx, ty, q1, q2, q5, q6, q7, q8, q9, qa, qb, reduceIte, sxq, sy, q3, q4]
      refine WQ.elem (y := z) hces1 (by simp [St.put]) (ds := [some 8, some 9, some 10, some 11, some 12, some 13, some 14, some 15, some 16, some 17, some 18, some 19, some 20, some 21, some 22, some 23, some 24, some 25, some 26, some 27, some 28, some 29, some 30, some 31, some 32, some 33, some 34, some 35, some 36, some 37, some 38, some 39, some 40, some 41, some 42, some 43, some 7]) rfl rfl rfl (by simp [St.put]) (fun _ => rfl) rfl rfl rfl rfl rfl el27 agg3 sz3 (.inr rfl) (by omega) (hz) fun p ces hces => ?_
      obtain rfl := rInt_open hces
      clear hces
      refine WQ.go 3 (ds := [some 8, some 9, some 10, some 11, some 12, some 13, some 14, some 15, some 16, some 17, some 18, some 19, some 20, some 21, some 22, some 23, some 24, some 25, some 26, some 27, some 28, some 29, some 30, some 31, some 32, some 33, some 34, some 35, some 36, some 37, some 38, some 39, some 40, some 41, some 42, some 43, some 7]) rfl ?_
      simp only [sx, ty, q1, q2, q5, q6, q7, q8, q9, qa, qb, reduceIte, sxq, sy, q3, q4]
      refine WQ.cases 23 _ rfl (fun hg23 => ?_) (fun hg23 => ?_)
      · skip
        have a2 : 0 ≤ z := by simpa using hg23
        refine WQ.go 1 (ds := [some 8, some 9, some 10, some 11, some 12, some 13, some 14, some 15, some 16, some 17, some 18, some 19, some 20, some 21, some 22, some 23, some 24, some 25, some 26, some 27, some 28, some 29, some 30, some 31, some 32, some 33, some 34, some 35, some 36, some 37, some 38, some 39, some 40, some 41, some 42, some 43, some 7]) rfl ?_
        simp only [sx, ty, q1, q2, q5, q6, q7, q8, q9, qa, qb, reduceIte, sxq, sy, q3, q4]
        refine WQ.q (ds := [some 8, some 9, some 10, some 11, some 12, some 13, some 14, some 15, some 16, some 17, some 18, some 19, some 20, some 21, some 22, some 23, some 24, some 25, some 26, some 27, some 28, some 29, some 30, some 31, some 32, some 33, some 34, some 35, some 36, some 37, some 38, some 39, some 40, some 41, some 42, some 43, some 7]) rfl rfl rfl (QR.load [.slice pr cost.length cr] false rfl rfl agg27 sz27 (.inr rfl) (fun ρ w1 hb => (h4.now (S := fun _ => True) hb (by simp [St.put]) trivial h4z).part 0 1)) ?_
        simp only [List.drop_succ_cons, List.drop_zero, List.take_succ_cons, List.take_zero, ofCells, Bool.false_eq_true, if_false, List.headD_cons]
        refine WQ.go 1 (ds := [some 8, some 9, some 10, some 11, some 12, some 13, some 14, some 15, some 16, some 17, some 18, some 19, some 20, some 21, some 22, some 23, some 24, some 25, some 26, some 27, some 28, some 29, some 30, some 31, some 32, some 33, some 34, some 35, some 36, some 37, some 38, some 39, some 40, some 41, some 42, some 43, some 7]) rfl ?_
        simp only [sx, ty, q1, q2, q5, q6, q7, q8, q9, qa, qb, reduceIte, sxq, sy, q3, q4]
        refine WQ.elem (y := (rows i)) hr (by simp [St.put]) (ds := [some 8, some 9, some 10, some 11, some 12, some 13, some 14, some 15, some 16, some 17, some 18, some 19, some 20, some 21, some 22, some 23, some 24, some 25, some 26, some 27, some 28, some 29, some 30, some 31, some 32, some 33, some 34, some 35, some 36, some 37, some 38, some 39, some 40, some 41, some 42, some 43, some 7]) rfl rfl rfl (by simp [St.put]) (fun _ => rfl) rfl rfl rfl rfl rfl el27 agg3 sz3 (.inr rfl) (by omega) ((tab_getE (by omega) rfl)) fun p ces hces => ?_
        obtain rfl := rInt_open hces
        clear hces
        refine WQ.go 1 (ds := [some 8, some 9, some 10, some 11, some 12, some 13, some 14, some 15, some 16, some 17, some 18, some 19, some 20, some 21, some 22, some 23, some 24, some 25, some 26, some 27, some 28, some 29, some 30, some 31, some 32, some 33, some 34, some 35, some 36, some 37, some 38, some 39, some 40, some 41, some 42, some 43, some 7]) rfl ?_
        simp only [sx, ty, q1, q2, q5, q6, q7, q8, q9, qa, qb, reduceIte, sxq, sy, q3, q4]
        refine WQ.q (ds := [some 8, some 9, some 10, some 11, some 12, some 13, some 14, some 15, some 16, some 17, some 18, some 19, some 20, some 21, some 22, some 23, some 24, some 25, some 26, some 27, some 28, some 29, some 30, some 31, some 32, some 33, some 34, some 35, some 36, some 37, some 38, some 39, some 40, some 41, some 42, some 43, some 7]) rfl rfl rfl (QR.load [.slice pc m cc] false rfl rfl agg27 sz27 (.inr rfl) (fun ρ w1 hb => (h4.now (S := fun _ => True) hb (by simp [St.put]) trivial h4z).part 1 1)) ?_
        simp only [List.drop_succ_cons, List.drop_zero, List.take_succ_cons, List.take_zero, ofCells, Bool.false_eq_true, if_false, List.headD_cons]
        refine WQ.go 1 (ds := [some 8, some 9, some 10, some 11, some 12, some 13, some 14, some 15, some 16, some 17, some 18, some 19, some 20, some 21, some 22, some 23, some 24, some 25, some 26, some 27, some 28, some 29, some 30, some 31, some 32, some 33, some 34, some 35, some 36, some 37, some 38, some 39, some 40, some 41, some 42, some 43, some 7]) rfl ?_
        simp only [sx, ty, q1, q2, q5, q6, q7, q8, q9, qa, qb, reduceIte, sxq, sy, q3, q4]
        refine WQ.elem (y := (cols k)) hc (by simp [St.put]) (ds := [some 8, some 9, some 10, some 11, some 12, some 13, some 14, some 15, some 16, some 17, some 18, some 19, some 20, some 21, some 22, some 23, some 24, some 25, some 26, some 27, some 28, some 29, some 30, some 31, some 32, some 33, some 34, some 35, some 36, some 37, some 38, some 39, some 40, some 41, some 42, some 43, some 7]) rfl rfl rfl (by simp [St.put]) (fun _ => rfl) rfl rfl rfl rfl rfl el27 agg3 sz3 (.inr rfl) (by omega) ((tab_getE hk rfl)) fun p ces hces => ?_
        obtain rfl := rInt_open hces
        clear hces
        refine WQ.go 1 (ds := [some 8, some 9, some 10, some 11, some 12, some 13, some 14, some 15, some 16, some 17, some 18, some 19, some 20, some 21, some 22, some 23, some 24, some 25, some 26, some 27, some 28, some 29, some 30, some 31, some 32, some 33, some 34, some 35, some 36, some 37, some 38, some 39, some 40, some 41, some 42, some 43, some 7]) rfl ?_
        simp only [sx, ty, q1, q2, q5, q6, q7, q8, q9, qa, qb, reduceIte, sxq, sy, q3, q4]
        refine WQ.q (ds := [some 8, some 9, some 10, some 11, some 12, some 13, some 14, some 15, some 16, some 17, some 18, some 19, some 20, some 21, some 22, some 23, some 24, some 25, some 26, some 27, some 28, some 29, some 30, some 31, some 32, some 33, some 34, some 35, some 36, some 37, some 38, some 39, some 40, some 41, some 42, some 43, some 7]) rfl rfl rfl (QR.load [.slice p0 cost.length c] false rfl rfl agg36 sz36 (.inr rfl) (fun ρ w1 hb => h3.now (S := fun _ => True) hb (by simp [St.put]) trivial h3z)) ?_
        simp only [List.drop_succ_cons, List.drop_zero, List.take_succ_cons, List.take_zero, ofCells, Bool.false_eq_true, if_false, List.headD_cons]
        refine WQ.go 1 (ds := [some 8, some 9, some 10, some 11, some 12, some 13, some 14, some 15, some 16, some 17, some 18, some 19, some 20, some 21, some 22, some 23, some 24, some 25, some 26, some 27, some 28, some 29, some 30, some 31, some 32, some 33, some 34, some 35, some 36, some 37, some 38, some 39, some 40, some 41, some 42, some 43, some 7]) rfl ?_
        simp only [sx, ty, q1, q2, q5, q6, q7, q8, q9, qa, qb, reduceIte, sxq, sy, q3, q4]
        refine WQ.elem (y := y) hl (by simp [St.put]) (ds := [some 8, some 9, some 10, some 11, some 12, some 13, some 14, some 15, some 16, some 17, some 18, some 19, some 20, some 21, some 22, some 23, some 24, some 25, some 26, some 27, some 28, some 29, some 30, some 31, some 32, some 33, some 34, some 35, some 36, some 37, some 38, some 39, some 40, some 41, some 42, some 43, some 7]) rfl rfl rfl (by simp [St.put]) (fun _ => rfl) rfl rfl rfl rfl rfl el36 agg27 sz27 (.inr rfl) (by omega) (hy) fun p ces hces => ?_
        obtain ⟨p8, c8, rfl, hc7, hc8⟩ := rInts_open hces
        have hces2 := hces
        clear hces
        refine WQ.go 1 (ds := [some 8, some 9, some 10, some 11, some 12, some 13, some 14, some 15, some 16, some 17, some 18, some 19, some 20, some 21, some 22, some 23, some 24, some 25, some 26, some 27, some 28, some 29, some 30, some 31, some 32, some 33, some 34, some 35, some 36, some 37, some 38, some 39, some 40, some 41, some 42, some 43, some 7]) rfl ?_
        simp only [sx, ty, q1, q2, q5, q6, q7, q8, q9, qa, qb, reduceIte, sxq, sy, q3, q4]
        refine WQ.elem (y := z) hces2 (by simp [St.put]) (ds := [some 8, some 9, some 10, some 11, some 12, some 13, some 14, some 15, some 16, some 17, some 18, some 19, some 20, some 21, some 22, some 23, some 24, some 25, some 26, some 27, some 28, some 29, some 30, some 31, some 32, some 33, some 34, some 35, some 36, some 37, some 38, some 39, some 40, some 41, some 42, some 43, some 7]) rfl rfl rfl (by simp [St.put]) (fun _ => rfl) rfl rfl rfl rfl rfl el27 agg3 sz3 (.inr rfl) (by omega) (hz) fun p ces hces => ?_
        obtain rfl := rInt_open hces
        clear hces
        refine WQ.go 3 (ds := [some 8, some 9, some 10, some 11, some 12, some 13, some 14, some 15, some 16, some 17, some 18, some 19, some 20, some 21, some 22, some 23, some 24, some 25, some 26, some 27, some 28, some 29, some 30, some 31, some 32, some 33, some 34, some 35, some 36, some 37, some 38, some 39, some 40, some 41, some 42, some 43, some 7]) rfl ?_
        simp only [sx, ty, q1, q2, q5, q6, q7, q8, q9, qa, qb, reduceIte, sxq, sy, q3, q4]
        with_reducible refine WQ.nil ?_
        refine ⟨rfl, ?_, ⟨_, rfl⟩, by simp [Own.bnd, bndL, bnd, boxO], by simp⟩
        try simp [getE, bnd, keepE, exF, hcz, a1, a2]
        try simp [getE, bnd, keepE, exF, hcz, a1]
        try rw [hwr, hbe]
      · skip
        have a2 : ¬ 0 ≤ z := by simpa using hg23
        refine WQ.go 21 (ds := [some 8, some 9, some 10, some 11, some 12, some 13, some 14, some 15, some 16, some 17, some 18, some 19, some 20, some 21, some 22, some 23, some 24, some 25, some 26, some 27, some 28, some 29, some 30, some 31, some 32, some 33, some 34, some 35, some 36, some 37, some 38, some 39, some 40, some 41, some 42, some 43, some 7]) rfl ?_
        simp only [sx, ty, q1, q2, q5, q6, q7, q8, q9, qa, qb, reduceIte, sxq, sy, q3, q4]
        with_reducible refine WQ.nil ?_
        refine ⟨rfl, ?_, ⟨_, rfl⟩, by simp [Own.bnd, bndL, bnd, boxO], by simp⟩
        try simp [getE, bnd, keepE, exF, hcz, a1, a2]
        try simp [getE, bnd, keepE, exF, hcz, a1]
        try rw [hwr, hbe]
    · skip
      have a1 : used k = true := by simpa using hg13
      refine WQ.go 31 (ds := [some 8, some 9, some 10, some 11, some 12, some 13, some 14, some 15, some 16, some 17, some 18, some 19, some 20, some 21, some 22, some 23, some 24, some 25, some 26, some 27, some 28, some 29, some 30, some 31, some 32, some 33, some 34, some 35, some 36, some 37, some 38, some 39, some 40, some 41, some 42, some 43, some 7]) rfl ?_
      simp only [sx, ty, q1, q2, q5, q6, q7, q8, q9, qa, qb, reduceIte, sxq, sy, q3, q4]
      with_reducible refine WQ.nil ?_
      refine ⟨rfl, ?_, ⟨_, rfl⟩, by simp [Own.bnd, bndL, bnd, boxO], by simp⟩
      try simp [getE, bnd, keepE, exF, hcz, a1, a2]
      try simp [getE, bnd, keepE, exF, hcz, a1]
      try rw [hwr, hbe]
  · simp only [sx, ty, q1, q2, q5, q6, q7, q8, q9, qa, qb, reduceIte, sxk, sy, q3, q4]
    refine W.ret ⟨by simp, _, rfl, fun ρ w1 hb => ?_⟩
    simp only [den]
/-- function 58 -/
theorem can58_spec {w : World} {R m from_ : Nat} {can : Int → Nat → Bool} {K : FuncId} {caps : Array Value} (hKc : callOk Tryz.prog K = true) {a2 a3 : Addr}
    (hcan : ∀ w1, Keep (fun _ => True) w w1 → ∀ (row : Int) (k : Nat), 0 ≤ row → row < R → k < m → Gives Tryz.prog K (#[.int .i64 row, .int .i64 k] ++ caps) w1 fun r _ => r = .bool (can row k))
    (h2 : At w a2 [.int .i64 (from_ : Int)]) (h3 : At w a3 [.func (.func K) #[] caps]) (h2z : a2.block < w.heap.size) (h3z : a3.block < w.heap.size) (k : Int) (row : Nat) (h0 : 0 ≤ k) (hR : k < (m : Int)) (hk : row < R) : Gives Tryz.prog 58 #[.int .i64 k, .int .i64 (row : Int), .pointer (some a2), .pointer (some a3)] w fun r _ => r = .bool (decide (from_ ≤ row) && can (row : Int) k.toNat) := by
  obtain ⟨j, rfl⟩ := Int.eq_ofNat_of_zero_le h0
  refine gives_of [.val (.int .i64 (j : Int)), .val (.int .i64 (row : Int)), .val (.pointer (some a2)), .val (.pointer (some a3))] 16 [.tmp 6] Tryz.func58 rfl rfl rfl (by simp) rfl rfl ?_
  refine W.pure (ds := []) rfl fun K1 hK1 => ?_
  simp only [sx, ty, q1, q2, q5, q6, q7, q8, q9, qa, qb, reduceIte, sy, q3, q4]; with_reducible refine hK1 _ ?_; clear hK1
  refine W.join 6 (.val (.bool (decide (from_ ≤ row) && can (row : Int) j))) [] (W.region ?_) ?_
  · skip
    refine WO.go 1 (ds := [some 7, some 8, some 9, some 10, some 11, some 12, some 13, some 14, some 15, some 6]) rfl ?_
    simp only [sx, ty, q1, q2, q5, q6, q7, q8, q9, qa, qb, reduceIte, sy, q3, q4]
    refine WO.q (ds := [some 7, some 8, some 9, some 10, some 11, some 12, some 13, some 14, some 15, some 6]) rfl rfl rfl (QR.load [.int .i64 (from_ : Int)] false rfl rfl agg3 sz3 (.inr rfl) (fun ρ w1 hb => h2.now (S := fun _ => True) hb (by simp [St.put]) trivial h2z)) ?_
    simp only [List.drop_succ_cons, List.drop_zero, List.take_succ_cons, List.take_zero, ofCells, Bool.false_eq_true, if_false, List.headD_cons]
    refine WO.go 2 (ds := [some 7, some 8, some 9, some 10, some 11, some 12, some 13, some 14, some 15, some 6]) rfl ?_
    simp only [sx, ty, q1, q2, q5, q6, q7, q8, q9, qa, qb, reduceIte, sy, q3, q4]
    refine WO.cases 10 _ rfl (fun hg10 => ?_) (fun hg10 => ?_)
    · skip
      have a1 : from_ ≤ row := by simpa using hg10
      refine WO.q (ds := [some 7, some 8, some 9, some 10, some 11, some 12, some 13, some 14, some 15, some 6]) rfl rfl rfl (QR.load [.func (.func K) #[] caps] false rfl rfl agg88 sz88 (.inr rfl) (fun ρ w1 hb => h3.now (S := fun _ => True) hb (by simp [St.put]) trivial h3z)) ?_
      simp only [List.drop_succ_cons, List.drop_zero, List.take_succ_cons, List.take_zero, ofCells, Bool.false_eq_true, if_false, List.headD_cons]
      refine WO.go 2 (ds := [some 7, some 8, some 9, some 10, some 11, some 12, some 13, some 14, some 15, some 6]) rfl ?_
      simp only [sx, ty, q1, q2, q5, q6, q7, q8, q9, qa, qb, reduceIte, sy, q3, q4]
      refine WO.call (.bool (can (row : Int) j)) (ds := [some 7, some 8, some 9, some 10, some 11, some 12, some 13, some 14, some 15, some 6]) rfl rfl rfl rfl hKc (fun ρ w1 hb => by have := hcan w1 (hb.at (by simp [St.put])) row j (by omega) (by omega) (by omega); rw [← argsCap2] at this; simpa [denL_eq, den, Function.comp_def] using this) ?_
      refine WO.go 2 (ds := [some 7, some 8, some 9, some 10, some 11, some 12, some 13, some 14, some 15, some 6]) rfl ?_
      simp only [sx, ty, q1, q2, q5, q6, q7, q8, q9, qa, qb, reduceIte, sy, q3, q4]
      with_reducible refine WO.nil ?_
      refine ⟨rfl, ?_, ⟨_, rfl⟩, by simp [Own.bnd, bndL, bnd, boxO], by simp⟩
      try simp [getE, bnd, keepE, a1]
    · skip
      have a1 : ¬ from_ ≤ row := by simpa using hg10
      refine WO.go 6 (ds := [some 7, some 8, some 9, some 10, some 11, some 12, some 13, some 14, some 15, some 6]) rfl ?_
      simp only [sx, ty, q1, q2, q5, q6, q7, q8, q9, qa, qb, reduceIte, sy, q3, q4]
      with_reducible refine WO.nil ?_
      refine ⟨rfl, ?_, ⟨_, rfl⟩, by simp [Own.bnd, bndL, bnd, boxO], by simp⟩
      try simp [getE, bnd, keepE, a1]
  · simp only [sx, ty, q1, q2, q5, q6, q7, q8, q9, qa, qb, reduceIte, sxk, sy, q3, q4]
    refine W.ret ⟨by simp, _, rfl, fun ρ w1 hb => ?_⟩
    simp only [den, Int.toNat_natCast]
end Go.Proofs.YtolmeekbjonbcaaGreat
set_option linter.unusedVariables false
set_option linter.unusedSimpArgs false
set_option maxHeartbeats 1000000
namespace Go.Proofs.YtolmeekbjonbcaaGreat
open Int renaming reduceEq → q1, reduceLT → q2, reduceBEq → q3, reduceBNe → q4
open Nat renaming reduceAdd → q5, reduceSub → q6, reduceMul → q7, reduceLT → q8, reduceLeDiff → q9, reduceEqDiff → qa
open List renaming reduceReplicate → qb
open Go Go.SX Go.RowKit
/-- rows from a place on, below another -/
def rowsD (from_ r : Nat) : Int → Bool := fun x => decide ((from_ : Int) ≤ x) && decide (x < (r : Int))
/-- columns that must be reached, below a place -/
def colsD (used : Nat → Bool) (cols : Nat → Int) (j : Nat) : Int → Bool := fun x => decide (x < (j : Int)) && (!used x.toNat && !decide (cols x.toNat = 0))
def backF (from_ : Nat) (can : Int → Nat → Bool) : Int → Nat → Bool := fun k row => decide (from_ ≤ row) && can (row : Int) k.toNat
theorem rowsD_start (from_ : Nat) : ∀ x, 0 ≤ x → rowsD from_ from_ x = false := fun x _ => by unfold rowsD; by_cases h : x < (from_ : Int) <;> simp [h] <;> omega
theorem rowsD_next {from_ r : Nat} (h : from_ ≤ r) : ∀ x, rowsD from_ (r + 1) x = (rowsD from_ r x || decide (x = (r : Int))) := fun x => by
  unfold rowsD
  by_cases h1 : x = (r : Int)
  · subst h1; simp; omega
  · have : (x < ((r + 1 : Nat) : Int)) = (x < (r : Int)) := by simp; omega
    simp only [this, h1, decide_false, Bool.or_false]
theorem rowsD_at (from_ r : Nat) : rowsD from_ r (r : Int) = false := by simp [rowsD]
theorem colsD_start {used : Nat → Bool} {cols : Nat → Int} : ∀ x, 0 ≤ x → colsD used cols 0 x = false := fun x h => by unfold colsD; rw [decide_eq_false (by omega)]; rfl
theorem colsD_at {used : Nat → Bool} {cols : Nat → Int} (j : Nat) : colsD used cols j (j : Int) = false := by simp [colsD]
theorem colsD_next {used : Nat → Bool} {cols : Nat → Int} {j : Nat} (h1 : used j = false) (h2 : cols j ≠ 0) : ∀ x, colsD used cols (j + 1) x = (colsD used cols j x || decide (x = (j : Int))) := fun x => by
  unfold colsD
  by_cases hx : x = (j : Int)
  · subst hx; simp [h1, h2]; omega
  · have : (x < ((j + 1 : Nat) : Int)) = (x < (j : Int)) := by simp; omega
    simp only [this, hx, decide_false, Bool.or_false]
theorem colsD_same {used : Nat → Bool} {cols : Nat → Int} {j : Nat} (h : cols j = 0 ∨ used j = true) : ∀ x, colsD used cols (j + 1) x = colsD used cols j x := fun x => by
  unfold colsD
  by_cases hx : x = (j : Int)
  · subst hx
    have : (!used ((j : Int).toNat) && !decide (cols ((j : Int).toNat) = 0)) = false := by
      rw [Int.toNat_natCast]
      rcases h with h | h <;> simp [h]
    rw [this, Bool.and_false, Bool.and_false]
  · have : (x < ((j + 1 : Nat) : Int)) = (x < (j : Int)) := by simp; omega
    simp only [this]
theorem MOk.congr {can : Int → Nat → Bool} {n : Nat} {D D' : Int → Bool} {o : List Int} (h : MOk can n D o) (hD : ∀ x, 0 ≤ x → D' x = D x) : MOk can n D' o := ⟨h.len, h.can, fun x hx => by rw [hD x hx]; exact h.cnt x hx⟩
theorem MOk.lt {can : Int → Nat → Bool} {n : Nat} {D : Int → Bool} {o : List Int} {R : Nat} (h : MOk can n D o) (hD : ∀ x, 0 ≤ x → D x = true → x < (R : Int)) : ∀ (k : Nat) (x : Int), o[k]? = some x → x < (R : Int) := fun k x hk => by
  by_cases h0 : 0 ≤ x
  · have h1 := h.cnt x h0
    have h2 := List.count_pos_iff.2 (List.mem_of_getElem? hk)
    split at h1
    · exact hD x h0 (by assumption)
    · omega
  · omega
theorem rowsD_lt {from_ r R : Nat} (h : r ≤ R) : ∀ x, 0 ≤ x → rowsD from_ r x = true → x < (R : Int) := fun x _ hx => by simp [rowsD] at hx; omega
theorem colsD_lt {used : Nat → Bool} {cols : Nat → Int} {j R : Nat} (h : j ≤ R) : ∀ x, 0 ≤ x → colsD used cols j x = true → x < (R : Int) := fun x _ hx => by simp [colsD] at hx; omega
/-- what reach answers -/
def ReachP (cost : List (List Int)) (m : Nat) (rows cols : Nat → Int) (used : Nat → Bool) (from_ : Nat) : Prop :=
  (∃ f, Cov (exF cost rows cols used) m (rowsD from_ cost.length) f) ∧ ∃ g, Cov (backF from_ (exF cost rows cols used)) cost.length (colsD used cols m) g
/-- function 32 -/
theorem reach_spec {w : World} {cost : List (List Int)} {n m : Nat} {rows cols : Nat → Int} {used : Nat → Bool} {p0 pu pr pc : Option Addr} {c cu cr cc : Nat} (hw : WfC cost n) (hn : ∀ l, l ∈ cost → l.length = m) (hm11 : m ≤ 11) (hP : PrB cost.length m rows cols) {S : Nat → Prop}
    (hl : rRows.rd S w [.slice p0 cost.length c] cost) (hu : rBools.rd S w [.slice pu m cu] (tabB m used)) (hr : rInts.rd S w [.slice pr cost.length cr] (tab cost.length rows)) (hc : rInts.rd S w [.slice pc m cc] (tab m cols)) (from_ : Nat) (hf : from_ ≤ cost.length) : Gives Tryz.prog 32 #[.slice p0 cost.length c, .agg #[.slice pr cost.length cr, .slice pc m cc], .int .i64 (from_ : Int), .slice pu m cu] w fun r _ => ∃ b, r = .bool b ∧ (b = true ↔ ReachP cost m rows cols used from_) := by
  have hmn := hn
  have hr2 := hw.rows
  have hl9 : rRows.rd (fun b => b < w.heap.size) w _ cost := Rp.mono _ hl fun b _ h => h
  have hu9 : rBools.rd (fun b => b < w.heap.size) w _ _ := Rp.mono _ hu fun b _ h => h
  have hr9 : rInts.rd (fun b => b < w.heap.size) w _ _ := Rp.mono _ hr fun b _ h => h
  have hc9 : rInts.rd (fun b => b < w.heap.size) w _ _ := Rp.mono _ hc fun b _ h => h
  have hua : rBools.rd (fun _ => True) w _ _ := Rp.any hu
  have hca : rInts.rd (fun _ => True) w _ _ := Rp.any hc
  refine gives_of [.val (.slice p0 cost.length c), .val (.agg #[.slice pr cost.length cr, .slice pc m cc]), .val (.int .i64 (from_ : Int)), .val (.slice pu m cu)] 74 [.tmp 8] Tryz.func32 rfl rfl rfl (by simp) rfl rfl ?_
  refine W.pure (ds := []) rfl fun K1 hK1 => ?_
  simp only [sx, ty, q1, q2, q5, q6, q7, q8, q9, qa, qb, reduceIte, sy, q3, q4]; with_reducible refine hK1 _ ?_; clear hK1
  refine W.pinA (by simp [smallO]) fun β => ?_
  obtain ⟨b0, hb0⟩ : ∃ b0, β 0 = b0 := ⟨_, rfl⟩
  obtain ⟨b1, hb1⟩ : ∃ b1, β 1 = b1 := ⟨_, rfl⟩
  obtain ⟨b2, hb2⟩ : ∃ b2, β 2 = b2 := ⟨_, rfl⟩
  obtain ⟨b3, hb3⟩ : ∃ b3, β 3 = b3 := ⟨_, rfl⟩
  simp only [pinEn, pinOw, den, denL, Nat.zero_add, Nat.reduceAdd, hb0, hb1, hb2, hb3]
  refine W.ownIs [boxO 36 b0 [.slice p0 cost.length c], boxO 69 b1 [.slice pr cost.length cr, .slice pc m cc], boxO 3 b2 [.int .i64 (from_ : Int)], boxO 71 b3 [.slice pu m cu]] rfl ?_
  refine W.pure (ds := []) rfl fun K2 hK2 => ?_
  simp only [sx, ty, q1, q2, q5, q6, q7, q8, q9, qa, qb, reduceIte, sy, q3, q4]; with_reducible refine hK2 _ ?_; clear hK2
  refine W.pinA (by simp [smallO, boxO]) fun β => ?_
  obtain ⟨b4, hb4⟩ : ∃ b4, β 4 = b4 := ⟨_, rfl⟩
  simp only [pinEn, pinOw, pinOw_box, den, denL, Nat.zero_add, Nat.reduceAdd, hb4]
  refine W.ownIs [boxO 36 b0 [.slice p0 cost.length c], boxO 69 b1 [.slice pr cost.length cr, .slice pc m cc], boxO 3 b2 [.int .i64 (from_ : Int)], boxO 71 b3 [.slice pu m cu], boxO 88 b4 [.func (.func 57) #[] #[.pointer (some ⟨b3, 0, none⟩), .pointer (some ⟨b0, 0, none⟩), .pointer (some ⟨b1, 0, none⟩)]]] rfl ?_
  refine W.seqK fun K3 hK3 => ?_
  refine W.regionF [0, 1, 5] [2, 3, 4, 6, 7] ([boxO 36 b0 [.slice p0 cost.length c], boxO 69 b1 [.slice pr cost.length cr, .slice pc m cc], boxO 3 b2 [.int .i64 (from_ : Int)], boxO 71 b3 [.slice pu m cu], boxO 88 b4 [.func (.func 57) #[] #[.pointer (some ⟨b3, 0, none⟩), .pointer (some ⟨b0, 0, none⟩), .pointer (some ⟨b1, 0, none⟩)]]]) mixed (by kernel_rfl) rfl (by simp [keptL, boxO, OIN]) rfl (fun _ _ h => h) ?_
  simp only [sx, ty, q1, q2, q5, q6, q7, q8, q9, qa, qb, reduceIte, sxt, List.toList_toArray, RunP, sy, q3, q4]
  refine WF.q rfl rfl (QR.load [.slice p0 cost.length c] false rfl rfl agg36 sz36 (.inr rfl) (fun ρ w1 hb => box_at (k := 0) hb rfl)) ?_
  simp only [List.drop_succ_cons, List.drop_zero, List.take_succ_cons, List.take_zero, ofCells, Bool.false_eq_true, if_false, List.headD_cons]
  simp only [sx, ty, q1, q2, q5, q6, q7, q8, q9, qa, qb, reduceIte, sxt, List.toList_toArray, RunP, sy, q3, q4]
  refine WF.go rfl rfl rfl ?_
  simp only [sx, ty, q1, q2, q5, q6, q7, q8, q9, qa, qb, reduceIte, sxt, List.toList_toArray, RunP, sy, q3, q4]
  refine WF.q rfl rfl (QR.load [.func (.func 57) #[] #[.pointer (some ⟨b3, 0, none⟩), .pointer (some ⟨b0, 0, none⟩), .pointer (some ⟨b1, 0, none⟩)]] false rfl rfl agg88 sz88 (.inr rfl) (fun ρ w1 hb => box_at (k := 4) hb rfl)) ?_
  simp only [List.drop_succ_cons, List.drop_zero, List.take_succ_cons, List.take_zero, ofCells, Bool.false_eq_true, if_false, List.headD_cons]
  simp only [sx, ty, q1, q2, q5, q6, q7, q8, q9, qa, qb, reduceIte, sxt, List.toList_toArray, RunP, sy, q3, q4]
  refine WF.nil ?_
  simp only [sx, ty, q1, q2, q5, q6, q7, q8, q9, qa, qb, reduceIte, sxt, List.toList_toArray, RunP, sy, q3, q4]
  refine WC.one ?_
  refine WO.q (ds := []) rfl rfl rfl (QR.load [.slice pu m cu] false rfl rfl agg71 sz71 (.inr rfl) (fun ρ w1 hb => box_at (k := 3) hb rfl)) ?_
  simp only [List.drop_succ_cons, List.drop_zero, List.take_succ_cons, List.take_zero, ofCells, Bool.false_eq_true, if_false, List.headD_cons]
  simp only [sx, ty, q1, q2, q5, q6, q7, q8, q9, qa, qb, reduceIte, List.append_assoc, List.cons_append, List.nil_append, sy, q3, q4]
  with_reducible refine WC.next (by simp [keptL, boxO, OIN]) (by simp) ?_
  refine WC.one ?_
  refine WO.go 1 (ds := []) rfl ?_
  simp only [sx, ty, q1, q2, q5, q6, q7, q8, q9, qa, qb, reduceIte, List.append_assoc, List.cons_append, List.nil_append, sy, q3, q4]
  with_reducible refine WC.next (by simp [keptL, boxO, OIN]) (by simp) ?_
  refine WC.one ?_
  refine WO.callO (fun b : Nat => .slice (some ⟨b, 0, none⟩) m m) (fun b => OIN m (List.replicate m (-1)) (some ⟨b, 0, none⟩, m)) (ds := []) rfl rfl rfl rfl co44 (fun x T cs h => by cases h) (fun ρ w1 hb => nobody_spec w1 m (by omega)) fun bo => ?_
  simp only [sx, ty, q1, q2, q5, q6, q7, q8, q9, qa, qb, reduceIte, List.append_assoc, List.cons_append, List.nil_append, sy, q3, q4]
  with_reducible refine WC.next (by simp [keptL, boxO, OIN]) (by simp) ?_
  refine WC.one ?_
  refine WO.callN (fun x : Nat × Nat × Nat => .func (.func 69) #[] #[.pointer (some ⟨x.2.1, 0, none⟩), .pointer (some ⟨x.2.2, 0, none⟩), .pointer (some ⟨x.1, 0, none⟩)]) (fun x => [boxO 3 x.1 [.int .i64 (cost.length : Int)], boxO 27 x.2.1 [.slice (some ⟨bo, 0, none⟩) m m], boxO 88 x.2.2 [.func (.func 57) #[] #[.pointer (some ⟨b3, 0, none⟩), .pointer (some ⟨b0, 0, none⟩), .pointer (some ⟨b1, 0, none⟩)]]]) (fun _ => True) (ds := []) rfl rfl rfl rfl co43 (by intro x o ho; simp at ho; rcases ho with rfl | rfl | rfl <;> rfl) (fun ρ w1 hb => finder_spec w1 (cost.length : Int) (some ⟨bo, 0, none⟩) m m 57 #[.pointer (some ⟨b3, 0, none⟩), .pointer (some ⟨b0, 0, none⟩), .pointer (some ⟨b1, 0, none⟩)]) fun x _ => ?_
  obtain ⟨x1, x2, x3⟩ := x
  simp only [St.pushO, List.cons_append, List.nil_append]
  simp only [sx, ty, q1, q2, q5, q6, q7, q8, q9, qa, qb, reduceIte, List.append_assoc, List.cons_append, List.nil_append, sy, q3, q4]
  with_reducible refine WC.next (by simp [keptL, boxO, OIN]) (by simp) ?_
  refine WC.one ?_
  refine WO.go 1 (ds := []) rfl ?_
  simp only [sx, ty, q1, q2, q5, q6, q7, q8, q9, qa, qb, reduceIte, List.append_assoc, List.cons_append, List.nil_append, sy, q3, q4]
  with_reducible refine WC.next (by simp [keptL, boxO, OIN]) (by simp) ?_
  with_reducible refine WC.nil ?_
  refine hK3 _ ?_; clear hK3
  refine W.seqK fun K4 hK4 => ?_
  refine W.seqK fun K5 hK5 => W.region ?_
  refine WO.q (ds := []) rfl rfl rfl (QR.load [.int .i64 (from_ : Int)] false rfl rfl agg3 sz3 (.inr rfl) (fun ρ w1 hb => box_at (k := 2) hb rfl)) ?_
  simp only [List.drop_succ_cons, List.drop_zero, List.take_succ_cons, List.take_zero, ofCells, Bool.false_eq_true, if_false, List.headD_cons]
  refine WO.go 1 (ds := []) rfl ?_
  simp only [sx, ty, q1, q2, q5, q6, q7, q8, q9, qa, qb, reduceIte, sy, q3, q4]
  with_reducible refine WO.nil ?_
  refine hK5 _ ?_; clear hK5
  refine W.block ?_
  refine W.loopO (X := Nat × List Int) [4, 5, 6, 7, 9, 10] (fun x => [(11, .val (.int .i64 (x.1 : Int)))]) (fun x => [boxO 36 b0 [.slice p0 cost.length c], boxO 69 b1 [.slice pr cost.length cr, .slice pc m cc], boxO 3 b2 [.int .i64 (from_ : Int)], boxO 71 b3 [.slice pu m cu], boxO 88 b4 [.func (.func 57) #[] #[.pointer (some ⟨b3, 0, none⟩), .pointer (some ⟨b0, 0, none⟩), .pointer (some ⟨b1, 0, none⟩)]], OIN m x.2 (some ⟨bo, 0, none⟩, m), boxO 3 x1 [.int .i64 (cost.length : Int)], boxO 27 x2 [.slice (some ⟨bo, 0, none⟩) m m], boxO 88 x3 [.func (.func 57) #[] #[.pointer (some ⟨b3, 0, none⟩), .pointer (some ⟨b0, 0, none⟩), .pointer (some ⟨b1, 0, none⟩)]]]) (fun x => [((fun _ => True), w)]) (fun x => from_ ≤ x.1 ∧ x.1 ≤ cost.length ∧ MOk (exF cost rows cols used) m (rowsD from_ x.1) x.2) (fun x => cost.length - x.1) (from_, List.replicate m (-1)) ?_ ?_ ?_
  · exact ⟨rfl, by simp [getE, bnd, keepE], ⟨[], by simp⟩, by simp [Own.bnd, bndL, bnd, boxO, OIN], by simp⟩
  · skip
    exact ⟨Nat.le_refl _, hf, (MOk.start _ _).congr (rowsD_start from_)⟩
  · rintro ⟨i, ow⟩ hI
    simp only at hI
    obtain ⟨hfi, hic, hI2⟩ := hI
    have hIlt := hI2.lt (rowsD_lt hic)
    simp only [sx, ty, q1, q2, q5, q6, q7, q8, q9, qa, qb, reduceIte, sxk, sy, q3, q4]
    refine W.seqK fun K6 hK6 => ?_
    refine W.seqK fun K7 hK7 => W.region ?_
    refine WO.go 1 (ds := []) rfl ?_
    simp only [sx, ty, q1, q2, q5, q6, q7, q8, q9, qa, qb, reduceIte, sy, q3, q4]
    refine WO.q (ds := []) rfl rfl rfl (QR.load [.slice p0 cost.length c] false rfl rfl agg36 sz36 (.inr rfl) (fun ρ w1 hb => box_at (k := 0) hb rfl)) ?_
    simp only [List.drop_succ_cons, List.drop_zero, List.take_succ_cons, List.take_zero, ofCells, Bool.false_eq_true, if_false, List.headD_cons]
    refine WO.go 2 (ds := []) rfl ?_
    simp only [sx, ty, q1, q2, q5, q6, q7, q8, q9, qa, qb, reduceIte, sy, q3, q4]
    with_reducible refine WO.nil ?_
    refine hK7 _ ?_; clear hK7
    refine W.cond rfl rfl (fun hc => ?_) (fun hc => ?_)
    · skip
      have hlt : i < cost.length := by simpa using hc
      obtain ⟨ok, ow2, met, htop⟩ : ∃ ok ow2 met, topF (exF cost rows cols used) m (i : Int) ow = (ok, ow2, met) := ⟨_, _, _, rfl⟩
      refine W.skip (hK6 _ ?_)
      refine W.seqK fun K8 hK8 => ?_
      refine W.block ?_
      refine W.seqK fun K9 hK9 => W.region ?_
      refine WO.go 2 (ds := []) rfl ?_
      simp only [sx, ty, q1, q2, q5, q6, q7, q8, q9, qa, qb, reduceIte, sy, q3, q4]
      refine WO.callTN (own := [OIN m ow (some ⟨bo, 0, none⟩, m)]) [5] (fun x : Option Addr × Nat => .tuple #[.slice x.1 met.length x.2, .bool ok]) (fun _ => [OIN m ow2 (some ⟨bo, 0, none⟩, m)]) (fun x => [OI met x]) (fun _ => True) (ds := []) rfl rfl rfl rfl co69 ⟨rfl, trivial⟩ (by decide) rfl (fun _ => rfl) (fun _ => rfl) (fun ρ w1 hb hlie1 => ?_) fun x _ => ?_
      · have hkw : Keep (fun _ => True) w w1 := hb.at (by simp [St.put])
        have hszw := hkw.size
        have hkn : ∀ b, b < w.heap.size → b < w1.heap.size ∧ ¬ ofOwn [OIN m ow (some ⟨bo, 0, none⟩, m)] b := fun b hlt => ⟨by omega, fun ⟨i9, o9, g1, g2⟩ => by
          have g3 : i9 = 0 := by have := (List.getElem?_eq_some_iff.1 g1).1; simp at this; exact this
          subst g3
          simp only [List.getElem?_cons_zero, Option.some.injEq] at g1
          subst g1
          have := own_new (k := 5) (o := OIN m ow (some ⟨bo, 0, none⟩, m)) (b := b) hb (by simp [St.put] : ((fun _ => True), w) ∈ _) rfl g2
          omega⟩
        have h9 := finder1_spec (can := (exF cost rows cols used)) (R := cost.length) (n := m) (K := 57) (caps := #[.pointer (some ⟨b3, 0, none⟩), .pointer (some ⟨b0, 0, none⟩), .pointer (some ⟨b1, 0, none⟩)]) co57 (w := w1) (Sc := fun b => b < w1.heap.size ∧ ¬ ofOwn [OIN m ow (some ⟨bo, 0, none⟩, m)] b) (fun b h => h.1)
          (fun w2 hk2 row k h0 hR hk => by
            have e1 : ∀ {α : Type} {A9 : Rp α} {ce : List Value} {x9 : α}, A9.rd (fun b => b < w.heap.size) w ce x9 → A9.rd (fun _ => True) w2 ce x9 := fun h => Rp.any (Rp.keep h ((hkw.mono fun _ _ _ => trivial).trans (hk2.mono fun b hb9 _ => hkn b hb9)))
            exact can57_spec hw hmn hP (e1 hl9) (e1 hu9) (e1 hr9) (e1 hc9) ((box_at (k := 3) hb rfl).frame (hk2.block b3 ⟨own_old (j := 3) hb rfl rfl, other_own (j := 3) (ks := [5]) (own' := [OIN m ow (some ⟨bo, 0, none⟩, m)]) hb ⟨rfl, trivial⟩ rfl (by decide) rfl rfl⟩ (own_old (j := 3) hb rfl rfl))) ((box_at (k := 0) hb rfl).frame (hk2.block b0 ⟨own_old (j := 0) hb rfl rfl, other_own (j := 0) (ks := [5]) (own' := [OIN m ow (some ⟨bo, 0, none⟩, m)]) hb ⟨rfl, trivial⟩ rfl (by decide) rfl rfl⟩ (own_old (j := 0) hb rfl rfl))) ((box_at (k := 1) hb rfl).frame (hk2.block b1 ⟨own_old (j := 1) hb rfl rfl, other_own (j := 1) (ks := [5]) (own' := [OIN m ow (some ⟨bo, 0, none⟩, m)]) hb ⟨rfl, trivial⟩ rfl (by decide) rfl rfl⟩ (own_old (j := 1) hb rfl rfl))) (Nat.lt_of_lt_of_le (own_old (j := 3) hb rfl rfl) hk2.size) (Nat.lt_of_lt_of_le (own_old (j := 0) hb rfl rfl) hk2.size) (Nat.lt_of_lt_of_le (own_old (j := 1) hb rfl rfl) hk2.size) row k h0 hR hk)
          (a1 := ⟨x2, 0, none⟩) (a2 := ⟨x3, 0, none⟩) (a3 := ⟨x1, 0, none⟩) (owner := ow) (bo := bo) (co := m) (rows := (cost.length : Int)) (row := (i : Int)) (box_at (k := 7) hb rfl) (box_at (k := 8) hb rfl) (box_at (k := 6) hb rfl)
          ⟨own_old (j := 7) hb rfl rfl, other_own (j := 7) (ks := [5]) (own' := [OIN m ow (some ⟨bo, 0, none⟩, m)]) hb ⟨rfl, trivial⟩ rfl (by decide) rfl rfl⟩ ⟨own_old (j := 8) hb rfl rfl, other_own (j := 8) (ks := [5]) (own' := [OIN m ow (some ⟨bo, 0, none⟩, m)]) hb ⟨rfl, trivial⟩ rfl (by decide) rfl rfl⟩ ⟨own_old (j := 6) hb rfl rfl, other_own (j := 6) (ks := [5]) (own' := [OIN m ow (some ⟨bo, 0, none⟩, m)]) hb ⟨rfl, trivial⟩ rfl (by decide) rfl rfl⟩
          (fun b h => h.2) (by omega) (by omega) (by omega) (by omega) hI2.len hIlt hlie1
        rw [htop] at h9
        exact Calls.mono h9 fun e w2 ⟨v, he, hk, x, h1, h2⟩ => ⟨v, he, hk, x, h1, trivial, h2⟩
      obtain ⟨p4, c4⟩ := x
      refine WO.ownIs ([boxO 36 b0 [.slice p0 cost.length c], boxO 69 b1 [.slice pr cost.length cr, .slice pc m cc], boxO 3 b2 [.int .i64 (from_ : Int)], boxO 71 b3 [.slice pu m cu], boxO 88 b4 [.func (.func 57) #[] #[.pointer (some ⟨b3, 0, none⟩), .pointer (some ⟨b0, 0, none⟩), .pointer (some ⟨b1, 0, none⟩)]], OIN m ow2 (some ⟨bo, 0, none⟩, m), boxO 3 x1 [.int .i64 (cost.length : Int)], boxO 27 x2 [.slice (some ⟨bo, 0, none⟩) m m], boxO 88 x3 [.func (.func 57) #[] #[.pointer (some ⟨b3, 0, none⟩), .pointer (some ⟨b0, 0, none⟩), .pointer (some ⟨b1, 0, none⟩)]]] ++ [OI met (p4, c4)]) rfl ?_
      simp only [List.cons_append, List.nil_append]
      refine WO.go 5 (ds := []) rfl ?_
      simp only [sx, ty, q1, q2, q5, q6, q7, q8, q9, qa, qb, reduceIte, sy, q3, q4]
      with_reducible refine WO.nil ?_
      refine hK9 _ ?_; clear hK9
      refine W.pure (ds := []) rfl fun K10 hK10 => ?_
      simp only [sx, ty, q1, q2, q5, q6, q7, q8, q9, qa, qb, reduceIte, sy, q3, q4]; with_reducible refine hK10 _ ?_; clear hK10
      refine W.cond rfl rfl (fun hc => ?_) (fun hc => ?_)
      · skip
        have hok : ok = false := by simpa using hc
        subst hok
        refine W.pure (ds := []) rfl fun K11 hK11 => ?_
        simp only [sx, ty, q1, q2, q5, q6, q7, q8, q9, qa, qb, reduceIte, sy, q3, q4]; with_reducible refine hK11 _ ?_; clear hK11
        refine W.ret ⟨by simp, _, rfl, fun ρ w1 hb => ?_⟩
        refine ⟨false, by simp only [den], ?_⟩
        simp only [Bool.false_eq_true, false_iff]
        exact fun ⟨⟨f9, hf9⟩, _⟩ => hI2.none (rowsD_at _ _) (by rw [htop]) (fun x h0 hx => by simp only [rowsD, Bool.and_eq_true, decide_eq_true_eq] at hx ⊢; omega) f9 hf9
      · skip
        have hok : ok = true := by simpa using hc
        subst hok
        refine W.skip (hK8 _ ?_)
        refine W.region ?_
        refine WO.go 3 (ds := []) rfl ?_
        simp only [sx, ty, q1, q2, q5, q6, q7, q8, q9, qa, qb, reduceIte, sy, q3, q4]
        with_reducible refine WO.nil ?_
        refine ⟨(i + 1, ow2), ⟨by omega, hlt, by have h9 := hI2.next (by rw [htop]) (rowsD_at _ _) (rowsD_next hfi); rw [htop] at h9; exact h9⟩, by first | omega | (simp only; omega), rfl, by simp [getE, bnd, keepE, wrap_succ (show i + 1 ≤ 9223372036854775807 by omega)], ⟨[OI met (p4, c4)], by simp⟩, by simp [Own.bnd, bndL, bnd, OIN, boxO], by simp⟩
    · skip
      have him : i = cost.length := Nat.le_antisymm hic (by simpa using hc)
      subst i
      have hM1 := hI2
      refine W.exit (hK4 _ ?_)
      refine W.seqK fun K12 hK12 => ?_
      refine W.regionF [0, 1, 5] [2, 3, 4, 6, 7] ([boxO 36 b0 [.slice p0 cost.length c], boxO 69 b1 [.slice pr cost.length cr, .slice pc m cc], boxO 3 b2 [.int .i64 (from_ : Int)], boxO 71 b3 [.slice pu m cu], boxO 88 b4 [.func (.func 57) #[] #[.pointer (some ⟨b3, 0, none⟩), .pointer (some ⟨b0, 0, none⟩), .pointer (some ⟨b1, 0, none⟩)]], OIN m ow (some ⟨bo, 0, none⟩, m), boxO 3 x1 [.int .i64 (cost.length : Int)], boxO 27 x2 [.slice (some ⟨bo, 0, none⟩) m m], boxO 88 x3 [.func (.func 57) #[] #[.pointer (some ⟨b3, 0, none⟩), .pointer (some ⟨b0, 0, none⟩), .pointer (some ⟨b1, 0, none⟩)]]]) mixed (by kernel_rfl) rfl (by simp [keptL, boxO, OIN]) rfl (fun _ _ h => h) ?_
      simp only [sx, ty, q1, q2, q5, q6, q7, q8, q9, qa, qb, reduceIte, sxt, List.toList_toArray, RunP, sy, q3, q4]
      refine WF.q rfl rfl (QR.load [.slice pu m cu] false rfl rfl agg71 sz71 (.inr rfl) (fun ρ w1 hb => box_at (k := 3) hb rfl)) ?_
      simp only [List.drop_succ_cons, List.drop_zero, List.take_succ_cons, List.take_zero, ofCells, Bool.false_eq_true, if_false, List.headD_cons]
      simp only [sx, ty, q1, q2, q5, q6, q7, q8, q9, qa, qb, reduceIte, sxt, List.toList_toArray, RunP, sy, q3, q4]
      refine WF.go rfl rfl rfl ?_
      simp only [sx, ty, q1, q2, q5, q6, q7, q8, q9, qa, qb, reduceIte, sxt, List.toList_toArray, RunP, sy, q3, q4]
      refine WF.go rfl rfl rfl ?_
      simp only [sx, ty, q1, q2, q5, q6, q7, q8, q9, qa, qb, reduceIte, sxt, List.toList_toArray, RunP, sy, q3, q4]
      refine WF.nil ?_
      simp only [sx, ty, q1, q2, q5, q6, q7, q8, q9, qa, qb, reduceIte, sxt, List.toList_toArray, RunP, sy, q3, q4]
      refine WC.one ?_
      refine WO.q (ds := []) rfl rfl rfl (QR.load [.slice p0 cost.length c] false rfl rfl agg36 sz36 (.inr rfl) (fun ρ w1 hb => box_at (k := 0) hb rfl)) ?_
      simp only [List.drop_succ_cons, List.drop_zero, List.take_succ_cons, List.take_zero, ofCells, Bool.false_eq_true, if_false, List.headD_cons]
      simp only [sx, ty, q1, q2, q5, q6, q7, q8, q9, qa, qb, reduceIte, List.append_assoc, List.cons_append, List.nil_append, sy, q3, q4]
      with_reducible refine WC.next (by simp [keptL, boxO, OIN]) (by simp) ?_
      refine WC.one ?_
      refine WO.go 1 (ds := []) rfl ?_
      simp only [sx, ty, q1, q2, q5, q6, q7, q8, q9, qa, qb, reduceIte, List.append_assoc, List.cons_append, List.nil_append, sy, q3, q4]
      with_reducible refine WC.next (by simp [keptL, boxO, OIN]) (by simp) ?_
      refine WC.one ?_
      refine WO.callO (fun b : Nat => .slice (some ⟨b, 0, none⟩) cost.length cost.length) (fun b => OIN cost.length (List.replicate cost.length (-1)) (some ⟨b, 0, none⟩, cost.length)) (ds := []) rfl rfl rfl rfl co44 (fun x T cs h => by cases h) (fun ρ w1 hb => nobody_spec w1 cost.length (by omega)) fun bq => ?_
      simp only [sx, ty, q1, q2, q5, q6, q7, q8, q9, qa, qb, reduceIte, List.append_assoc, List.cons_append, List.nil_append, sy, q3, q4]
      with_reducible refine WC.next (by simp [keptL, boxO, OIN]) (by simp) ?_
      refine WC.one ?_
      refine WO.callN (fun x : Nat × Nat × Nat => .func (.func 69) #[] #[.pointer (some ⟨x.2.1, 0, none⟩), .pointer (some ⟨x.2.2, 0, none⟩), .pointer (some ⟨x.1, 0, none⟩)]) (fun x => [boxO 3 x.1 [.int .i64 (m : Int)], boxO 27 x.2.1 [.slice (some ⟨bq, 0, none⟩) cost.length cost.length], boxO 88 x.2.2 [.func (.func 58) #[] #[.pointer (some ⟨b2, 0, none⟩), .pointer (some ⟨b4, 0, none⟩)]]]) (fun _ => True) (ds := []) rfl rfl rfl rfl co43 (by intro x o ho; simp at ho; rcases ho with rfl | rfl | rfl <;> rfl) (fun ρ w1 hb => finder_spec w1 (m : Int) (some ⟨bq, 0, none⟩) cost.length cost.length 58 #[.pointer (some ⟨b2, 0, none⟩), .pointer (some ⟨b4, 0, none⟩)]) fun x _ => ?_
      obtain ⟨y1, y2, y3⟩ := x
      simp only [St.pushO, List.cons_append, List.nil_append]
      simp only [sx, ty, q1, q2, q5, q6, q7, q8, q9, qa, qb, reduceIte, List.append_assoc, List.cons_append, List.nil_append, sy, q3, q4]
      with_reducible refine WC.next (by simp [keptL, boxO, OIN]) (by simp) ?_
      refine WC.one ?_
      refine WO.go 1 (ds := []) rfl ?_
      simp only [sx, ty, q1, q2, q5, q6, q7, q8, q9, qa, qb, reduceIte, List.append_assoc, List.cons_append, List.nil_append, sy, q3, q4]
      with_reducible refine WC.next (by simp [keptL, boxO, OIN]) (by simp) ?_
      with_reducible refine WC.nil ?_
      refine hK12 _ ?_; clear hK12
      refine W.seqK fun K13 hK13 => ?_
      refine W.seqK fun K14 hK14 => W.region ?_
      refine WO.q (ds := []) rfl rfl rfl (QR.load [.slice pu m cu] false rfl rfl agg71 sz71 (.inr rfl) (fun ρ w1 hb => box_at (k := 3) hb rfl)) ?_
      simp only [List.drop_succ_cons, List.drop_zero, List.take_succ_cons, List.take_zero, ofCells, Bool.false_eq_true, if_false, List.headD_cons]
      refine WO.go 2 (ds := []) rfl ?_
      simp only [sx, ty, q1, q2, q5, q6, q7, q8, q9, qa, qb, reduceIte, sy, q3, q4]
      with_reducible refine WO.nil ?_
      refine hK14 _ ?_; clear hK14
      refine W.block ?_
      refine W.loopO (X := Nat × List Int) [5, 14, 49, 50] (fun x => [(51, .val (.int .i64 (x.1 : Int)))]) (fun x => [boxO 36 b0 [.slice p0 cost.length c], boxO 69 b1 [.slice pr cost.length cr, .slice pc m cc], boxO 3 b2 [.int .i64 (from_ : Int)], boxO 71 b3 [.slice pu m cu], boxO 88 b4 [.func (.func 57) #[] #[.pointer (some ⟨b3, 0, none⟩), .pointer (some ⟨b0, 0, none⟩), .pointer (some ⟨b1, 0, none⟩)]], OIN m ow (some ⟨bo, 0, none⟩, m), boxO 3 x1 [.int .i64 (cost.length : Int)], boxO 27 x2 [.slice (some ⟨bo, 0, none⟩) m m], boxO 88 x3 [.func (.func 57) #[] #[.pointer (some ⟨b3, 0, none⟩), .pointer (some ⟨b0, 0, none⟩), .pointer (some ⟨b1, 0, none⟩)]], OIN cost.length x.2 (some ⟨bq, 0, none⟩, cost.length), boxO 3 y1 [.int .i64 (m : Int)], boxO 27 y2 [.slice (some ⟨bq, 0, none⟩) cost.length cost.length], boxO 88 y3 [.func (.func 58) #[] #[.pointer (some ⟨b2, 0, none⟩), .pointer (some ⟨b4, 0, none⟩)]]]) (fun x => [((fun _ => True), w)]) (fun x => x.1 ≤ m ∧ MOk (backF from_ (exF cost rows cols used)) cost.length (colsD used cols x.1) x.2) (fun x => m - x.1) (0, List.replicate cost.length (-1)) ?_ ?_ ?_
      · exact ⟨rfl, by simp [getE, bnd, keepE], ⟨[], by simp⟩, by simp [Own.bnd, bndL, bnd, boxO, OIN], by simp⟩
      · skip
        exact ⟨Nat.zero_le _, (MOk.start _ _).congr colsD_start⟩
      · rintro ⟨j, oq⟩ hI
        simp only at hI
        obtain ⟨hjm, hI2⟩ := hI
        have hIlt := hI2.lt (colsD_lt hjm)
        simp only [sx, ty, q1, q2, q5, q6, q7, q8, q9, qa, qb, reduceIte, sxk, sy, q3, q4]
        refine W.pure (ds := []) rfl fun K15 hK15 => ?_
        simp only [sx, ty, q1, q2, q5, q6, q7, q8, q9, qa, qb, reduceIte, sy, q3, q4]; with_reducible refine hK15 _ ?_; clear hK15
        refine W.seqK fun K16 hK16 => ?_
        refine W.cond rfl rfl (fun hc => ?_) (fun hc => ?_)
        · skip
          have hlt : j < m := by simpa using hc
          refine W.skip (hK16 _ ?_)
          refine W.seqK fun K17 hK17 => ?_
          refine W.block ?_
          refine W.seqK fun K18 hK18 => W.region ?_
          refine WO.go 1 (ds := []) rfl ?_
          simp only [sx, ty, q1, q2, q5, q6, q7, q8, q9, qa, qb, reduceIte, sy, q3, q4]
          refine WO.elem (y := (used j)) hua (by simp [St.put]) (ds := []) rfl rfl rfl (by simp [St.put]) (fun _ => rfl) rfl rfl rfl rfl rfl el71 agg4 sz4 (.inr rfl) (by omega) ((tabB_getE hlt rfl)) fun p ces hces => ?_
          obtain rfl := rBool_open hces
          clear hces
          refine WO.go 2 (ds := []) rfl ?_
          simp only [sx, ty, q1, q2, q5, q6, q7, q8, q9, qa, qb, reduceIte, sy, q3, q4]
          with_reducible refine WO.nil ?_
          refine hK18 _ ?_; clear hK18
          refine W.seqK fun K19 hK19 => ?_
          refine W.join 64 (.val (.bool (decide (cols j = 0) || used j))) [5, 14, 15, 49, 50, 51] (W.region ?_) ?_
          · skip
            refine WO.go 1 (ds := [some 56, some 57, some 58, some 59, some 60, some 61, some 62, some 63, some 64]) rfl ?_
            simp only [sx, ty, q1, q2, q5, q6, q7, q8, q9, qa, qb, reduceIte, sy, q3, q4]
            refine WO.q (ds := [some 56, some 57, some 58, some 59, some 60, some 61, some 62, some 63, some 64]) rfl rfl rfl (QR.load [.slice pc m cc] false rfl rfl agg27 sz27 (.inr rfl) (fun ρ w1 hb => (box_at (k := 1) hb rfl).part 1 1)) ?_
            simp only [List.drop_succ_cons, List.drop_zero, List.take_succ_cons, List.take_zero, ofCells, Bool.false_eq_true, if_false, List.headD_cons]
            refine WO.go 1 (ds := [some 56, some 57, some 58, some 59, some 60, some 61, some 62, some 63, some 64]) rfl ?_
            simp only [sx, ty, q1, q2, q5, q6, q7, q8, q9, qa, qb, reduceIte, sy, q3, q4]
            refine WO.elem (y := (cols j)) hca (by simp [St.put]) (ds := [some 56, some 57, some 58, some 59, some 60, some 61, some 62, some 63, some 64]) rfl rfl rfl (by simp [St.put]) (fun _ => rfl) rfl rfl rfl rfl rfl el27 agg3 sz3 (.inr rfl) (by omega) ((tab_getE hlt rfl)) fun p ces hces => ?_
            obtain rfl := rInt_open hces
            clear hces
            refine WO.go 2 (ds := [some 56, some 57, some 58, some 59, some 60, some 61, some 62, some 63, some 64]) rfl ?_
            simp only [sx, ty, q1, q2, q5, q6, q7, q8, q9, qa, qb, reduceIte, sy, q3, q4]
            refine WO.cases 62 _ rfl (fun hg62 => ?_) (fun hg62 => ?_)
            · skip
              have a1 : cols j = 0 := by simpa using hg62
              refine WO.go 2 (ds := [some 56, some 57, some 58, some 59, some 60, some 61, some 62, some 63, some 64]) rfl ?_
              simp only [sx, ty, q1, q2, q5, q6, q7, q8, q9, qa, qb, reduceIte, sy, q3, q4]
              with_reducible refine WO.nil ?_
              refine ⟨rfl, ?_, ⟨_, rfl⟩, by simp [Own.bnd, bndL, bnd, boxO, OIN], by simp⟩
              try simp [getE, bnd, keepE, a1]
            · skip
              have a1 : ¬ cols j = 0 := by simpa using hg62
              refine WO.go 2 (ds := [some 56, some 57, some 58, some 59, some 60, some 61, some 62, some 63, some 64]) rfl ?_
              simp only [sx, ty, q1, q2, q5, q6, q7, q8, q9, qa, qb, reduceIte, sy, q3, q4]
              with_reducible refine WO.nil ?_
              refine ⟨rfl, ?_, ⟨_, rfl⟩, by simp [Own.bnd, bndL, bnd, boxO, OIN], by simp⟩
              try simp [getE, bnd, keepE, a1]
          · simp only [sx, ty, q1, q2, q5, q6, q7, q8, q9, qa, qb, reduceIte, sxk, sy, q3, q4]
            refine W.cond rfl rfl (fun hc => ?_) (fun hc => ?_)
            · skip
              have hsk : cols j = 0 ∨ used j = true := by simpa using hc
              refine W.exit (hK17 _ ?_)
              refine W.region ?_
              refine WO.go 2 (ds := []) rfl ?_
              simp only [sx, ty, q1, q2, q5, q6, q7, q8, q9, qa, qb, reduceIte, sy, q3, q4]
              with_reducible refine WO.nil ?_
              refine ⟨(j + 1, oq), ⟨hlt, hI2.congr fun x _ => colsD_same hsk x⟩, by first | omega | (simp only; omega), rfl, by simp [getE, bnd, keepE, wrap_succ (show j + 1 ≤ 9223372036854775807 by omega)], ⟨[], by simp⟩, by simp [Own.bnd, bndL, bnd, OIN, boxO], by simp⟩
            · skip
              obtain ⟨hk0, hk1⟩ : cols j ≠ 0 ∧ used j = false := by simpa using hc
              obtain ⟨ok, oq2, met, htop⟩ : ∃ ok oq2 met, topF (backF from_ (exF cost rows cols used)) cost.length (j : Int) oq = (ok, oq2, met) := ⟨_, _, _, rfl⟩
              refine W.skip (hK19 _ ?_)
              refine W.seqK fun K21 hK21 => W.region ?_
              refine WO.go 2 (ds := []) rfl ?_
              simp only [sx, ty, q1, q2, q5, q6, q7, q8, q9, qa, qb, reduceIte, sy, q3, q4]
              refine WO.callTN (own := [OIN cost.length oq (some ⟨bq, 0, none⟩, cost.length)]) [9] (fun x : Option Addr × Nat => .tuple #[.slice x.1 met.length x.2, .bool ok]) (fun _ => [OIN cost.length oq2 (some ⟨bq, 0, none⟩, cost.length)]) (fun x => [OI met x]) (fun _ => True) (ds := []) rfl rfl rfl rfl co69 ⟨rfl, trivial⟩ (by decide) rfl (fun _ => rfl) (fun _ => rfl) (fun ρ w1 hb hlie1 => ?_) fun x _ => ?_
              · have hkw : Keep (fun _ => True) w w1 := hb.at (by simp [St.put])
                have hszw := hkw.size
                have hkn : ∀ b, b < w.heap.size → b < w1.heap.size ∧ ¬ ofOwn [OIN cost.length oq (some ⟨bq, 0, none⟩, cost.length)] b := fun b hlt => ⟨by omega, fun ⟨i9, o9, g1, g2⟩ => by
                  have g3 : i9 = 0 := by have := (List.getElem?_eq_some_iff.1 g1).1; simp at this; exact this
                  subst g3
                  simp only [List.getElem?_cons_zero, Option.some.injEq] at g1
                  subst g1
                  have := own_new (k := 9) (o := OIN cost.length oq (some ⟨bq, 0, none⟩, cost.length)) (b := b) hb (by simp [St.put] : ((fun _ => True), w) ∈ _) rfl g2
                  omega⟩
                have h9 := finder1_spec (can := (backF from_ (exF cost rows cols used))) (R := m) (n := cost.length) (K := 58) (caps := #[.pointer (some ⟨b2, 0, none⟩), .pointer (some ⟨b4, 0, none⟩)]) co58 (w := w1) (Sc := fun b => b < w1.heap.size ∧ ¬ ofOwn [OIN cost.length oq (some ⟨bq, 0, none⟩, cost.length)] b) (fun b h => h.1)
                  (fun w2 hk2 row k h0 hR hk => by
                    have e1 : ∀ {α : Type} {A9 : Rp α} {ce : List Value} {x9 : α}, A9.rd (fun b => b < w.heap.size) w ce x9 → A9.rd (fun _ => True) w2 ce x9 := fun h => Rp.any (Rp.keep h ((hkw.mono fun _ _ _ => trivial).trans (hk2.mono fun b hb9 _ => hkn b hb9)))
                    refine can58_spec (R := cost.length) (m := m) (from_ := from_) (can := (exF cost rows cols used)) (K := 57) (caps := #[.pointer (some ⟨b3, 0, none⟩), .pointer (some ⟨b0, 0, none⟩), .pointer (some ⟨b1, 0, none⟩)]) co57 (fun w3 hk3 row3 k3 g0 gR gk => ?_) ((box_at (k := 2) hb rfl).frame (hk2.block b2 ⟨own_old (j := 2) hb rfl rfl, other_own (j := 2) (ks := [9]) (own' := [OIN cost.length oq (some ⟨bq, 0, none⟩, cost.length)]) hb ⟨rfl, trivial⟩ rfl (by decide) rfl rfl⟩ (own_old (j := 2) hb rfl rfl))) ((box_at (k := 4) hb rfl).frame (hk2.block b4 ⟨own_old (j := 4) hb rfl rfl, other_own (j := 4) (ks := [9]) (own' := [OIN cost.length oq (some ⟨bq, 0, none⟩, cost.length)]) hb ⟨rfl, trivial⟩ rfl (by decide) rfl rfl⟩ (own_old (j := 4) hb rfl rfl))) (Nat.lt_of_lt_of_le (own_old (j := 2) hb rfl rfl) hk2.size) (Nat.lt_of_lt_of_le (own_old (j := 4) hb rfl rfl) hk2.size) row k h0 hR hk
                    exact can57_spec hw hmn hP (Rp.keep (e1 hl9) hk3) (Rp.keep (e1 hu9) hk3) (Rp.keep (e1 hr9) hk3) (Rp.keep (e1 hc9) hk3) (((box_at (k := 3) hb rfl).frame (hk2.block b3 ⟨own_old (j := 3) hb rfl rfl, other_own (j := 3) (ks := [9]) (own' := [OIN cost.length oq (some ⟨bq, 0, none⟩, cost.length)]) hb ⟨rfl, trivial⟩ rfl (by decide) rfl rfl⟩ (own_old (j := 3) hb rfl rfl))).frame (hk3.block b3 trivial (Nat.lt_of_lt_of_le (own_old (j := 3) hb rfl rfl) hk2.size))) (((box_at (k := 0) hb rfl).frame (hk2.block b0 ⟨own_old (j := 0) hb rfl rfl, other_own (j := 0) (ks := [9]) (own' := [OIN cost.length oq (some ⟨bq, 0, none⟩, cost.length)]) hb ⟨rfl, trivial⟩ rfl (by decide) rfl rfl⟩ (own_old (j := 0) hb rfl rfl))).frame (hk3.block b0 trivial (Nat.lt_of_lt_of_le (own_old (j := 0) hb rfl rfl) hk2.size))) (((box_at (k := 1) hb rfl).frame (hk2.block b1 ⟨own_old (j := 1) hb rfl rfl, other_own (j := 1) (ks := [9]) (own' := [OIN cost.length oq (some ⟨bq, 0, none⟩, cost.length)]) hb ⟨rfl, trivial⟩ rfl (by decide) rfl rfl⟩ (own_old (j := 1) hb rfl rfl))).frame (hk3.block b1 trivial (Nat.lt_of_lt_of_le (own_old (j := 1) hb rfl rfl) hk2.size))) (Nat.lt_of_lt_of_le (Nat.lt_of_lt_of_le (own_old (j := 3) hb rfl rfl) hk2.size) hk3.size) (Nat.lt_of_lt_of_le (Nat.lt_of_lt_of_le (own_old (j := 0) hb rfl rfl) hk2.size) hk3.size) (Nat.lt_of_lt_of_le (Nat.lt_of_lt_of_le (own_old (j := 1) hb rfl rfl) hk2.size) hk3.size) row3 k3 g0 gR gk)
                  (a1 := ⟨y2, 0, none⟩) (a2 := ⟨y3, 0, none⟩) (a3 := ⟨y1, 0, none⟩) (owner := oq) (bo := bq) (co := cost.length) (rows := (m : Int)) (row := (j : Int)) (box_at (k := 11) hb rfl) (box_at (k := 12) hb rfl) (box_at (k := 10) hb rfl)
                  ⟨own_old (j := 11) hb rfl rfl, other_own (j := 11) (ks := [9]) (own' := [OIN cost.length oq (some ⟨bq, 0, none⟩, cost.length)]) hb ⟨rfl, trivial⟩ rfl (by decide) rfl rfl⟩ ⟨own_old (j := 12) hb rfl rfl, other_own (j := 12) (ks := [9]) (own' := [OIN cost.length oq (some ⟨bq, 0, none⟩, cost.length)]) hb ⟨rfl, trivial⟩ rfl (by decide) rfl rfl⟩ ⟨own_old (j := 10) hb rfl rfl, other_own (j := 10) (ks := [9]) (own' := [OIN cost.length oq (some ⟨bq, 0, none⟩, cost.length)]) hb ⟨rfl, trivial⟩ rfl (by decide) rfl rfl⟩
                  (fun b h => h.2) (by omega) (by omega) (by omega) (by omega) hI2.len hIlt hlie1
                rw [htop] at h9
                exact Calls.mono h9 fun e w2 ⟨v, he, hk, x, h1, h2⟩ => ⟨v, he, hk, x, h1, trivial, h2⟩
              obtain ⟨p4, c4⟩ := x
              refine WO.ownIs ([boxO 36 b0 [.slice p0 cost.length c], boxO 69 b1 [.slice pr cost.length cr, .slice pc m cc], boxO 3 b2 [.int .i64 (from_ : Int)], boxO 71 b3 [.slice pu m cu], boxO 88 b4 [.func (.func 57) #[] #[.pointer (some ⟨b3, 0, none⟩), .pointer (some ⟨b0, 0, none⟩), .pointer (some ⟨b1, 0, none⟩)]], OIN m ow (some ⟨bo, 0, none⟩, m), boxO 3 x1 [.int .i64 (cost.length : Int)], boxO 27 x2 [.slice (some ⟨bo, 0, none⟩) m m], boxO 88 x3 [.func (.func 57) #[] #[.pointer (some ⟨b3, 0, none⟩), .pointer (some ⟨b0, 0, none⟩), .pointer (some ⟨b1, 0, none⟩)]], OIN cost.length oq2 (some ⟨bq, 0, none⟩, cost.length), boxO 3 y1 [.int .i64 (m : Int)], boxO 27 y2 [.slice (some ⟨bq, 0, none⟩) cost.length cost.length], boxO 88 y3 [.func (.func 58) #[] #[.pointer (some ⟨b2, 0, none⟩), .pointer (some ⟨b4, 0, none⟩)]]] ++ [OI met (p4, c4)]) rfl ?_
              simp only [List.cons_append, List.nil_append]
              refine WO.go 5 (ds := []) rfl ?_
              simp only [sx, ty, q1, q2, q5, q6, q7, q8, q9, qa, qb, reduceIte, sy, q3, q4]
              with_reducible refine WO.nil ?_
              refine hK21 _ ?_; clear hK21
              refine W.pure (ds := []) rfl fun K22 hK22 => ?_
              simp only [sx, ty, q1, q2, q5, q6, q7, q8, q9, qa, qb, reduceIte, sy, q3, q4]; with_reducible refine hK22 _ ?_; clear hK22
              refine W.cond rfl rfl (fun hc => ?_) (fun hc => ?_)
              · skip
                have hok : ok = false := by simpa using hc
                subst hok
                refine W.pure (ds := []) rfl fun K23 hK23 => ?_
                simp only [sx, ty, q1, q2, q5, q6, q7, q8, q9, qa, qb, reduceIte, sy, q3, q4]; with_reducible refine hK23 _ ?_; clear hK23
                refine W.ret ⟨by simp, _, rfl, fun ρ w1 hb => ?_⟩
                refine ⟨false, by simp only [den], ?_⟩
                simp only [Bool.false_eq_true, false_iff]
                exact fun ⟨_, ⟨f9, hf9⟩⟩ => hI2.none (colsD_at _) (by rw [htop]) (fun x h0 hx => by
                  rcases hx with hx | rfl
                  · simp only [colsD, Bool.and_eq_true, decide_eq_true_eq] at hx ⊢; exact ⟨by omega, hx.2⟩
                  · simp [colsD, hk0, hk1]; omega) f9 hf9
              · skip
                have hok : ok = true := by simpa using hc
                subst hok
                refine W.skip (hK17 _ ?_)
                refine W.region ?_
                refine WO.go 2 (ds := []) rfl ?_
                simp only [sx, ty, q1, q2, q5, q6, q7, q8, q9, qa, qb, reduceIte, sy, q3, q4]
                with_reducible refine WO.nil ?_
                refine ⟨(j + 1, oq2), ⟨hlt, by have h9 := hI2.next (by rw [htop]) (colsD_at _) (colsD_next hk1 hk0); rw [htop] at h9; exact h9⟩, by first | omega | (simp only; omega), rfl, by simp [getE, bnd, keepE, wrap_succ (show j + 1 ≤ 9223372036854775807 by omega)], ⟨[OI met (p4, c4)], by simp⟩, by simp [Own.bnd, bndL, bnd, OIN, boxO], by simp⟩
        · skip
          have hjm2 : j = m := Nat.le_antisymm hjm (by simpa using hc)
          subst j
          refine W.exit (hK13 _ ?_)
          refine W.pure (ds := []) rfl fun K24 hK24 => ?_
          simp only [sx, ty, q1, q2, q5, q6, q7, q8, q9, qa, qb, reduceIte, sy, q3, q4]; with_reducible refine hK24 _ ?_; clear hK24
          refine W.ret ⟨by simp, _, rfl, fun ρ w1 hb => ?_⟩
          exact ⟨true, by simp only [den], ⟨fun _ => ⟨hM1.cov, hI2.cov⟩, fun _ => rfl⟩⟩
end Go.Proofs.YtolmeekbjonbcaaGreat
set_option linter.unusedVariables false
namespace Go.Proofs.YtolmeekbjonbcaaGreat
open Go Go.SX
section
variable {can : Int → Nat → Bool} {m R : Nat} {A B : Int → Bool} {f g : Int → Nat}
/-- columns whose row is taken from g -/
inductive TT (A B : Int → Bool) (f g : Int → Nat) : Nat → Prop where
  | base (k : Nat) : B (k : Int) = true → (∀ x, 0 ≤ x → A x = true → f x ≠ k) → TT A B f g k
  | step (k : Nat) : TT A B f g k → B ((f ((g (k : Int) : Nat) : Int) : Nat) : Int) = true → TT A B f g (f ((g (k : Int) : Nat) : Int))
theorem TT.inB {k : Nat} (h : TT A B f g k) : B (k : Int) = true := by cases h <;> assumption
open Classical in
noncomputable def joinF (A B : Int → Bool) (f g : Int → Nat) (x : Int) : Nat := if h : ∃ k : Nat, TT A B f g k ∧ x = ((g (k : Int) : Nat) : Int) then h.choose else f x
theorem joinF_or (x : Int) : (∃ k : Nat, TT A B f g k ∧ x = ((g (k : Int) : Nat) : Int) ∧ joinF A B f g x = k) ∨ ((∀ k : Nat, TT A B f g k → x ≠ ((g (k : Int) : Nat) : Int)) ∧ joinF A B f g x = f x) := by
  unfold joinF
  by_cases h : ∃ k : Nat, TT A B f g k ∧ x = ((g (k : Int) : Nat) : Int)
  · rw [dif_pos h]
    exact .inl ⟨h.choose, h.choose_spec.1, h.choose_spec.2, rfl⟩
  · rw [dif_neg h]
    exact .inr ⟨fun k h1 h2 => h ⟨k, h1, h2⟩, rfl⟩
/-- one matching for both -/
theorem join_cov (hB : ∀ k, B k = true → k < (m : Int)) (hf : Cov can m A f) (hg : ∀ x y : Int, 0 ≤ x → 0 ≤ y → B x = true → B y = true → g x = g y → x = y)
    (hgc : ∀ k : Nat, B (k : Int) = true → can ((g (k : Int) : Nat) : Int) k = true ∧ A ((g (k : Int) : Nat) : Int) = true) :
    Cov can m A (joinF A B f g) ∧ ∀ k : Nat, B (k : Int) = true → ∃ x, 0 ≤ x ∧ A x = true ∧ joinF A B f g x = k := by
  have hmix : ∀ (x y : Int) (k : Nat), 0 ≤ y → A y = true → TT A B f g k → (∀ k : Nat, TT A B f g k → y ≠ ((g (k : Int) : Nat) : Int)) → f y = k → False := fun x y k h0 hy hT hn he => by
    cases hT with
    | base _ hk hno => exact hno y h0 hy he
    | step k' hT' hk =>
      have h1 := (hgc k' hT'.inB).2
      have := hf.inj y _ h0 (by omega) hy h1 he
      exact hn k' hT' this
  refine ⟨⟨fun x h0 hx => ?_, fun x h0 hx => ?_, fun x y h0 h0' hx hy he => ?_⟩, fun k hk => ?_⟩
  · rcases joinF_or (A := A) (B := B) (f := f) (g := g) x with ⟨k, h1, h2, h3⟩ | ⟨h1, h2⟩
    · rw [h3]; have := hB k h1.inB; omega
    · rw [h2]; exact hf.lt x h0 hx
  · rcases joinF_or (A := A) (B := B) (f := f) (g := g) x with ⟨k, h1, h2, h3⟩ | ⟨h1, h2⟩
    · rw [h3, h2]; exact (hgc k h1.inB).1
    · rw [h2]; exact hf.ok x h0 hx
  · rcases joinF_or (A := A) (B := B) (f := f) (g := g) x with ⟨k, h1, h2, h3⟩ | ⟨h1, h2⟩
    · rcases joinF_or (A := A) (B := B) (f := f) (g := g) y with ⟨k', g1, g2, g3⟩ | ⟨g1, g2⟩
      · rw [h3, g3] at he; subst he; rw [h2, g2]
      · rw [h3, g2] at he; exact (hmix x y k h0' hy h1 g1 he.symm).elim
    · rcases joinF_or (A := A) (B := B) (f := f) (g := g) y with ⟨k', g1, g2, g3⟩ | ⟨g1, g2⟩
      · rw [h2, g3] at he; exact (hmix y x k' h0 hx g1 h1 he).elim
      · rw [h2, g2] at he; exact hf.inj x y h0 h0' hx hy he
  · by_cases hT : TT A B f g k
    · refine ⟨((g (k : Int) : Nat) : Int), by omega, (hgc k hk).2, ?_⟩
      rcases joinF_or (A := A) (B := B) (f := f) (g := g) ((g (k : Int) : Nat) : Int) with ⟨k', h1, h2, h3⟩ | ⟨h1, h2⟩
      · have := hg (k : Int) (k' : Int) (by omega) (by omega) hk h1.inB (by omega)
        rw [h3]; omega
      · exact absurd rfl (h1 k hT)
    · have : ∃ x, 0 ≤ x ∧ A x = true ∧ f x = k := by
        apply Classical.byContradiction
        intro hno
        exact hT (.base k hk fun x h0 hx he => hno ⟨x, h0, hx, he⟩)
      obtain ⟨x, h0, hx, he⟩ := this
      refine ⟨x, h0, hx, ?_⟩
      rcases joinF_or (A := A) (B := B) (f := f) (g := g) x with ⟨k', h1, h2, h3⟩ | ⟨h1, h2⟩
      · refine absurd ?_ hT
        have := TT.step k' h1 (by rw [← h2, he]; exact hk)
        rwa [← h2, he] at this
      · rw [h2, he]
end
section
variable {cost : List (List Int)} {m : Nat} {rows cols : Nat → Int} {used : Nat → Bool} {from_ : Nat}
theorem rowsD_iff {from_ R : Nat} {x : Int} : rowsD from_ R x = true ↔ (from_ : Int) ≤ x ∧ x < R := by simp [rowsD]
theorem colsD_iff {j k : Nat} : colsD used cols j (k : Int) = true ↔ k < j ∧ used k = false ∧ cols k ≠ 0 := by simp [colsD]
theorem backF_iff {can : Int → Nat → Bool} {k : Int} {r : Nat} : backF from_ can k r = true ↔ from_ ≤ r ∧ can (r : Int) k.toNat = true := by simp [backF]
theorem exF_iff {i : Nat} {k : Nat} : exF cost rows cols used (i : Int) k = true ↔ used k = false ∧ 0 ≤ cF cost i k ∧ rows i + cols k = cF cost i k := by simp [exF]
/-- one matching for the rows from a place on and the columns that must be reached -/
theorem ReachP.join (h : ReachP cost m rows cols used from_) : ∃ f, Cov (exF cost rows cols used) m (rowsD from_ cost.length) f ∧ ∀ k : Nat, colsD used cols m (k : Int) = true → ∃ x, 0 ≤ x ∧ rowsD from_ cost.length x = true ∧ f x = k := by
  obtain ⟨⟨f, hf⟩, g, hg⟩ := h
  exact ⟨_, join_cov (B := colsD used cols m) (g := g) (fun k hk => by simp [colsD] at hk; omega) hf hg.inj fun k hk => by
    have h1 := backF_iff.1 (hg.ok (k : Int) (by omega) hk)
    have h2 := hg.lt (k : Int) (by omega) hk
    rw [Int.toNat_natCast] at h1
    exact ⟨h1.2, rowsD_iff.2 ⟨by omega, by omega⟩⟩⟩
def setB (used : Nat → Bool) (k : Nat) : Nat → Bool := fun x => decide (x = k) || used x
/-- a row gets a column, and the rest can still be reached -/
theorem ReachP.step (h : ReachP cost m rows cols used from_) (hlt : from_ < cost.length) : ∃ k, k < m ∧ exF cost rows cols used (from_ : Int) k = true ∧ ReachP cost m rows cols (setB used k) (from_ + 1) := by
  obtain ⟨f, hf, hc⟩ := h.join
  have h0 : rowsD from_ cost.length (from_ : Int) = true := rowsD_iff.2 ⟨by omega, by omega⟩
  have hsub : ∀ x, rowsD (from_ + 1) cost.length x = true → rowsD from_ cost.length x = true ∧ x ≠ (from_ : Int) := fun x hx => by
    have := rowsD_iff.1 hx
    exact ⟨rowsD_iff.2 ⟨by omega, this.2⟩, by omega⟩
  have hex : ∀ x, 0 ≤ x → rowsD (from_ + 1) cost.length x = true → exF cost rows cols (setB used (f (from_ : Int))) x (f x) = true := fun x hx0 hx => by
    have h1 := hf.ok x hx0 (hsub x hx).1
    have h2 : f x ≠ f (from_ : Int) := fun he => (hsub x hx).2 (hf.inj _ _ hx0 (by omega) (hsub x hx).1 h0 he)
    simp only [exF, setB, h2, decide_false, Bool.false_or] at h1 ⊢
    exact h1
  refine ⟨f (from_ : Int), hf.lt _ (by omega) h0, hf.ok _ (by omega) h0, ⟨f, fun x hx0 hx => hf.lt x hx0 (hsub x hx).1, hex, fun x y h1 h2 h3 h4 he => hf.inj x y h1 h2 (hsub x h3).1 (hsub y h4).1 he⟩, ?_⟩
  have hpre : ∀ k : Int, 0 ≤ k → colsD (setB used (f (from_ : Int))) cols m k = true → ∃ x, 0 ≤ x ∧ rowsD (from_ + 1) cost.length x = true ∧ f x = k.toNat := fun k hk0 hk => by
    obtain ⟨k, rfl⟩ := Int.eq_ofNat_of_zero_le hk0
    obtain ⟨h1, h2, h3⟩ := colsD_iff.1 hk
    simp only [setB, Bool.or_eq_false_iff, decide_eq_false_iff_not] at h2
    obtain ⟨x, g0, g1, g2⟩ := hc k (colsD_iff.2 ⟨h1, h2.2, h3⟩)
    refine ⟨x, g0, rowsD_iff.2 ?_, by rw [g2, Int.toNat_natCast]⟩
    have h4 := rowsD_iff.1 g1
    have h5 : x ≠ (from_ : Int) := fun he => h2.1 (by rw [← g2, he])
    omega
  have hch : ∀ k : Int, ∃ x : Nat, 0 ≤ k → colsD (setB used (f (from_ : Int))) cols m k = true → rowsD (from_ + 1) cost.length (x : Int) = true ∧ f (x : Int) = k.toNat := fun k => by
    by_cases hk : 0 ≤ k ∧ colsD (setB used (f (from_ : Int))) cols m k = true
    · obtain ⟨x, g0, g1, g2⟩ := hpre k hk.1 hk.2
      exact ⟨x.toNat, fun _ _ => by rw [Int.toNat_of_nonneg g0]; exact ⟨g1, g2⟩⟩
    · exact ⟨0, fun h1 h2 => absurd ⟨h1, h2⟩ hk⟩
  refine ⟨fun k => (hch k).choose, fun k h1 h2 => ?_, fun k h1 h2 => ?_, fun k k' h1 h1' h2 h2' he => ?_⟩
  · have := rowsD_iff.1 ((hch k).choose_spec h1 h2).1
    show (hch k).choose < _
    omega
  · obtain ⟨g1, g2⟩ := (hch k).choose_spec h1 h2
    refine backF_iff.2 ⟨by have := rowsD_iff.1 g1; show _ ≤ (hch k).choose; omega, ?_⟩
    have h9 := hex _ (by omega) g1
    rw [g2] at h9; exact h9
  · have g := ((hch k).choose_spec h1 h2).2
    have g' := ((hch k').choose_spec h1' h2').2
    have he : (hch k).choose = (hch k').choose := he
    rw [he, g'] at g
    omega
/-- at the end: columns that nobody has cost nothing -/
theorem ReachP.last (h : ReachP cost m rows cols used cost.length) : ∀ k, k < m → used k = false → cols k = 0 := fun k hk hu => by
  obtain ⟨_, g, hg⟩ := h
  apply Classical.byContradiction
  intro hc
  have hB : colsD used cols m (k : Int) = true := colsD_iff.2 ⟨hk, hu, hc⟩
  have h1 := hg.lt _ (by omega) hB
  have h2 := (backF_iff.1 (hg.ok _ (by omega) hB)).1
  omega
theorem ReachP.start {owner : Nat → Int} (h : RInv (cF cost) cost.length m cost.length rows cols owner) : ReachP cost m rows cols (fun _ => false) 0 := by
  have hon : ∀ i : Nat, ∃ k : Nat, i < cost.length → k < m ∧ owner k = (i : Int) := fun i => by
    by_cases hi : i < cost.length
    · obtain ⟨k, h1, h2⟩ := h.onto i hi
      exact ⟨k, fun _ => ⟨h1, h2⟩⟩
    · exact ⟨0, fun h => absurd h hi⟩
  obtain ⟨F, hF⟩ : ∃ F : Nat → Nat, ∀ i, i < cost.length → F i < m ∧ owner (F i) = (i : Int) := ⟨fun i => (hon i).choose, fun i => (hon i).choose_spec⟩
  have hx : ∀ k i : Nat, k < m → owner k = (i : Int) → exF cost rows cols (fun _ => false) (i : Int) k = true := fun k i hk ho => by
    obtain ⟨j, h1, h2, h3, h4⟩ := h.own k hk (by omega)
    obtain rfl : i = j := by omega
    exact exF_iff.2 ⟨rfl, h3, h4⟩
  have hoc : ∀ k : Nat, colsD (fun _ => false) cols m (k : Int) = true → k < m ∧ ∃ i : Nat, i < cost.length ∧ owner k = (i : Int) := fun k hk => by
    obtain ⟨h1, _, h3⟩ := colsD_iff.1 hk
    have : 0 ≤ owner k := by
      apply Classical.byContradiction
      intro hn
      exact h3 (h.free k h1 (by omega))
    obtain ⟨i, g1, g2, _⟩ := h.own k h1 this
    exact ⟨h1, i, g1, g2⟩
  have hr : ∀ x : Int, 0 ≤ x → rowsD 0 cost.length x = true → F x.toNat < m ∧ owner (F x.toNat) = x := fun x h0 hx => by
    have := hF x.toNat (by have := rowsD_iff.1 hx; omega)
    rwa [Int.toNat_of_nonneg h0] at this
  refine ⟨⟨fun x => F x.toNat, fun x h0 h1 => (hr x h0 h1).1, fun x h0 h1 => ?_, fun x y h0 h0' h1 h1' he => ?_⟩, fun k => (owner k.toNat).toNat, fun k h0 hk => ?_, fun k h0 hk => ?_, fun k k' h0 h0' hk hk' he => ?_⟩
  · obtain ⟨g1, g2⟩ := hr x h0 h1
    have := hx _ x.toNat g1 (by rw [g2, Int.toNat_of_nonneg h0])
    rwa [Int.toNat_of_nonneg h0] at this
  · have g := (hr x h0 h1).2
    have g' := (hr y h0' h1').2
    have he : F x.toNat = F y.toNat := he
    rw [he, g'] at g
    exact g.symm
  · obtain ⟨k, rfl⟩ := Int.eq_ofNat_of_zero_le h0
    obtain ⟨g1, i, g2, g3⟩ := hoc k hk
    simp only [Int.toNat_natCast, g3]; exact g2
  · obtain ⟨k, rfl⟩ := Int.eq_ofNat_of_zero_le h0
    obtain ⟨g1, i, g2, g3⟩ := hoc k hk
    refine backF_iff.2 ⟨Nat.zero_le _, ?_⟩
    simp only [Int.toNat_natCast, g3]
    exact hx k i g1 g3
  · obtain ⟨k, rfl⟩ := Int.eq_ofNat_of_zero_le h0
    obtain ⟨k', rfl⟩ := Int.eq_ofNat_of_zero_le h0'
    obtain ⟨g1, i, g2, g3⟩ := hoc k hk
    obtain ⟨g1', i', g2', g3'⟩ := hoc k' hk'
    simp only [Int.toNat_natCast, g3, g3'] at he
    have := h.inj k k' g1 g1' (by omega) (by omega)
    omega
end
end Go.Proofs.YtolmeekbjonbcaaGreat
set_option linter.unusedVariables false
set_option linter.unusedSimpArgs false
namespace Go.SX
open Go Go.RowKit
section
variable {P : Program} {ops : Array Oper} {Q : Exit → St → Prop} {σ : St} {o : Oper} {rest : List Oper} {ds : List (Option Nat)}
theorem W.label {r : Option Nat} {l : Nat} (h : Q .normal σ) : WR r P (.label l) Q σ := fun ρ _ _ hs => wpIn_label ⟨ρ, σ, hs, h⟩
theorem W.scope {c : Code} (hQ : ∀ l σ, ¬ Q (.goto l) σ) (h : W P c Q σ) : W P (.scope c) Q σ := fun ρ a w hs =>
  of_wp (wp_scope_straight (wp_mono (wp_of (h ρ a w hs)) fun e a w ⟨ρ', σ', h1, h2⟩ => by
    cases e with
    | goto l => exact hQ l σ' h2
    | normal => exact ⟨ρ', σ', h1, h2⟩
    | exit id => exact ⟨ρ', σ', h1, h2⟩
    | ret => exact ⟨ρ', σ', h1, h2⟩
    | panic c => exact ⟨ρ', σ', h1, h2⟩
    | outgrown => exact ⟨ρ', σ', h1, h2⟩))
/-- copy(x, y), both the call's own and as long as each other, of one-cell elements -/
theorem WO.copy {x y : Operand} {t e T T' : TypeId} {k j b b' n c c' by' : Nat} {zs xs ys : List Value} (hds : dsOk ds ops.toList = true) (hg : gd ds σ o.guard = some true) (hd : dOk σ o.dst = true)
    (hop : o.op = .call ⟨.builtin .copy, #[x, y], #[t, t]⟩) (hk : nth σ.own k = some (.slice T 1 (.slice (some ⟨b, 0, none⟩) n c) n xs)) (hj : nth σ.own j = some (.slice T' 1 (.slice (some ⟨b', 0, none⟩) n c') n ys))
    (hx : ev σ x = some (.val (.slice (some ⟨b, 0, none⟩) n c))) (hy : ev σ y = some (.val (.slice (some ⟨b', 0, none⟩) n c'))) (he : elemK P t = some (e, 1, by', zs)) (h1 : ∀ u, u ∈ ys → u.oneCell' = true) (hn : ys.length = n)
    (h : WO P ops Q rest ((setOwn σ k (.slice T 1 (.slice (some ⟨b, 0, none⟩) n c) n ys)).put o.dst (.val (goInt n)))) : WO P ops Q (o :: rest) σ :=
  WO.one hds hg fun ρ a w hs => by
    have hat := own_at hs.base hj
    rw [nth_eq] at hk
    obtain ⟨hu, i, z, hi, hz, hsz, hby, hzs, hpos, hzl⟩ := elemK_spec he
    have hown := hs.base.own k _ hk ρ (Agree.refl _ _)
    simp only [Own.holds] at hown
    obtain ⟨hxl, hown⟩ := hown
    rcases hown with ⟨hv, hn0⟩ | ⟨g, cap, cur, hv, hbg, hcell, hnc, hcm, hcs, htake⟩
    · cases hv
    · simp only [Value.slice.injEq, Option.some.injEq, Addr.mk.injEq] at hv
      obtain ⟨⟨rfl, _⟩, _, rfl⟩ := hv
      have hst := run_storeCells_at P b 0 T ys 0 cur w hcell (by omega) h1
      have hrun : (Builtin.copy_ #[t, t] o.type #[.slice (some ⟨b, 0, none⟩) n c, .slice (some ⟨b', 0, none⟩) n c']).run P w = .ok (goInt n) (w.setRow b (cur.toList.take 0 ++ ys ++ cur.toList.drop (0 + ys.length)).toArray) := by
        have hfc := run_loadCells_list (P := P) w ⟨b', 0, none⟩ ys hat
        rw [hn] at hfc
        simp [Builtin.copy_, run_underlying hu, sizeOf, typeInfo, hi, hsz, Builtin.lenOf, Builtin.firstCells, hfc]
        have hst' : (storeCells { block := b, off := 0 } ys).run P w = .ok () (w.setRow b (ys ++ cur.toList.drop ys.length).toArray) := by simpa using hst
        rw [hst']
        rfl
      have hgr : w.grownBy (w.setRow b (cur.toList.take 0 ++ ys ++ cur.toList.drop (0 + ys.length)).toArray) (some b) := ⟨rfl, rfl, rfl, by simp [World.setRow], fun j hj hne => setRow_other w b j _ fun he => hne (by rw [he])⟩
      refine ⟨ρ, _, goInt n, _, .inl ?_, Sat.put (hs.turn (o' := .slice T 1 (.slice (some ⟨b, 0, none⟩) n c) n ys) hk (fun _ _ h => by cases h) hgr ?_ (fun b' hb => .inl hb)) _ _ _ ?_ (fun _ _ => rfl), h⟩
      · unfold execOp
        rw [hop]
        simp only [Sem.run_bind, resolve, List.map_toArray, List.map_cons, List.map_nil, Sem.run_pure, Result.andThen_ok, invoke, builtin]
        rw [hs.ev hx ρ (Agree.refl _ _), hs.ev hy ρ (Agree.refl _ _)]
        simp only [den]
        rw [hrun]
        rfl
      · refine ⟨by simpa using hn, .inr ⟨b, c, _, rfl, hbg, setRow_heap w b cur _ T _ hcell, hnc, hcm, ?_, ?_⟩⟩
        · simp; omega
        · simp [hn, List.take_append]
      · intro j hj; exact dOk_lt (σ := setOwn σ k _) (by rw [dOk_setOwn]; exact hd) j hj
/-- own blocks in another order, some dropped: what the slots name stays -/
def stayS (π : List Nat) (m : Nat) : SV → Bool
  | .val _ => true
  | .loc k _ => decide (k < m) && decide (π.getD k 0 = k)
  | _ => false
theorem Sub.own (π : List Nat) (own' : List Own) (he : σ.env.all (fun p => stayS π own'.length p.2) = true) (hf : own'.all flatO = true) (hp : placed σ.own π own') (hnd : π.Nodup) : Sub σ ⟨σ.n, σ.env, own', σ.snaps, σ.dfs⟩ :=
  Sub.permG (τ := ⟨σ.n, σ.env, own', σ.snaps, σ.dfs⟩) π rfl rfl (fun _ h => h) (fun i s h => by
    have h1 := List.all_eq_true.1 he _ (getE_in h)
    cases s with
    | val x => exact ⟨rfl, h⟩
    | loc k off =>
      simp only [stayS, Bool.and_eq_true, decide_eq_true_eq] at h1
      exact ⟨decide_eq_true h1.1, by simp only [renS, h1.2]; exact h⟩
    | lsl => cases h1
    | agg => cases h1
    | tup => cases h1
    | fn => cases h1) hf hp hnd
theorem W.ownPerm {rO : Option Nat} {c : Code} (π : List Nat) (own' : List Own) (he : σ.env.all (fun p => stayS π own'.length p.2) = true) (hf : own'.all flatO = true) (hp : placed σ.own π own') (hnd : π.Nodup)
    (h : WR rO P c Q ⟨σ.n, σ.env, own', σ.snaps, σ.dfs⟩) : WR rO P c Q σ := W.sub (Sub.own π own' he hf hp hnd) h
end
end Go.SX
set_option linter.unusedVariables false
set_option linter.unusedSimpArgs false
set_option maxHeartbeats 1000000
namespace Go.Proofs.YtolmeekbjonbcaaGreat
open Int renaming reduceEq → q1, reduceLT → q2, reduceBEq → q3, reduceBNe → q4
open Nat renaming reduceAdd → q5, reduceSub → q6, reduceMul → q7, reduceLT → q8, reduceLeDiff → q9, reduceEqDiff → qa
open List renaming reduceReplicate → qb
open Go Go.SX Go.RowKit
theorem prices_none {S : Nat → Prop} {w : World} {v : Value} {cost : List (List Int)} {n m : Nat} (hl : rRows.rd S w [v] cost) (hw : WfC cost n) (hm : wideF cost n = m) (hno : ∀ f, ¬ Mat (cF cost) cost.length m f) : Gives Tryz.prog 14 #[v] w fun r _ => r = .tuple #[.slice none 0 0, .slice none 0 0, .int .i64 4] :=
  Gives.mono (prices_spec hl hw hm) fun r w' _ h => by
    rcases h with ⟨_, h⟩ | ⟨⟨f, hf⟩, _⟩
    · exact h
    · exact (hno f hf).elim
/-- function 15 -/
theorem best_none {S : Nat → Prop} {w : World} {v : Value} {cost : List (List Int)} {n m : Nat} (hl : rRows.rd S w [v] cost) (hw : WfC cost n) (hm : wideF cost n = m) (hno : ∀ f, ¬ Mat (cF cost) cost.length m f) : Gives Tryz.prog 15 #[v] w fun r _ => r = .tuple #[.slice none 0 0, .int .i64 0, .bool false, .int .i64 0] := by
  obtain ⟨p0, c0, rfl, hc1, hc2⟩ := Rp.slice_val hl
  have hl : (Rp.slice rInts).rd (fun _ => True) w _ cost := Rp.any hl
  refine gives_of [.val (.slice p0 cost.length c0)] 95 [.tmp 2, .tmp 3, .tmp 4, .tmp 5] Tryz.func15 rfl rfl rfl (by simp) rfl rfl ?_
  refine W.pure (ds := []) rfl fun K1 hK1 => ?_
  simp only [sx, ty, q1, q2, q5, q6, q7, q8, q9, qa, qb, reduceIte, sy, q3, q4]; with_reducible refine hK1 _ ?_; clear hK1
  refine W.scope (fun _ _ h => h) ?_
  refine W.pure (ds := []) rfl fun K2 hK2 => ?_
  simp only [sx, ty, q1, q2, q5, q6, q7, q8, q9, qa, qb, reduceIte, sy, q3, q4]; with_reducible refine hK2 _ ?_; clear hK2
  refine W.seqK fun K3 hK3 => W.region ?_
  refine WO.go 1 (ds := []) rfl ?_
  simp only [sx, ty, q1, q2, q5, q6, q7, q8, q9, qa, qb, reduceIte, sy, q3, q4]
  refine WO.call (.tuple #[.slice none 0 0, .slice none 0 0, .int .i64 4]) (ds := []) rfl rfl rfl rfl co14 (fun ρ w1 hb => prices_none (Rp.now hl (hb.first (by simp))) hw hm hno) ?_
  refine WO.go 9 (ds := []) rfl ?_
  simp only [sx, ty, q1, q2, q5, q6, q7, q8, q9, qa, qb, reduceIte, sy, q3, q4]
  with_reducible refine WO.nil ?_
  refine hK3 _ ?_; clear hK3
  refine W.seqK fun K4 hK4 => ?_
  refine W.pure (ds := []) rfl fun K5 hK5 => ?_
  simp only [sx, ty, q1, q2, q5, q6, q7, q8, q9, qa, qb, reduceIte, sy, q3, q4]; with_reducible refine hK5 _ ?_; clear hK5
  refine W.block ?_
  refine W.pure (ds := []) rfl fun K6 hK6 => ?_
  simp only [sx, ty, q1, q2, q5, q6, q7, q8, q9, qa, qb, reduceIte, sy, q3, q4]; with_reducible refine hK6 _ ?_; clear hK6
  refine W.cond rfl rfl (fun hc => ?_) (fun hc => ?_)
  · skip
    simp at hc
  · skip
    refine W.pure (ds := []) rfl fun K7 hK7 => ?_
    simp only [sx, ty, q1, q2, q5, q6, q7, q8, q9, qa, qb, reduceIte, sy, q3, q4]; with_reducible refine hK7 _ ?_; clear hK7
    refine W.cond rfl rfl (fun hc => ?_) (fun hc => ?_)
    · skip
      refine W.pure (ds := []) rfl fun K8 hK8 => ?_
      simp only [sx, ty, q1, q2, q5, q6, q7, q8, q9, qa, qb, reduceIte, sy, q3, q4]; with_reducible refine hK8 _ ?_; clear hK8
      refine W.ret ⟨by simp, _, rfl, fun ρ w1 hb => ?_⟩
      rfl
    · skip
      refine W.pure (ds := []) rfl fun K9 hK9 => ?_
      simp only [sx, ty, q1, q2, q5, q6, q7, q8, q9, qa, qb, reduceIte, sy, q3, q4]; with_reducible refine hK9 _ ?_; clear hK9
      refine W.ret ⟨by simp, _, rfl, fun ρ w1 hb => ?_⟩
      exact absurd hc (by simp)
end Go.Proofs.YtolmeekbjonbcaaGreat
set_option linter.unusedVariables false
namespace Go.Proofs.YtolmeekbjonbcaaGreat
open Go Go.SX
section
variable {cost : List (List Int)} {m : Nat} {rows cols : Nat → Int}
/-- the columns of a list -/
def usedB (l : List Nat) : Nat → Bool := fun x => decide (x ∈ l)
/-- the first i rows have columns -/
structure BInv (cost : List (List Int)) (m : Nat) (rows cols : Nat → Int) (i : Nat) (at' : List Nat) (used : Nat → Bool) : Prop where
  len : at'.length = i
  le : i ≤ cost.length
  reach : ReachP cost m rows cols used i
  used : ∀ k, used k = decide (k ∈ at')
  nd : at'.Nodup
  ex : ∀ (j k : Nat), at'[j]? = some k → k < m ∧ 0 ≤ cF cost j k ∧ rows j + cols k = cF cost j k
  lex : ∀ (j k : Nat), at'[j]? = some k → ∀ k', k' < k → exF cost rows cols (usedB (at'.take j)) (j : Int) k' = true → ¬ ReachP cost m rows cols (setB (usedB (at'.take j)) k') (j + 1)
theorem BInv.start {owner : Nat → Int} (h : RInv (cF cost) cost.length m cost.length rows cols owner) : BInv cost m rows cols 0 [] (fun _ => false) :=
  ⟨rfl, Nat.zero_le _, ReachP.start h, fun k => by simp, List.nodup_nil, fun j k h => by simp at h, fun j k h => by simp at h⟩
theorem BInv.next {i k : Nat} {at' : List Nat} {used : Nat → Bool} (h : BInv cost m rows cols i at' used) (hi : i < cost.length) (hk : k < m) (he : exF cost rows cols used (i : Int) k = true) (hr : ReachP cost m rows cols (setB used k) (i + 1)) (hno : ∀ k', k' < k → exF cost rows cols used (i : Int) k' = true → ¬ ReachP cost m rows cols (setB used k') (i + 1)) : BInv cost m rows cols (i + 1) (at' ++ [k]) (setB used k) := by
  obtain ⟨h1, h2, h3⟩ := exF_iff.1 he
  have hn : k ∉ at' := fun hm => by rw [h.used k, decide_eq_true hm] at h1; cases h1
  refine ⟨by simp [h.len], hi, hr, fun x => ?_, ?_, fun j x hx => ?_, fun j x hx => ?_⟩
  · simp only [setB, h.used, List.mem_append, List.mem_singleton, Bool.decide_or]
    exact Bool.or_comm _ _
  · rw [List.nodup_append]
    exact ⟨h.nd, by simp, fun a ha b hb => by rw [List.mem_singleton] at hb; subst hb; exact fun he => hn (he ▸ ha)⟩
  · by_cases hj : j < at'.length
    · rw [List.getElem?_append_left hj] at hx; exact h.ex j x hx
    · have hjl := (List.getElem?_eq_some_iff.1 hx).1
      simp only [List.length_append, List.length_singleton] at hjl
      have : j = at'.length := by omega
      subst this
      rw [List.getElem?_append_right (Nat.le_refl _), Nat.sub_self] at hx
      simp only [List.getElem?_cons_zero, Option.some.injEq] at hx
      subst hx
      rw [h.len]; exact ⟨hk, h2, h3⟩
  · by_cases hj : j < at'.length
    · rw [List.getElem?_append_left hj] at hx
      rw [List.take_append_of_le_length (Nat.le_of_lt hj)]
      exact h.lex j x hx
    · have hjl := (List.getElem?_eq_some_iff.1 hx).1
      simp only [List.length_append, List.length_singleton] at hjl
      have hje : j = at'.length := by omega
      subst hje
      rw [List.getElem?_append_right (Nat.le_refl _), Nat.sub_self] at hx
      simp only [List.getElem?_cons_zero, Option.some.injEq] at hx
      subst hx
      rw [List.take_left' rfl]
      obtain rfl : used = usedB at' := funext fun y => h.used y
      rw [h.len]
      exact hno
/-- at the end -/
theorem BInv.done {at' : List Nat} {used : Nat → Bool} (h : BInv cost m rows cols cost.length at' used) : ∀ k, k < m → k ∉ at' → cols k = 0 := fun k hk hn =>
  h.reach.last k hk (by rw [h.used k]; exact decide_eq_false hn)
end
end Go.Proofs.YtolmeekbjonbcaaGreat
set_option linter.unusedVariables false
set_option linter.unusedSimpArgs false
set_option maxHeartbeats 1000000
namespace Go.Proofs.YtolmeekbjonbcaaGreat
open Int renaming reduceEq → q1, reduceLT → q2, reduceBEq → q3, reduceBNe → q4
open Nat renaming reduceAdd → q5, reduceSub → q6, reduceMul → q7, reduceLT → q8, reduceLeDiff → q9, reduceEqDiff → qa
open List renaming reduceReplicate → qb
open Go Go.SX Go.RowKit
def totF (cost : List (List Int)) (at' : List Nat) : Int := ((List.range at'.length).map fun j => cF cost j (at'.getD j 0)).sum
theorem totF_next {cost : List (List Int)} {at' : List Nat} {i k : Nat} {z : Int} (hl : at'.length = i) (hz : cF cost i k = z) : totF cost (at' ++ [k]) = totF cost at' + z := by
  unfold totF
  rw [List.length_append, List.length_singleton, List.range_succ, List.map_append, List.sum_append]
  congr 1
  · refine congrArg List.sum (List.map_congr_left fun j hj => ?_)
    rw [List.mem_range] at hj
    simp [List.getD_eq_getElem?_getD, List.getElem?_append_left hj]
  · simp [List.getD_eq_getElem?_getD, hl, hz]
theorem bools_read {S : Nat → Prop} {w : World} (xs : List Bool) : ∀ i y, xs[i]? = some y → Rp.bool.rd S w (((xs.map Value.bool).drop (i * Rp.bool.sz)).take Rp.bool.sz) y := fun i y hy => by
  have h : i < xs.length := (List.getElem?_eq_some_iff.1 hy).1
  show ((xs.map Value.bool).drop (i * 1)).take 1 = [.bool y]
  rw [Nat.mul_one, List.drop_eq_getElem_cons (by simpa using h), List.take_succ_cons, List.take_zero]
  simp only [List.getElem_map, List.cons.injEq, and_true, Value.bool.injEq]
  rw [List.getElem?_eq_getElem h] at hy
  exact Option.some.inj hy
set_option maxRecDepth 4000 in
/-- function 15 -/
theorem best_some {S : Nat → Prop} {w : World} {v : Value} {cost : List (List Int)} {n m : Nat} {f : Nat → Nat} (hl : rRows.rd S w [v] cost) (hw : WfC cost n) (hm : wideF cost n = m) (hM : Mat (cF cost) cost.length m f) : Gives Tryz.prog 15 #[v] w fun r w' =>
    ∃ (rows cols owner : Nat → Int) (at' : List Nat) (used : Nat → Bool) (x : Option Addr × Nat), r = .tuple #[.slice x.1 cost.length x.2, .int .i64 (totF cost at'), .bool true, .int .i64 0] ∧ RInv (cF cost) cost.length m cost.length rows cols owner ∧ BInv cost m rows cols cost.length at' used ∧ rInts.rd (fun b => w.heap.size ≤ b) w' [.slice x.1 cost.length x.2] (at'.map Int.ofNat) := by
  obtain ⟨p0, c0, rfl, hc1, hc2⟩ := Rp.slice_val hl
  have hl : (Rp.slice rInts).rd (fun _ => True) w _ cost := Rp.any hl
  have hr2 := hw.rows
  have hC := costOk_of hw
  rw [hm] at hC
  have hm11 := hC.small
  refine gives_of [.val (.slice p0 cost.length c0)] 95 [.tmp 2, .tmp 3, .tmp 4, .tmp 5] Tryz.func15 rfl rfl rfl (by simp) rfl rfl ?_
  refine W.pure (ds := []) rfl fun K1 hK1 => ?_
  simp only [sx, ty, q1, q2, q5, q6, q7, q8, q9, qa, qb, reduceIte, sy, q3, q4]; with_reducible refine hK1 _ ?_; clear hK1
  refine W.scope (fun _ _ h => h) ?_
  refine W.pure (ds := []) rfl fun K2 hK2 => ?_
  simp only [sx, ty, q1, q2, q5, q6, q7, q8, q9, qa, qb, reduceIte, sy, q3, q4]; with_reducible refine hK2 _ ?_; clear hK2
  refine W.seqK fun K3 hK3 => W.region ?_
  refine WO.go 1 (ds := []) rfl ?_
  simp only [sx, ty, q1, q2, q5, q6, q7, q8, q9, qa, qb, reduceIte, sy, q3, q4]
  refine WO.callM (fun x : (Nat → Int) × (Nat → Int) × (Nat → Int) × Nat × Nat => .tuple #[.slice (some ⟨x.2.2.2.1, 0, none⟩) cost.length cost.length, .slice (some ⟨x.2.2.2.2, 0, none⟩) m m, .int .i64 0]) (fun lo x s8 => w.heap.size ≤ lo ∧ RInv (cF cost) cost.length m cost.length x.1 x.2.1 x.2.2.1 ∧
        rInts.rd (fun b => lo ≤ b) s8 [.slice (some ⟨x.2.2.2.1, 0, none⟩) cost.length cost.length] (tab cost.length x.1) ∧ rInts.rd (fun b => lo ≤ b) s8 [.slice (some ⟨x.2.2.2.2, 0, none⟩) m m] (tab m x.2.1)) (ds := []) rfl rfl rfl rfl co14 (fun ρ w1 hb => Gives.mono (prices_spec (Rp.now hl (hb.first (by simp))) hw hm) fun r w9 _ h => by
      rcases h with ⟨h, _⟩ | ⟨_, rows, cols, owner, bA, bB, h1, h2, h3, h4⟩
      · exact absurd hM (h f)
      · exact ⟨(rows, cols, owner, bA, bB), h1, (hb.at (S := fun _ => True) (s := w) (by simp [St.put])).size, h2, h3, h4⟩) fun x lo s8 hx => ?_
  obtain ⟨rows, cols, owner, bA, bB⟩ := x
  obtain ⟨hlo, hR, hx1, hx2⟩ := hx
  simp only at hR hx1 hx2
  refine WO.go 9 (ds := []) rfl ?_
  simp only [sx, ty, q1, q2, q5, q6, q7, q8, q9, qa, qb, reduceIte, sy, q3, q4]
  with_reducible refine WO.nil ?_
  refine hK3 _ ?_; clear hK3
  refine W.seqK fun K4 hK4 => ?_
  refine W.pure (ds := []) rfl fun K5 hK5 => ?_
  simp only [sx, ty, q1, q2, q5, q6, q7, q8, q9, qa, qb, reduceIte, sy, q3, q4]; with_reducible refine hK5 _ ?_; clear hK5
  refine W.block ?_
  refine W.pure (ds := []) rfl fun K6 hK6 => ?_
  simp only [sx, ty, q1, q2, q5, q6, q7, q8, q9, qa, qb, reduceIte, sy, q3, q4]; with_reducible refine hK6 _ ?_; clear hK6
  refine W.cond rfl rfl (fun hc => ?_) (fun hc => ?_)
  · skip
    refine W.skip (hK4 _ ?_)
    refine W.seqK fun K7 hK7 => W.region ?_
    refine WO.go 1 (ds := []) rfl ?_
    simp only [sx, ty, q1, q2, q5, q6, q7, q8, q9, qa, qb, reduceIte, sy, q3, q4]
    refine WO.call (.int .i64 (m : Int)) (ds := []) rfl rfl rfl rfl co31 (fun ρ w1 hb => by have h9 := wide_spec (Rp.now hl (hb.first (by simp))) (fun l hl => (hw.row l hl).1); rw [← hm]; exact h9) ?_
    simp only [sx, ty, q1, q2, q5, q6, q7, q8, q9, qa, qb, reduceIte, sy, q3, q4]
    refine WO.make (ds := []) rfl rfl rfl rfl rfl rfl ek71 (Nat.le_refl _) (by rw [maxLen_eq]; omega) (by omega) fun bu0 => ?_
    rw [flat_rep Value.bool m false, rep_tabB]
    refine WO.go 1 (ds := []) rfl ?_
    simp only [sx, ty, q1, q2, q5, q6, q7, q8, q9, qa, qb, reduceIte, sy, q3, q4]
    with_reducible refine WO.nil ?_
    refine hK7 _ ?_; clear hK7
    refine W.seqK fun K8 hK8 => ?_
    refine W.label ?_
    refine hK8 _ ?_
    refine W.seqK fun K9 hK9 => ?_
    refine W.ownNil 3 1 ?_
    simp only [sx, ty, Bool.false_eq_true, q1, q2, q5, q6, q7, q8, q9, qa, qb, reduceIte, St.pushO, List.cons_append, List.nil_append]
    refine W.pure (ds := []) rfl fun K10 hK10 => ?_
    simp only [sx, ty, q1, q2, q5, q6, q7, q8, q9, qa, qb, reduceIte, sy, q3, q4]; with_reducible refine hK10 _ ?_; clear hK10
    refine W.block ?_
    refine W.loopO (X := Nat × List Nat × (Nat → Bool) × Int × Nat × (Option Addr × Nat)) [0, 6, 31, 32] (fun x => [(2, .val (.slice x.2.2.2.2.2.1 x.2.1.length x.2.2.2.2.2.2)), (3, .val (.int .i64 x.2.2.2.1)), (7, .val (.slice (some ⟨x.2.2.2.2.1, 0, none⟩) m m)), (33, .val (.int .i64 (x.1 : Int)))]) (fun x => [.cells 69 [.val (.slice (some ⟨bA, 0, none⟩) cost.length cost.length), .val (.slice (some ⟨bB, 0, none⟩) m m)], OBs m (tabB m x.2.2.1) (some ⟨x.2.2.2.2.1, 0, none⟩, m), OIN x.2.1.length (x.2.1.map Int.ofNat) x.2.2.2.2.2]) (fun x => [((fun b => lo ≤ b), s8), ((fun _ => True), w)]) (fun x => BInv cost m rows cols x.1 x.2.1 x.2.2.1 ∧ x.2.2.2.1 = totF cost x.2.1 ∧ 0 ≤ x.2.2.2.1 ∧ x.2.2.2.1 ≤ (x.1 : Int) * 1000000) (fun x => cost.length - x.1) (0, [], (fun _ => false), 0, bu0, (none, 0)) ?_ ?_ ?_
    · exact ⟨rfl, by simp [getE, bnd, keepE], ⟨[], by simp [OI, OIN, OBs]⟩, by simp [Own.bnd, bndL, bnd, boxO, OI, OIN, OBs], by simp⟩
    · skip
      exact ⟨BInv.start hR, rfl, by simp, by simp⟩
    · rintro ⟨i, at9, used, tot, bu, xp, xc⟩ hI
      simp only at hI
      obtain ⟨hB, htot, ht0, ht1⟩ := hI
      have hic := hB.le
      have hal := hB.len
      simp only [sx, ty, q1, q2, q5, q6, q7, q8, q9, qa, qb, reduceIte, sxk, sy, q3, q4]
      refine W.pure (ds := []) rfl fun K11 hK11 => ?_
      simp only [sx, ty, q1, q2, q5, q6, q7, q8, q9, qa, qb, reduceIte, sy, q3, q4]; with_reducible refine hK11 _ ?_; clear hK11
      refine W.seqK fun K12 hK12 => ?_
      refine W.cond rfl rfl (fun hc => ?_) (fun hc => ?_)
      · skip
        have hlt : i < cost.length := by simpa using hc
        obtain ⟨y, hy⟩ := len_lt (rfl : cost.length = _) hlt
        have hyn : y.length = m := by rw [← hm, wideF, if_neg (by omega)]; exact (hw.row y (List.mem_of_getElem? hy)).1
        have hyr := (hw.row y (List.mem_of_getElem? hy)).2
        have hmn : ∀ l, l ∈ cost → l.length = m := fun l hl => by rw [← hm, wideF, if_neg (by omega)]; exact (hw.row l hl).1
        have hPr : PrB cost.length m rows cols := by
          obtain ⟨q1, q2⟩ := hR.small (by have := hM.le; omega)
          exact ⟨q1, q2⟩
        refine W.skip (hK12 _ ?_)
        refine W.seqK fun K13 hK13 => ?_
        refine W.block ?_
        refine W.seqK fun K14 hK14 => W.region ?_
        refine WO.go 1 (ds := []) rfl ?_
        simp only [sx, ty, q1, q2, q5, q6, q7, q8, q9, qa, qb, reduceIte, sy, q3, q4]
        refine WO.elem (y := y) hl (by simp [St.put]) (ds := []) rfl rfl rfl (by simp [St.put]) (fun _ => rfl) rfl rfl rfl rfl rfl el36 agg27 sz27 (.inr rfl) (by omega) (hy) fun p ces hces => ?_
        obtain ⟨p9, c9, rfl, hc5, hc6⟩ := rInts_open hces
        have hces1 := hces
        clear hces
        refine WO.go 2 (ds := []) rfl ?_
        simp only [sx, ty, q1, q2, q5, q6, q7, q8, q9, qa, qb, reduceIte, sy, q3, q4]
        with_reducible refine WO.nil ?_
        refine hK14 _ ?_; clear hK14
        refine W.pure (ds := []) rfl fun K15 hK15 => ?_
        simp only [sx, ty, q1, q2, q5, q6, q7, q8, q9, qa, qb, reduceIte, sy, q3, q4]; with_reducible refine hK15 _ ?_; clear hK15
        refine W.block ?_
        refine W.loopO (X := Nat) [0, 6, 8, 31, 32, 33, 38, 39] (fun x => [(2, .val (.slice xp at9.length xc)), (3, .val (.int .i64 tot)), (7, .val (.slice (some ⟨bu, 0, none⟩) m m)), (40, .val (.int .i64 (x : Int)))]) (fun x => [.cells 69 [.val (.slice (some ⟨bA, 0, none⟩) cost.length cost.length), .val (.slice (some ⟨bB, 0, none⟩) m m)], OBs m (tabB m used) (some ⟨bu, 0, none⟩, m), OIN at9.length (at9.map Int.ofNat) (xp, xc)]) (fun x => [((fun b => lo ≤ b), s8), ((fun _ => True), w)]) (fun x => x ≤ m ∧ ∀ k, k < x → exF cost rows cols used (i : Int) k = true → ¬ ReachP cost m rows cols (setB used k) (i + 1)) (fun x => m - x) 0 ?_ ?_ ?_
        · exact ⟨rfl, by simp [getE, bnd, keepE], ⟨[], by simp⟩, by simp [Own.bnd, bndL, bnd, boxO, OI, OIN, OBs], by simp⟩
        · skip
          exact ⟨Nat.zero_le _, fun k h => by omega⟩
        · rintro k hK
          obtain ⟨hkm, hno⟩ := hK
          simp only [sx, ty, q1, q2, q5, q6, q7, q8, q9, qa, qb, reduceIte, sxk, sy, q3, q4]
          refine W.pure (ds := []) rfl fun K16 hK16 => ?_
          simp only [sx, ty, q1, q2, q5, q6, q7, q8, q9, qa, qb, reduceIte, sy, q3, q4]; with_reducible refine hK16 _ ?_; clear hK16
          refine W.seqK fun K17 hK17 => ?_
          refine W.cond rfl rfl (fun hc => ?_) (fun hc => ?_)
          · skip
            have hlt2 : k < m := by simp at hc; omega
            obtain ⟨z, hz⟩ := len_lt hyn hlt2
            have hcz := cF_eq hy hz
            have hzr := hyr z (List.mem_of_getElem? hz)
            have hri := hPr.row i hlt
            have hck := hPr.col k hlt2
            have hwr : IntKind.i64.wrap (rows i + cols k) = rows i + cols k := wrap_id (by omega) (by omega)
            have hbe : ∀ a b : Int, (a != b) = !decide (a = b) := fun a b => by by_cases h : a = b <;> simp [h]
            refine W.skip (hK17 _ ?_)
            refine W.seqK fun K18 hK18 => ?_
            refine W.block ?_
            refine W.seqK fun K19 hK19 => W.region ?_
            refine WO.go 1 (ds := []) rfl ?_
            simp only [sx, ty, q1, q2, q5, q6, q7, q8, q9, qa, qb, reduceIte, sy, q3, q4]
            refine WO.elem (y := z) hces1 (by simp [St.put]) (ds := []) rfl rfl rfl (by simp [St.put]) (fun _ => rfl) rfl rfl rfl rfl rfl el27 agg3 sz3 (.inr rfl) (by omega) (hz) fun p ces hces => ?_
            obtain rfl := rInt_open hces
            clear hces
            refine WO.go 2 (ds := []) rfl ?_
            simp only [sx, ty, q1, q2, q5, q6, q7, q8, q9, qa, qb, reduceIte, sy, q3, q4]
            with_reducible refine WO.nil ?_
            refine hK19 _ ?_; clear hK19
            refine W.seqK fun K20 hK20 => ?_
            refine W.join 67 (.val (.bool (!exF cost rows cols used (i : Int) k))) [0, 2, 3, 6, 7, 8, 10, 11, 31, 32, 33, 38, 39, 40] (W.regionQ mixed (by kernel_rfl) ?_) ?_
            · skip
              refine WQ.go 2 (ds := [some 45, some 46, some 47, some 48, some 49, some 50, some 51, some 52, some 53, some 54, some 55, some 56, some 57, some 58, some 59, some 60, some 61, some 62, some 63, some 64, some 65, some 66, some 67]) rfl ?_
              simp only [sx, ty, q1, q2, q5, q6, q7, q8, q9, qa, qb, reduceIte, sxq, sy, q3, q4]
              refine WQ.q (ds := [some 45, some 46, some 47, some 48, some 49, some 50, some 51, some 52, some 53, some 54, some 55, some 56, some 57, some 58, some 59, some 60, some 61, some 62, some 63, some 64, some 65, some 66, some 67]) rfl rfl rfl (QR.idx rfl rfl rfl el71 (by omega) (by omega)) ?_
              refine WQ.q (ds := [some 45, some 46, some 47, some 48, some 49, some 50, some 51, some 52, some 53, some 54, some 55, some 56, some 57, some 58, some 59, some 60, some 61, some 62, some 63, some 64, some 65, some 66, some 67]) rfl rfl rfl (QR.load [Value.bool (used k)] false rfl rfl agg4 sz4 (.inr rfl) (fun ρ w1 hb => own_elem_at (k := 1) (i := k) hb rfl (map_get (Value.bool) (tabB_getE hlt2 rfl)))) ?_
              simp only [List.drop_succ_cons, List.drop_zero, List.take_succ_cons, List.take_zero, ofCells, Bool.false_eq_true, if_false, List.headD_cons]
              refine WQ.go 1 (ds := [some 45, some 46, some 47, some 48, some 49, some 50, some 51, some 52, some 53, some 54, some 55, some 56, some 57, some 58, some 59, some 60, some 61, some 62, some 63, some 64, some 65, some 66, some 67]) rfl ?_
              simp only [sx, ty, q1, q2, q5, q6, q7, q8, q9, qa, qb, reduceIte, sxq, sy, q3, q4]
              refine WQ.cases 49 _ rfl (fun hg49 => ?_) (fun hg49 => ?_)
              · skip
                have a1 : used k = true := by simpa using hg49
                refine WQ.go 18 (ds := [some 45, some 46, some 47, some 48, some 49, some 50, some 51, some 52, some 53, some 54, some 55, some 56, some 57, some 58, some 59, some 60, some 61, some 62, some 63, some 64, some 65, some 66, some 67]) rfl ?_
                simp only [sx, ty, q1, q2, q5, q6, q7, q8, q9, qa, qb, reduceIte, sxq, sy, q3, q4]
                with_reducible refine WQ.nil ?_
                refine ⟨rfl, ?_, ⟨_, rfl⟩, by simp [Own.bnd, bndL, bnd, boxO, OI, OIN, OBs], by simp⟩
                try simp [getE, bnd, keepE, exF, hcz, a1, a2]
                try simp [getE, bnd, keepE, exF, hcz, a1]
                try rw [hwr, hbe, decide_eq_true (show 0 ≤ z by omega), Bool.not_true, Bool.false_or]
              · skip
                have a1 : used k = false := by simpa using hg49
                refine WQ.go 4 (ds := [some 45, some 46, some 47, some 48, some 49, some 50, some 51, some 52, some 53, some 54, some 55, some 56, some 57, some 58, some 59, some 60, some 61, some 62, some 63, some 64, some 65, some 66, some 67]) rfl ?_
                simp only [sx, ty, q1, q2, q5, q6, q7, q8, q9, qa, qb, reduceIte, sxq, sy, q3, q4]
                refine WQ.cases 53 _ rfl (fun hg53 => ?_) (fun hg53 => ?_)
                · skip
                  have a2 : z < 0 := by simpa using hg53
                  refine WQ.go 14 (ds := [some 45, some 46, some 47, some 48, some 49, some 50, some 51, some 52, some 53, some 54, some 55, some 56, some 57, some 58, some 59, some 60, some 61, some 62, some 63, some 64, some 65, some 66, some 67]) rfl ?_
                  simp only [sx, ty, q1, q2, q5, q6, q7, q8, q9, qa, qb, reduceIte, sxq, sy, q3, q4]
                  with_reducible refine WQ.nil ?_
                  refine ⟨rfl, ?_, ⟨_, rfl⟩, by simp [Own.bnd, bndL, bnd, boxO, OI, OIN, OBs], by simp⟩
                  try simp [getE, bnd, keepE, exF, hcz, a1, a2]
                  try simp [getE, bnd, keepE, exF, hcz, a1]
                  try rw [hwr, hbe, decide_eq_true (show 0 ≤ z by omega), Bool.not_true, Bool.false_or]
                · skip
                  have a2 : ¬ z < 0 := by simpa using hg53
                  refine WQ.go 3 (ds := [some 45, some 46, some 47, some 48, some 49, some 50, some 51, some 52, some 53, some 54, some 55, some 56, some 57, some 58, some 59, some 60, some 61, some 62, some 63, some 64, some 65, some 66, some 67]) rfl ?_
                  simp only [sx, ty, q1, q2, q5, q6, q7, q8, q9, qa, qb, reduceIte, sxq, sy, q3, q4]
                  refine WQ.elem (y := (rows i)) hx1 (by simp [St.put]) (ds := [some 45, some 46, some 47, some 48, some 49, some 50, some 51, some 52, some 53, some 54, some 55, some 56, some 57, some 58, some 59, some 60, some 61, some 62, some 63, some 64, some 65, some 66, some 67]) rfl rfl rfl (by simp [St.put]) (fun _ => rfl) rfl rfl rfl rfl rfl el27 agg3 sz3 (.inr rfl) (by omega) ((tab_getE hlt rfl)) fun p ces hces => ?_
                  obtain rfl := rInt_open hces
                  clear hces
                  refine WQ.go 3 (ds := [some 45, some 46, some 47, some 48, some 49, some 50, some 51, some 52, some 53, some 54, some 55, some 56, some 57, some 58, some 59, some 60, some 61, some 62, some 63, some 64, some 65, some 66, some 67]) rfl ?_
                  simp only [sx, ty, q1, q2, q5, q6, q7, q8, q9, qa, qb, reduceIte, sxq, sy, q3, q4]
                  refine WQ.elem (y := (cols k)) hx2 (by simp [St.put]) (ds := [some 45, some 46, some 47, some 48, some 49, some 50, some 51, some 52, some 53, some 54, some 55, some 56, some 57, some 58, some 59, some 60, some 61, some 62, some 63, some 64, some 65, some 66, some 67]) rfl rfl rfl (by simp [St.put]) (fun _ => rfl) rfl rfl rfl rfl rfl el27 agg3 sz3 (.inr rfl) (by omega) ((tab_getE hlt2 rfl)) fun p ces hces => ?_
                  obtain rfl := rInt_open hces
                  clear hces
                  refine WQ.go 4 (ds := [some 45, some 46, some 47, some 48, some 49, some 50, some 51, some 52, some 53, some 54, some 55, some 56, some 57, some 58, some 59, some 60, some 61, some 62, some 63, some 64, some 65, some 66, some 67]) rfl ?_
                  simp only [sx, ty, q1, q2, q5, q6, q7, q8, q9, qa, qb, reduceIte, sxq, sy, q3, q4]
                  with_reducible refine WQ.nil ?_
                  refine ⟨rfl, ?_, ⟨_, rfl⟩, by simp [Own.bnd, bndL, bnd, boxO, OI, OIN, OBs], by simp⟩
                  try simp [getE, bnd, keepE, exF, hcz, a1, a2]
                  try simp [getE, bnd, keepE, exF, hcz, a1]
                  try rw [hwr, hbe, decide_eq_true (show 0 ≤ z by omega), Bool.not_true, Bool.false_or]
            · simp only [sx, ty, q1, q2, q5, q6, q7, q8, q9, qa, qb, reduceIte, sxk, sy, q3, q4]
              refine W.cond rfl rfl (fun hc => ?_) (fun hc => ?_)
              · skip
                have hsk : exF cost rows cols used (i : Int) k = false := by simpa using hc
                refine W.exit (hK18 _ ?_)
                refine W.region ?_
                refine WO.go 2 (ds := []) rfl ?_
                simp only [sx, ty, q1, q2, q5, q6, q7, q8, q9, qa, qb, reduceIte, sy, q3, q4]
                with_reducible refine WO.nil ?_
                refine ⟨k + 1, ⟨hlt2, fun k1 h1 h2 => if he : k1 = k then by subst he; rw [hsk] at h2; cases h2 else hno k1 (by omega) h2⟩, by omega, rfl, by simp [getE, bnd, keepE, wrap_succ (show k + 1 ≤ 9223372036854775807 by omega)], ⟨[], by simp [OI, OIN, OBs]⟩, by simp [Own.bnd, bndL, bnd, OI, OIN, OBs, boxO], by simp⟩
              · skip
                have hex : exF cost rows cols used (i : Int) k = true := by simpa using hc
                refine W.skip (hK20 _ ?_)
                refine W.seqK fun K22 hK22 => W.region ?_
                refine WO.go 2 (ds := []) rfl ?_
                simp only [sx, ty, q1, q2, q5, q6, q7, q8, q9, qa, qb, reduceIte, sy, q3, q4]
                refine WO.make (ds := []) rfl rfl rfl rfl rfl rfl ek71 (Nat.le_refl _) (by rw [maxLen_eq]; omega) (by omega) fun bn => ?_
                rw [flat_rep Value.bool m false, rep_tabB]
                refine WO.go 1 (ds := []) rfl ?_
                simp only [sx, ty, q1, q2, q5, q6, q7, q8, q9, qa, qb, reduceIte, sy, q3, q4]
                with_reducible refine WO.nil ?_
                refine hK22 _ ?_; clear hK22
                refine W.seqK fun K23 hK23 => W.region ?_
                refine WO.go 2 (ds := []) rfl ?_
                simp only [sx, ty, q1, q2, q5, q6, q7, q8, q9, qa, qb, reduceIte, sy, q3, q4]
                refine WO.copy (k := 3) (j := 1) (ys := (tabB m used).map Value.bool) (ds := []) rfl rfl rfl rfl rfl rfl rfl rfl ek71 (fun u hu => by obtain ⟨b, _, rfl⟩ := List.mem_map.1 hu; rfl) (by simp [tabB]) ?_
                simp only [sx, ty, q1, q2, q5, q6, q7, q8, q9, qa, qb, reduceIte, sy, q3, q4]
                with_reducible refine WO.nil ?_
                refine hK23 _ ?_; clear hK23
                refine W.seqK fun K24 hK24 => W.region ?_
                refine WO.go 2 (ds := []) rfl ?_
                simp only [sx, ty, q1, q2, q5, q6, q7, q8, q9, qa, qb, reduceIte, sy, q3, q4]
                refine WO.q (ds := []) rfl rfl rfl (QR.idx rfl rfl rfl el71 (by omega) (by omega)) ?_
                simp only [sx, ty, q1, q2, q5, q6, q7, q8, q9, qa, qb, reduceIte, sy, q3, q4]
                refine WO.storeOwn (k := 3) (i := k) (ds := []) rfl rfl rfl rfl rfl rfl rfl (by omega) rfl rfl sz4 ?_
                rw [show (((tabB m used).map Value.bool).set k (Value.bool true)) = ((tabB m (setB used k)).map Value.bool) by rw [← List.map_set]; exact congrArg _ (tabB_set (by simp [setB]) fun x _ hx => by simp [setB, hx])]
                simp only [sx, ty, q1, q2, q5, q6, q7, q8, q9, qa, qb, reduceIte, sy, q3, q4]
                with_reducible refine WO.nil ?_
                refine hK24 _ ?_; clear hK24
                refine W.seqK fun K25 hK25 => W.region ?_
                refine WO.go 5 (ds := []) rfl ?_
                simp only [sx, ty, q1, q2, q5, q6, q7, q8, q9, qa, qb, reduceIte, sy, q3, q4]
                refine WO.callX (fun b : Bool => .bool b) (fun b => b = true ↔ ReachP cost m rows cols (setB used k) (i + 1)) (ds := []) rfl rfl rfl rfl co32 (fun ρ w1 hb => ?_) fun b hb9 => ?_
                · have hu9 : rBools.rd (fun _ => True) w1 [.slice (some ⟨bn, 0, none⟩) m m] (tabB m (setB used k)) := own_slice (A := Rp.bool) (S := fun _ => True) (k := 3) hb rfl (by simp [tabB]) (fun _ _ => trivial) (bools_read _)
                  have hr9 : rInts.rd (fun _ => True) w1 [.slice (some ⟨bA, 0, none⟩) cost.length cost.length] (tab cost.length rows) := Rp.any (Rp.keep hx1 (hb.at (by simp [St.put])))
                  have hc9 : rInts.rd (fun _ => True) w1 [.slice (some ⟨bB, 0, none⟩) m m] (tab m cols) := Rp.any (Rp.keep hx2 (hb.at (by simp [St.put])))
                  have hl9 : rRows.rd (fun _ => True) w1 [.slice p0 cost.length c0] cost := Rp.any (Rp.now hl (hb.first (by simp)))
                  have h9 := reach_spec hw hmn hm11 hPr hl9 hu9 hr9 hc9 (i + 1) hlt
                  clear hx1 hx2 hB hR hM hC hu9 hr9 hc9 hl9
                  have hwi : IntKind.i64.wrap ((i : Int) + 1) = ((i + 1 : Nat) : Int) := by rw [wrap_id (by omega) (by omega)]; omega
                  simp only [List.map_nil, List.nil_append, List.append_nil, den, denL, hwi]
                  exact h9
                simp only [sx, ty, q1, q2, q5, q6, q7, q8, q9, qa, qb, reduceIte, sy, q3, q4]
                with_reducible refine WO.nil ?_
                refine hK25 _ ?_; clear hK25
                refine W.cond rfl rfl (fun hc => ?_) (fun hc => ?_)
                · skip
                  have hrch := hb9.1 (by simpa using hc)
                  have hz0 : 0 ≤ z := by have := (exF_iff.1 hex).2.1; rwa [hcz] at this
                  have hwt : IntKind.i64.wrap (tot + z) = tot + z := wrap_id (by omega) (by omega)
                  refine W.seqK fun K26 hK26 => W.region ?_
                  refine WO.go 3 (ds := []) rfl ?_
                  simp only [sx, ty, q1, q2, q5, q6, q7, q8, q9, qa, qb, reduceIte, sy, q3, q4]
                  refine WO.append (k := 2) (m := 1) [.int .i64 (k : Int)] (ds := []) rfl rfl rfl rfl rfl rfl rfl ek27 (news_own (k2 := 4) rfl fun _ => rfl) rfl (by simp [Value.oneCell']) (by rw [maxLen_eq]; omega) (by omega) fun p6 c6 => ?_
                  refine WO.go 7 (ds := []) rfl ?_
                  simp only [sx, ty, q1, q2, q5, q6, q7, q8, q9, qa, qb, reduceIte, sy, q3, q4]
                  with_reducible refine WO.nil ?_
                  refine hK26 _ ?_; clear hK26
                  refine W.exit (hK13 _ ?_)
                  refine W.keep [0, 2, 3, 6, 7, 31, 32, 33] ?_
                  simp only [sx, ty, Bool.false_eq_true, q1, q2, q5, q6, q7, q8, q9, qa, qb, reduceIte, sxk]
                  first | refine W.ownPerm [0, 3, 2] [.cells 69 [.val (.slice (some ⟨bA, 0, none⟩) cost.length cost.length), .val (.slice (some ⟨bB, 0, none⟩) m m)], OBs m (tabB m (setB used k)) (some ⟨bn, 0, none⟩, m), .slice 3 1 (.slice p6 (at9.length + 1) c6) (at9.length + 1) ((at9.map Int.ofNat).map (Value.int .i64) ++ [.int .i64 (k : Int)])] (by simp [stayS]) (by simp [flatO, bndL, bnd, OBs]) ⟨rfl, rfl, rfl, trivial⟩ (by decide) ?_ | skip
                  refine W.region ?_
                  refine WO.go 2 (ds := []) rfl ?_
                  simp only [sx, ty, q1, q2, q5, q6, q7, q8, q9, qa, qb, reduceIte, sy, q3, q4]
                  with_reducible refine WO.nil ?_
                  refine ⟨(i + 1, at9 ++ [k], setB used k, tot + z, bn, (p6, c6)), ⟨hB.next hlt hlt2 hex hrch hno, by rw [totF_next hal hcz, htot], by simp only; omega, by simp only; push_cast; omega⟩, by first | omega | (simp only; omega), rfl, by simp [getE, bnd, keepE, hwt, wrap_succ (show i + 1 ≤ 9223372036854775807 by omega)], ⟨[], by simp [OI, OIN, OBs]⟩, by simp [Own.bnd, bndL, bnd, OI, OIN, OBs, boxO], by simp⟩
                · skip
                  have hrch : ¬ ReachP cost m rows cols (setB used k) (i + 1) := fun h => by have := hb9.2 h; simp [this] at hc
                  refine W.skip (hK18 _ ?_)
                  refine W.region ?_
                  refine WO.go 2 (ds := []) rfl ?_
                  simp only [sx, ty, q1, q2, q5, q6, q7, q8, q9, qa, qb, reduceIte, sy, q3, q4]
                  with_reducible refine WO.nil ?_
                  refine ⟨k + 1, ⟨hlt2, fun k1 h1 h2 => if he : k1 = k then he ▸ hrch else hno k1 (by omega) h2⟩, by omega, rfl, by simp [getE, bnd, keepE, wrap_succ (show k + 1 ≤ 9223372036854775807 by omega)], ⟨[OBs m (tabB m (setB used k)) (some ⟨bn, 0, none⟩, m)], by simp [OI, OIN, OBs]⟩, by simp [Own.bnd, bndL, bnd, OI, OIN, OBs, boxO], by simp⟩
          · skip
            have hkm2 : k = m := Nat.le_antisymm hkm (by simp at hc; omega)
            subst k
            obtain ⟨k1, q1, q2, q3⟩ := hB.reach.step hlt
            have hF2 : False := hno k1 q1 q2 q3
            refine W.exit (hK13 _ ?_)
            refine W.keep [0, 2, 3, 6, 7, 31, 32, 33] ?_
            simp only [sx, ty, Bool.false_eq_true, q1, q2, q5, q6, q7, q8, q9, qa, qb, reduceIte, sxk]
            first | refine W.ownPerm [0, 3, 2] [.cells 69 [.val (.slice (some ⟨bA, 0, none⟩) cost.length cost.length), .val (.slice (some ⟨bB, 0, none⟩) m m)], OBs m (tabB m (setB used k)) (some ⟨bn, 0, none⟩, m), .slice 3 1 (.slice p6 (at9.length + 1) c6) (at9.length + 1) ((at9.map Int.ofNat).map (Value.int .i64) ++ [.int .i64 (k : Int)])] (by simp [stayS]) (by simp [flatO, bndL, bnd, OBs]) ⟨rfl, rfl, rfl, trivial⟩ (by decide) ?_ | skip
            refine W.region ?_
            refine WO.go 2 (ds := []) rfl ?_
            simp only [sx, ty, q1, q2, q5, q6, q7, q8, q9, qa, qb, reduceIte, sy, q3, q4]
            exact hF2.elim
      · skip
        have him : i = cost.length := Nat.le_antisymm hic (by simpa using hc)
        subst him
        refine W.exit (hK9 _ ?_)
        refine W.pure (ds := []) rfl fun K27 hK27 => ?_
        simp only [sx, ty, q1, q2, q5, q6, q7, q8, q9, qa, qb, reduceIte, sy, q3, q4]; with_reducible refine hK27 _ ?_; clear hK27
        refine W.ret ⟨by simp, _, rfl, fun ρ w1 hb => ?_⟩
        refine ⟨rows, cols, owner, at9, used, (xp, xc), by simp only [den, denL, hB.len, htot], hR, hB, ?_⟩
        rw [← hB.len]
        have h9 := own_slice (A := rInt) (S := fun b => w.heap.size ≤ b) (k := 2) (n := at9.length) (c := xc) (xs := (at9.map Int.ofNat).map (.int .i64)) hb rfl (by simp) (fun b hb' => own_new hb (by simp) (k := 2) rfl hb') (ints_read (at9.map Int.ofNat))
        exact h9
  · skip
    have hF : False := by simp at hc
    refine W.pure (ds := []) rfl fun K28 hK28 => ?_
    simp only [sx, ty, q1, q2, q5, q6, q7, q8, q9, qa, qb, reduceIte, sy, q3, q4]; with_reducible refine hK28 _ ?_; clear hK28
    refine W.cond rfl rfl (fun hc => ?_) (fun hc => ?_)
    · skip
      refine W.pure (ds := []) rfl fun K29 hK29 => ?_
      simp only [sx, ty, q1, q2, q5, q6, q7, q8, q9, qa, qb, reduceIte, sy, q3, q4]; with_reducible refine hK29 _ ?_; clear hK29
      refine W.ret ⟨by simp, _, rfl, fun ρ w1 hb => ?_⟩
      exact hF.elim
    · skip
      refine W.pure (ds := []) rfl fun K30 hK30 => ?_
      simp only [sx, ty, q1, q2, q5, q6, q7, q8, q9, qa, qb, reduceIte, sy, q3, q4]; with_reducible refine hK30 _ ?_; clear hK30
      refine W.ret ⟨by simp, _, rfl, fun ρ w1 hb => ?_⟩
      exact hF.elim
end Go.Proofs.YtolmeekbjonbcaaGreat
set_option linter.unusedVariables false
namespace Go.Proofs.YtolmeekbjonbcaaGreat
open Go Go.SX
theorem sum_perm {α : Type} {f : α → Int} {l m : List α} (h : l.Perm m) : (l.map f).sum = (m.map f).sum := by
  induction h with
  | nil => rfl
  | cons x _ ih => simp [ih]
  | swap x y l => simp only [List.map_cons, List.sum_cons]; omega
  | trans _ _ ih1 ih2 => exact ih1.trans ih2
theorem sum_nonpos {α : Type} {f : α → Int} : ∀ {m : List α}, (∀ x, x ∈ m → f x ≤ 0) → (m.map f).sum ≤ 0
  | [], _ => Int.le_refl _
  | x :: m, h => by
    have h1 := sum_nonpos (m := m) fun y hy => h y (List.mem_cons_of_mem _ hy)
    have h2 := h x List.mem_cons_self
    simp only [List.map_cons, List.sum_cons]; omega
theorem sum_zero {α : Type} {f : α → Int} : ∀ {m : List α}, (∀ x, x ∈ m → f x = 0) → (m.map f).sum = 0
  | [], _ => rfl
  | x :: m, h => by
    have h1 := sum_zero (m := m) fun y hy => h y (List.mem_cons_of_mem _ hy)
    have h2 := h x List.mem_cons_self
    simp only [List.map_cons, List.sum_cons]; omega
theorem sum_sub {α : Type} [DecidableEq α] {f : α → Int} : ∀ {l m : List α}, l.Nodup → (∀ x, x ∈ l → x ∈ m) → (∀ x, x ∈ m → f x ≤ 0) → (m.map f).sum ≤ (l.map f).sum
  | [], m, _, _, h => sum_nonpos h
  | x :: l, m, hn, hs, h => by
    rw [List.nodup_cons] at hn
    have h1 := sum_sub (f := f) (l := l) (m := m.erase x) hn.2 (fun y hy => (List.mem_erase_of_ne fun he => hn.1 (by rw [← he]; exact hy)).2 (hs y (List.mem_cons_of_mem _ hy))) fun y hy => h y (List.mem_of_mem_erase hy)
    rw [sum_perm (List.perm_cons_erase (hs x List.mem_cons_self))]
    simp only [List.map_cons, List.sum_cons]; omega
theorem sum_sub_eq {α : Type} [DecidableEq α] {f : α → Int} : ∀ {l m : List α}, l.Nodup → m.Nodup → (∀ x, x ∈ l → x ∈ m) → (∀ x, x ∈ m → x ∉ l → f x = 0) → (m.map f).sum = (l.map f).sum
  | [], m, _, _, _, h => sum_zero fun x hx => h x hx (by simp)
  | x :: l, m, hn, hm, hs, h => by
    rw [List.nodup_cons] at hn
    have h1 := sum_sub_eq (f := f) (l := l) (m := m.erase x) hn.2 (hm.erase x) (fun y hy => (List.mem_erase_of_ne fun he => hn.1 (by rw [← he]; exact hy)).2 (hs y (List.mem_cons_of_mem _ hy))) fun y hy hl => h y (List.mem_of_mem_erase hy) fun hc => by
      rcases List.mem_cons.1 hc with rfl | h2
      · exact (hm.not_mem_erase) hy
      · exact hl h2
    rw [sum_perm (List.perm_cons_erase (hs x List.mem_cons_self))]
    simp only [List.map_cons, List.sum_cons]; omega
theorem sum_le {α : Type} {f g : α → Int} : ∀ {m : List α}, (∀ x, x ∈ m → f x ≤ g x) → (m.map f).sum ≤ (m.map g).sum
  | [], _ => Int.le_refl _
  | x :: m, h => by
    have h1 := sum_le (m := m) fun y hy => h y (List.mem_cons_of_mem _ hy)
    have h2 := h x List.mem_cons_self
    simp only [List.map_cons, List.sum_cons]; omega
theorem sum_tight {α : Type} {f g : α → Int} : ∀ {m : List α}, (∀ x, x ∈ m → f x ≤ g x) → (m.map g).sum ≤ (m.map f).sum → ∀ x, x ∈ m → f x = g x
  | [], _, _ => fun x h => by cases h
  | x :: m, h, hs => fun y hy => by
    have h1 := sum_le (m := m) fun y hy => h y (List.mem_cons_of_mem _ hy)
    have h2 := h x List.mem_cons_self
    simp only [List.map_cons, List.sum_cons] at hs
    rcases List.mem_cons.1 hy with rfl | h3
    · omega
    · exact sum_tight (m := m) (fun y hy => h y (List.mem_cons_of_mem _ hy)) (by omega) y h3
theorem sum_add {α : Type} {f g : α → Int} : ∀ (m : List α), (m.map fun x => f x + g x).sum = (m.map f).sum + (m.map g).sum
  | [] => rfl
  | x :: m => by
    have h1 := sum_add (f := f) (g := g) m
    simp only [List.map_cons, List.sum_cons]; omega
/-- what rows and their columns cost -/
def costS (c : Nat → Nat → Int) (R : Nat) (f : Nat → Nat) : Int := ((List.range R).map fun i => c i (f i)).sum
def dualS (R n : Nat) (rows cols : Nat → Int) : Int := ((List.range R).map rows).sum + ((List.range n).map cols).sum
section
variable {c : Nat → Nat → Int} {R n : Nat} {rows cols owner : Nat → Int} {f : Nat → Nat}
theorem Mat.nodup (h : Mat c R n f) : ((List.range R).map f).Nodup :=
  nodup_map List.nodup_range fun x y hx hy he => h.inj x y (List.mem_range.1 hx) (List.mem_range.1 hy) he
theorem Mat.mem (h : Mat c R n f) : ∀ x, x ∈ (List.range R).map f → x ∈ List.range n := fun k hk => by
  obtain ⟨i, hi, rfl⟩ := List.mem_map.1 hk
  exact List.mem_range.2 (h.lt i (List.mem_range.1 hi))
theorem Mat.cols_le (h : Mat c R n f) (hc : ∀ k, k < n → cols k ≤ 0) : ((List.range n).map cols).sum ≤ ((List.range R).map fun i => cols (f i)).sum := by
  have := sum_sub (f := cols) h.nodup h.mem fun k hk => hc k (List.mem_range.1 hk)
  rwa [List.map_map] at this
theorem weak (hf : ∀ i k, i < R → k < n → 0 ≤ c i k → rows i + cols k ≤ c i k) (hc : ∀ k, k < n → cols k ≤ 0) (h : Mat c R n f) : dualS R n rows cols ≤ costS c R f := by
  have h1 := h.cols_le hc
  have h2 := sum_le (f := fun i => rows i + cols (f i)) (g := fun i => c i (f i)) (m := List.range R) fun i hi => hf i _ (List.mem_range.1 hi) (h.lt i (List.mem_range.1 hi)) (h.ok i (List.mem_range.1 hi))
  rw [sum_add] at h2
  unfold dualS costS; omega
/-- a matching that is exact -/
theorem strong (h : Mat c R n f) (he : ∀ i, i < R → rows i + cols (f i) = c i (f i)) (hz : ∀ k, k < n → (∀ i, i < R → f i ≠ k) → cols k = 0) : costS c R f = dualS R n rows cols := by
  have h1 := sum_sub_eq (f := cols) h.nodup List.nodup_range h.mem fun k hk hn => hz k (List.mem_range.1 hk) fun i hi hfe => hn (List.mem_map.2 ⟨i, List.mem_range.2 hi, hfe⟩)
  rw [List.map_map] at h1
  unfold dualS costS
  rw [show (List.map (fun i => c i (f i)) (List.range R)) = (List.range R).map fun i => rows i + cols (f i) from List.map_congr_left fun i hi => (he i (List.mem_range.1 hi)).symm, sum_add, h1]
  rfl
/-- .. and one that costs what the prices say is exact -/
theorem exact_of (hf : ∀ i k, i < R → k < n → 0 ≤ c i k → rows i + cols k ≤ c i k) (hc : ∀ k, k < n → cols k ≤ 0) (h : Mat c R n f) (hs : costS c R f ≤ dualS R n rows cols) :
    (∀ i, i < R → rows i + cols (f i) = c i (f i)) ∧ ∀ k, k < n → (∀ i, i < R → f i ≠ k) → cols k = 0 := by
  have h1 := h.cols_le hc
  have hle : ∀ i, i ∈ List.range R → rows i + cols (f i) ≤ c i (f i) := fun i hi => hf i _ (List.mem_range.1 hi) (h.lt i (List.mem_range.1 hi)) (h.ok i (List.mem_range.1 hi))
  have h2 := sum_le (f := fun i => rows i + cols (f i)) (g := fun i => c i (f i)) hle
  have h3 := sum_tight (f := fun i => rows i + cols (f i)) (g := fun i => c i (f i)) hle (by rw [sum_add]; unfold dualS costS at hs; omega)
  refine ⟨fun i hi => h3 i (List.mem_range.2 hi), fun k hk hn => ?_⟩
  rw [sum_add] at h2
  have h5 : ((List.range n).map cols).sum ≤ ((List.range R).map fun i => cols (f i)).sum + cols k := by
    have := sum_sub (f := cols) (l := k :: (List.range R).map f) (m := List.range n) (List.nodup_cons.2 ⟨fun hm => by
      obtain ⟨i, hi, he⟩ := List.mem_map.1 hm
      exact hn i (List.mem_range.1 hi) he, h.nodup⟩) (fun x hx => by
      rcases List.mem_cons.1 hx with rfl | hx
      · exact List.mem_range.2 hk
      · exact h.mem x hx) fun k hk => hc k (List.mem_range.1 hk)
    rw [List.map_cons, List.sum_cons, List.map_map] at this
    have e : (List.map (cols ∘ f) (List.range R)) = (List.range R).map fun i => cols (f i) := rfl
    rw [e] at this
    omega
  have h4 := hc k hk
  unfold dualS costS at hs
  omega
/-- the matching that prices bring along -/
theorem RInv.mat (h : RInv c R n R rows cols owner) : ∃ f, Mat c R n f ∧ costS c R f = dualS R n rows cols := by
  have hon : ∀ i : Nat, ∃ k : Nat, i < R → k < n ∧ owner k = (i : Int) := fun i => by
    by_cases hi : i < R
    · obtain ⟨k, h1, h2⟩ := h.onto i hi
      exact ⟨k, fun _ => ⟨h1, h2⟩⟩
    · exact ⟨0, fun h => absurd h hi⟩
  obtain ⟨f, hf⟩ : ∃ f : Nat → Nat, ∀ i, i < R → f i < n ∧ owner (f i) = (i : Int) := ⟨fun i => (hon i).choose, fun i hi => (hon i).choose_spec hi⟩
  have hx : ∀ i, i < R → 0 ≤ c i (f i) ∧ rows i + cols (f i) = c i (f i) := fun i hi => by
    obtain ⟨h1, h2⟩ := hf i hi
    obtain ⟨j, h3, h4, h5, h6⟩ := h.own _ h1 (by omega)
    have : i = j := by omega
    subst this
    exact ⟨h5, h6⟩
  have hM : Mat c R n f := ⟨fun i hi => (hf i hi).1, fun i hi => (hx i hi).1, fun i j hi hj he => by
    have h1 := (hf i hi).2
    have h2 := (hf j hj).2
    rw [he] at h1
    omega⟩
  refine ⟨f, hM, strong hM (fun i hi => (hx i hi).2) fun k hk hn => ?_⟩
  by_cases h0 : owner k < 0
  · exact h.free k hk h0
  · obtain ⟨j, h3, h4, _⟩ := h.own k hk (by omega)
    obtain ⟨h1, h2⟩ := hf j h3
    exact absurd (h.inj _ _ h1 hk (by omega) (by rw [h2, h4])) (hn j h3)
end
end Go.Proofs.YtolmeekbjonbcaaGreat
set_option linter.unusedVariables false
namespace Go.Proofs.YtolmeekbjonbcaaGreat
open Go Go.SX
/-- demands have copies of their own -/
def MeetL (ds : List Dem) (cs : List Cop) : Prop :=
  ∃ g : Dem → Nat, (∀ x, x ∈ ds → ∃ c, cs[g x]? = some c ∧ 0 ≤ costF x c 0) ∧ ∀ x y, x ∈ ds → y ∈ ds → g x = g y → x = y
def withoutF (ds : List Dem) (id : Int) : List Dem := ds.filter fun y => !decide (y.1 = id)
theorem mem_without {ds : List Dem} {id : Int} {x : Dem} : x ∈ withoutF ds id ↔ x ∈ ds ∧ x.1 ≠ id := by simp [withoutF]
theorem MeetL.mono {ds ds' : List Dem} {cs : List Cop} (h : MeetL ds cs) (hs : ∀ x, x ∈ ds' → x ∈ ds) : MeetL ds' cs := by
  obtain ⟨g, h1, h2⟩ := h
  exact ⟨g, fun x hx => h1 x (hs x hx), fun x y hx hy => h2 x y (hs x hx) (hs y hy)⟩
/-- what is known of the demands that are left, when some IDs have been looked at -/
structure RI (ds : List Dem) (cs : List Cop) (done : List Int) (left : List Dem) : Prop where
  sub : left.Sublist ds
  no : ¬ MeetL left cs
  min : ∀ x, x ∈ left → x.1 ∈ done → MeetL (withoutF left x.1) cs
theorem RI.start {ds : List Dem} {cs : List Cop} (h : ¬ MeetL ds cs) : RI ds cs [] ds := ⟨List.Sublist.refl _, h, fun x _ hx => by cases hx⟩
theorem RI.yes {ds left : List Dem} {cs : List Cop} {done : List Int} {id : Int} (h : RI ds cs done left) (hm : MeetL (withoutF left id) cs) : RI ds cs (done ++ [id]) left :=
  ⟨h.sub, h.no, fun x hx hd => by
    rcases List.mem_append.1 hd with h1 | h1
    · exact h.min x hx h1
    · rw [List.mem_singleton] at h1; rw [h1]; exact hm⟩
theorem RI.cut {ds left : List Dem} {cs : List Cop} {done : List Int} {id : Int} (h : RI ds cs done left) (hm : ¬ MeetL (withoutF left id) cs) : RI ds cs (done ++ [id]) (withoutF left id) :=
  ⟨List.Sublist.trans List.filter_sublist h.sub, hm, fun x hx hd => by
    obtain ⟨h1, h2⟩ := mem_without.1 hx
    rcases List.mem_append.1 hd with h3 | h3
    · exact (h.min x h1 h3).mono fun y hy => by
        obtain ⟨h4, h5⟩ := mem_without.1 hy
        exact mem_without.2 ⟨(mem_without.1 h4).1, h5⟩
    · rw [List.mem_singleton] at h3; exact absurd h3 h2⟩
/-- demands that cannot be met together, but without any one of them -/
structure Least (left : List Dem) (cs : List Cop) : Prop where
  no : ¬ MeetL left cs
  min : ∀ x, x ∈ left → MeetL (withoutF left x.1) cs
def RefP (ds : List Dem) (cs : List Cop) (ids : List Int) : Prop :=
  ∃ left : List Dem, left.Sublist ds ∧ Least left cs ∧ ids.Pairwise (· < ·) ∧ ids.Perm (left.map (·.1))
theorem RI.done {ds left : List Dem} {cs : List Cop} {done ids : List Int} (h : RI ds cs done left) (hd : ∀ x, x ∈ ds → x.1 ∈ done) (hs : ids.Pairwise (· < ·)) (hp : ids.Perm (left.map (·.1))) : RefP ds cs ids :=
  ⟨left, h.sub, ⟨h.no, fun x hx => h.min x hx (hd x (h.sub.subset hx))⟩, hs, hp⟩
theorem one_of {ds : List Dem} (hn : (ds.map (·.1)).Nodup) {x y : Dem} (hx : x ∈ ds) (hy : y ∈ ds) (he : x.1 = y.1) : x = y := by
  induction ds with
  | nil => cases hx
  | cons z l ih =>
    rw [List.map_cons, List.nodup_cons] at hn
    rcases List.mem_cons.1 hx with h1 | h1 <;> rcases List.mem_cons.1 hy with h2 | h2
    · rw [h1, h2]
    · exact absurd (List.mem_map.2 ⟨y, h2, by rw [← he, h1]⟩) hn.1
    · exact absurd (List.mem_map.2 ⟨x, h1, by rw [he, h2]⟩) hn.1
    · exact ih hn.2 h1 h2
theorem nodup_of_map {ds : List Dem} (hn : (ds.map (·.1)).Nodup) : ds.Nodup := by
  unfold List.Nodup at hn
  rw [List.pairwise_map] at hn
  exact hn.imp fun h he => h (by rw [he])
/-- a part of it, and it is the whole -/
theorem Least.perm {ds ds' : List Dem} {cs : List Cop} (h : Least ds cs) (hp : ds'.Perm ds) : Least ds' cs :=
  ⟨fun hm => h.no (hm.mono fun x hx => hp.mem_iff.2 hx), fun x hx => (h.min x (hp.mem_iff.1 hx)).mono fun y hy => by
    obtain ⟨h1, h2⟩ := mem_without.1 hy
    exact mem_without.2 ⟨hp.mem_iff.1 h1, h2⟩⟩
theorem Least.all {ds left : List Dem} {cs : List Cop} (h : Least ds cs) (hn : (ds.map (·.1)).Nodup) (hs : left.Sublist ds) (hno : ¬ MeetL left cs) : left = ds := by
  refine hs.eq_of_length ?_
  refine Nat.le_antisymm hs.length_le (nodup_len (nodup_of_map hn) fun x hx => ?_)
  apply Classical.byContradiction
  intro hx2
  exact hno ((h.min x hx).mono fun y hy => mem_without.2 ⟨hs.subset hy, fun he => hx2 (by rw [← one_of hn (hs.subset hy) hx he]; exact hy)⟩)
end Go.Proofs.YtolmeekbjonbcaaGreat
set_option linter.unusedVariables false
namespace Go.Proofs.YtolmeekbjonbcaaGreat
open Go Go.SX
theorem costF_hall {d : Dem} {c : Cop} {h : Int} (h' : Int) (h0 : 0 ≤ costF d c h) : 0 ≤ costF d c h' := by
  unfold costF at *
  split at h0
  · omega
  · rename_i hh
    rw [if_neg hh]
    have : 0 ≤ idxOf d.2.2.2 c.2.2.1 := Int.not_lt.1 fun hl => hh (.inr hl)
    split <;> omega
theorem cF_costs {ds : List Dem} {cs : List Cop} {h : Int} {i k : Nat} {d : Dem} {c : Cop} (hd : ds[i]? = some d) (hc : cs[k]? = some c) : cF (costsF ds cs h) i k = costF d c h :=
  cF_eq (y := cs.map fun c => costF d c h) (by simp [costsF, hd]) (by simp [hc])
theorem costs_len {ds : List Dem} {cs : List Cop} {h : Int} : (costsF ds cs h).length = ds.length := by simp [costsF]
theorem costs_wide {ds : List Dem} {cs : List Cop} {h : Int} (hd : ds ≠ []) : wideF (costsF ds cs h) cs.length = cs.length := by
  unfold wideF
  rw [if_neg]
  rw [costs_len]
  exact fun h => hd (List.length_eq_zero_iff.1 h)
theorem costF_bound {d : Dem} (hv : validD d = true) (c : Cop) (h : Int) : -1 ≤ costF d c h ∧ costF d c h ≤ 1000000 := by
  have h1 : (d.2.2.2.length : Int) ≤ 12 := by
    simp only [validD, Bool.and_eq_true, within, decide_eq_true_eq] at hv
    omega
  have h2 := findI_bound (fun y => c.2.2.1 == y) d.2.2.2
  have h3 : idxOf d.2.2.2 c.2.2.1 = findI (fun y => c.2.2.1 == y) d.2.2.2 := rfl
  unfold costF
  rw [h3]
  split
  · omega
  · rename_i hh
    have : ¬ findI (fun y => c.2.2.1 == y) d.2.2.2 < 0 := fun hl => hh (.inr hl)
    split <;> omega
theorem valid_mem {ds : List Dem} {cs : List Cop} (hv : valid ds cs = true) : ds.length ≤ 200 ∧ (∀ d, d ∈ ds → validD d = true) ∧ (ds.map (·.1)).Nodup ∧ cs.length ≤ 200 ∧ (∀ c, c ∈ cs → validC c = true) ∧ (cs.map (·.1)).Nodup := by
  simp only [valid, validDs, validCs, Bool.and_eq_true, decide_eq_true_eq, List.all_eq_true] at hv
  obtain ⟨⟨⟨h1, h2⟩, h3⟩, ⟨h4, h5⟩, h6⟩ := hv
  exact ⟨h1, h2, h3, h4, h5, h6⟩
theorem wf_costs {ds : List Dem} {cs : List Cop} {h : Int} (hv : valid ds cs = true) (hc : cs.length ≤ 11) : WfC (costsF ds cs h) cs.length := by
  obtain ⟨h1, h2, _⟩ := valid_mem hv
  refine ⟨by rw [costs_len]; exact h1, hc, fun l hl => ?_⟩
  obtain ⟨d, hd, rfl⟩ := List.mem_map.1 hl
  refine ⟨by simp, fun x hx => ?_⟩
  obtain ⟨c, hc, rfl⟩ := List.mem_map.1 hx
  exact costF_bound (h2 d hd) c h
theorem idx_get {α : Type} [BEq α] [LawfulBEq α] {l : List α} {x : α} (h : x ∈ l) : l[l.idxOf x]? = some x := by
  rw [List.getElem?_eq_getElem (List.idxOf_lt_length_of_mem h), List.getElem_idxOf]
theorem get_inj {α : Type} {l : List α} (hn : l.Nodup) {i j : Nat} {x : α} (hi : l[i]? = some x) (hj : l[j]? = some x) : i = j := by
  obtain ⟨h1, h2⟩ := List.getElem?_eq_some_iff.1 hi
  obtain ⟨h3, h4⟩ := List.getElem?_eq_some_iff.1 hj
  exact (List.getElem_inj hn).1 (h2.trans h4.symm)
/-- a matching of the costs, and copies for the demands -/
theorem mat_meet {ds : List Dem} {cs : List Cop} {h : Int} (hn : (ds.map (·.1)).Nodup) : (∃ f, Mat (cF (costsF ds cs h)) (costsF ds cs h).length (wideF (costsF ds cs h) cs.length) f) ↔ MeetL ds cs := by
  rw [costs_len]
  constructor
  · rintro ⟨f, hM⟩
    have hk : ∀ x, x ∈ ds → ds[ds.idxOf x]? = some x ∧ ds.idxOf x < ds.length ∧ f (ds.idxOf x) < cs.length := fun x hx => by
      have h1 := List.idxOf_lt_length_of_mem hx
      refine ⟨idx_get hx, h1, ?_⟩
      have := hM.lt _ h1
      rwa [costs_wide (by rintro rfl; cases hx)] at this
    refine ⟨fun x => f (ds.idxOf x), fun x hx => ?_, fun x y hx hy he => ?_⟩
    · obtain ⟨h1, h2, h3⟩ := hk x hx
      obtain ⟨c, hc⟩ := len_lt (rfl : cs.length = _) h3
      have h4 := hM.ok _ h2
      rw [cF_costs h1 hc] at h4
      exact ⟨c, hc, costF_hall 0 h4⟩
    · obtain ⟨h1, h2, h3⟩ := hk x hx
      obtain ⟨h4, h5, h6⟩ := hk y hy
      have h7 := hM.inj _ _ h2 h5 he
      rw [h7, h4] at h1
      exact (Option.some.inj h1).symm
  · rintro ⟨g, h1, h2⟩
    have hf : ∀ i, i < ds.length → ∃ x, ds[i]? = some x ∧ x ∈ ds ∧ ((ds[i]?.map g).getD 0) = g x := fun i hi => by
      obtain ⟨x, hx⟩ := len_lt (rfl : ds.length = _) hi
      exact ⟨x, hx, List.mem_of_getElem? hx, by rw [hx]; rfl⟩
    refine ⟨fun i => (ds[i]?.map g).getD 0, fun i hi => ?_, fun i hi => ?_, fun i j hi hj he => ?_⟩
    · obtain ⟨x, a1, a2, a3⟩ := hf i hi
      obtain ⟨c, hc, _⟩ := h1 x a2
      rw [a3, costs_wide (by rintro rfl; cases a2)]
      exact (List.getElem?_eq_some_iff.1 hc).1
    · obtain ⟨x, a1, a2, a3⟩ := hf i hi
      obtain ⟨c, hc, h0⟩ := h1 x a2
      simp only [a3, cF_costs a1 hc]
      exact costF_hall h h0
    · obtain ⟨x, a1, a2, a3⟩ := hf i hi
      obtain ⟨y, b1, b2, b3⟩ := hf j hj
      simp only [a3, b3] at he
      have := h2 x y a2 b2 he
      subst this
      exact get_inj (nodup_of_map hn) a1 b1
/-- the best matching -/
structure BestP (c : Nat → Nat → Int) (R m : Nat) (at' : List Nat) : Prop where
  len : at'.length = R
  mat : Mat c R m (fun i => at'.getD i 0)
  least : ∀ f, Mat c R m f → costS c R (fun i => at'.getD i 0) ≤ costS c R f
  lex : ∀ f, Mat c R m f → costS c R f = costS c R (fun i => at'.getD i 0) → ∀ j, j < R → (∀ i, i < j → f i = at'.getD i 0) → at'.getD j 0 ≤ f j
section
variable {cost : List (List Int)} {m : Nat} {rows cols owner : Nat → Int} {at' : List Nat} {used : Nat → Bool}
theorem BInv.get (hB : BInv cost m rows cols cost.length at' used) {i : Nat} (hi : i < cost.length) : at'[i]? = some (at'.getD i 0) ∧ at'.getD i 0 < m ∧ 0 ≤ cF cost i (at'.getD i 0) ∧ rows i + cols (at'.getD i 0) = cF cost i (at'.getD i 0) := by
  obtain ⟨k, hk⟩ := len_lt hB.len hi
  have h1 := hB.ex i k hk
  rw [getD_some hk]
  exact ⟨hk, h1⟩
theorem BInv.mat (hB : BInv cost m rows cols cost.length at' used) : Mat (cF cost) cost.length m (fun i => at'.getD i 0) :=
  ⟨fun i hi => (hB.get hi).2.1, fun i hi => (hB.get hi).2.2.1, fun i j hi hj he => by
    have h1 := (hB.get hi).1
    have h2 := (hB.get hj).1
    rw [he] at h1
    exact get_inj hB.nd h1 h2⟩
theorem BInv.dual (hB : BInv cost m rows cols cost.length at' used) : costS (cF cost) cost.length (fun i => at'.getD i 0) = dualS cost.length m rows cols :=
  strong hB.mat (fun i hi => (hB.get hi).2.2.2) fun k hk hn => hB.done k hk fun hm => by
    obtain ⟨i, hi⟩ := List.mem_iff_getElem?.1 hm
    have hl := (List.getElem?_eq_some_iff.1 hi).1
    rw [hB.len] at hl
    exact hn i hl (getD_some hi)
theorem mem_usedB {l : List Nat} {R j x : Nat} (hl : l.length = R) (hj : j ≤ R) (h : usedB (l.take j) x = true) : ∃ i, i < j ∧ l.getD i 0 = x := by
  simp only [usedB, decide_eq_true_eq] at h
  obtain ⟨i, hi⟩ := List.mem_iff_getElem?.1 h
  have hij : i < j := by have := (List.getElem?_eq_some_iff.1 hi).1; simp at this; omega
  rw [List.getElem?_take_of_lt hij] at hi
  exact ⟨i, hij, getD_some hi⟩
theorem usedB_mem {l : List Nat} {R j i : Nat} (hl : l.length = R) (hj : j ≤ R) (hi : i < j) : usedB (l.take j) (l.getD i 0) = true := by
  obtain ⟨k, hk⟩ := len_lt hl (show i < R by omega)
  rw [getD_some hk]
  simp only [usedB, decide_eq_true_eq]
  exact List.mem_iff_getElem?.2 ⟨i, by rw [List.getElem?_take_of_lt hi]; exact hk⟩
theorem best_of (hR : RInv (cF cost) cost.length m cost.length rows cols owner) (hB : BInv cost m rows cols cost.length at' used) : BestP (cF cost) cost.length m at' := by
  refine ⟨hB.len, hB.mat, fun f hf => by rw [hB.dual]; exact weak hR.feas hR.cneg hf, fun f hf he j h0 hpre => ?_⟩
  rw [hB.dual] at he
  obtain ⟨h1, h2⟩ := exact_of hR.feas hR.cneg hf (by omega)
  apply Classical.byContradiction
  intro hlt
  have hxx : ∀ i, i < cost.length → 0 ≤ cF cost i (f i) ∧ rows i + cols (f i) = cF cost i (f i) := fun i hi => ⟨hf.ok i hi, h1 i hi⟩
  have hnu : ∀ i, i < cost.length → j ≤ i → usedB (at'.take j) (f i) = false := fun i hi hji => by
    cases hu : usedB (at'.take j) (f i) with
    | false => rfl
    | true =>
      obtain ⟨i', hi', he'⟩ := mem_usedB hB.len (Nat.le_of_lt h0) hu
      rw [← hpre i' hi'] at he'
      have := hf.inj i' i (by omega) hi he'
      omega
  refine hB.lex j _ (hB.get h0).1 (f j) (by omega) (exF_iff.2 ⟨hnu j h0 (Nat.le_refl _), hxx j h0⟩) ?_
  have hD : ∀ x : Int, 0 ≤ x → rowsD (j + 1) cost.length x = true → x.toNat < cost.length ∧ j < x.toNat := fun x h0 hx => by have := rowsD_iff.1 hx; omega
  have hcol : ∀ x : Int, 0 ≤ x → colsD (setB (usedB (at'.take j)) (f j)) cols m x = true → ∃ i, i < cost.length ∧ j < i ∧ f i = x.toNat ∧ setB (usedB (at'.take j)) (f j) x.toNat = false := fun x hx0 hx => by
    have e : x = ((x.toNat : Nat) : Int) := (Int.toNat_of_nonneg hx0).symm
    rw [e] at hx
    obtain ⟨g1, g2, g3⟩ := colsD_iff.1 hx
    obtain ⟨i, hi, he⟩ : ∃ i, i < cost.length ∧ f i = x.toNat := by
      apply Classical.byContradiction
      intro hno
      exact g3 (h2 _ g1 fun i hi he => hno ⟨i, hi, he⟩)
    refine ⟨i, hi, ?_, he, g2⟩
    rw [← he] at g2
    simp only [setB, Bool.or_eq_false_iff, decide_eq_false_iff_not] at g2
    rcases Nat.lt_trichotomy i j with h | h | h
    · rw [hpre i h] at g2
      rw [usedB_mem hB.len (Nat.le_of_lt h0) h] at g2
      exact absurd g2.2 (by simp)
    · subst h; exact absurd rfl g2.1
    · exact h
  refine ⟨⟨fun x => f x.toNat, fun x hx0 hx => hf.lt _ (hD x hx0 hx).1, fun x hx0 hx => ?_, fun x y hx0 hy0 hx hy he => ?_⟩, ?_⟩
  · obtain ⟨a1, a2⟩ := hD x hx0 hx
    have e : x = ((x.toNat : Nat) : Int) := (Int.toNat_of_nonneg hx0).symm
    rw [e]
    refine exF_iff.2 ⟨?_, hxx _ a1⟩
    show setB (usedB (at'.take j)) (f j) (f x.toNat) = false
    simp only [setB, Bool.or_eq_false_iff, decide_eq_false_iff_not]
    refine ⟨fun he => ?_, hnu _ a1 (by omega)⟩
    have := hf.inj _ _ a1 h0 he
    omega
  · have := hf.inj _ _ (hD x hx0 hx).1 (hD y hy0 hy).1 he
    omega
  · obtain ⟨g, hg⟩ : ∃ g : Int → Nat, ∀ x : Int, 0 ≤ x → colsD (setB (usedB (at'.take j)) (f j)) cols m x = true → g x < cost.length ∧ j < g x ∧ f (g x) = x.toNat ∧ setB (usedB (at'.take j)) (f j) x.toNat = false := by
      have : ∀ x : Int, ∃ i : Nat, 0 ≤ x → colsD (setB (usedB (at'.take j)) (f j)) cols m x = true → i < cost.length ∧ j < i ∧ f i = x.toNat ∧ setB (usedB (at'.take j)) (f j) x.toNat = false := fun x => by
        by_cases hx : 0 ≤ x ∧ colsD (setB (usedB (at'.take j)) (f j)) cols m x = true
        · obtain ⟨i, hi⟩ := hcol x hx.1 hx.2
          exact ⟨i, fun _ _ => hi⟩
        · exact ⟨0, fun a b => absurd ⟨a, b⟩ hx⟩
      exact ⟨fun x => (this x).choose, fun x => (this x).choose_spec⟩
    refine ⟨g, fun x hx0 hx => (hg x hx0 hx).1, fun x hx0 hx => ?_, fun x y hx0 hy0 hx hy he => ?_⟩
    · obtain ⟨a1, a2, a3, a4⟩ := hg x hx0 hx
      refine backF_iff.2 ⟨by omega, exF_iff.2 ⟨a4, ?_⟩⟩
      have := hxx _ a1
      rwa [a3] at this
    · have h3 := (hg x hx0 hx).2.2.1
      have h4 := (hg y hy0 hy).2.2.1
      rw [he, h4] at h3
      omega
/-- the best matching is one -/
theorem BestP.uniq {c : Nat → Nat → Int} {R m : Nat} {a b : List Nat} (h : BestP c R m a) (h' : BestP c R m b) : a = b := by
  have hc : costS c R (fun i => a.getD i 0) = costS c R (fun i => b.getD i 0) := Int.le_antisymm (h.least _ h'.mat) (h'.least _ h.mat)
  have key : ∀ n j, j < n → j < R → a.getD j 0 = b.getD j 0 := fun n => by
    induction n with
    | zero => intro j hj; omega
    | succ n ih =>
      intro j hj hR
      have h1 := h.lex _ h'.mat hc.symm j hR fun i hi => (ih i (by omega) (by omega)).symm
      have h2 := h'.lex _ h.mat hc j hR fun i hi => ih i (by omega) (by omega)
      exact Nat.le_antisymm h1 h2
  apply List.ext_getElem (by rw [h.len, h'.len])
  intro j h1 h2
  have := key (j + 1) j (by omega) (by rw [← h.len]; exact h1)
  rwa [getD_some (List.getElem?_eq_getElem h1), getD_some (List.getElem?_eq_getElem h2)] at this
end
section
variable {can : Int → Nat → Bool}
/-- rows that cannot all have columns, but without any one of them they can: all of them are met -/
theorem MOk.full {n r R : Nat} {owner : List Int} {D : Int → Bool} (h : MOk can n D owner) (hD : ∀ x : Int, 0 ≤ x → D x = below r x) (hrR : r < R) (hb : (topF can n (r : Int) owner).1 = false) (hmin : ∀ j, j < R → ∃ f, Cov can n (fun x => below R x && !decide (x = (j : Int))) f) : (topF can n (r : Int) owner).2.2.length = R := by
  obtain ⟨g1, g2, T, g3, g4, g5, g6⟩ := h.stuck (by rw [hD _ (by omega)]; exact decide_eq_false (by omega)) hb
  obtain ⟨met, hmet⟩ : ∃ met, (topF can n (r : Int) owner).2.2 = met := ⟨_, rfl⟩
  rw [hmet] at g1 g2 g4 g5 g6 ⊢
  obtain ⟨A, hAn, hAm⟩ := exists_nodup met
  have hA0 : ∀ x, x ∈ A → 0 ≤ x ∧ x < (R : Int) := fun x hx => by
    rcases g2 x ((hAm x).1 hx) with rfl | ⟨h1, h2⟩
    · omega
    · rw [hD x h1] at h2
      have := of_decide_eq_true h2
      omega
  have h2 := nodup_len (l := T.map fun k => owner.getD k 0) (m := A.erase (r : Int)) (nodup_map g3 fun x y hx hy he => by
      obtain ⟨o, a1, a0, a2, a3⟩ := g5 x hx
      obtain ⟨o', b1, b0, b2, b3⟩ := g5 y hy
      simp only [getD_some a1, getD_some b1] at he
      subst he
      exact h.one a0 a1 b1) fun i hi => by
    obtain ⟨k, hk, rfl⟩ := List.mem_map.1 hi
    obtain ⟨o, a1, a0, a2, a3⟩ := g5 k hk
    rw [getD_some a1]
    exact (List.mem_erase_of_ne a3).2 ((hAm _).2 a2)
  have h3 : (r : Int) ∈ A := (hAm _).2 g1
  have h4 := List.length_erase_of_mem h3
  have h5 := List.length_pos_of_mem h3
  rw [List.length_map] at h2
  have hall : ∀ j, j < R → (j : Int) ∈ A := fun j hj => by
    apply Classical.byContradiction
    intro hjA
    obtain ⟨f, hM⟩ := hmin j hj
    have hA1 : ∀ x, x ∈ A → 0 ≤ x ∧ (below R x && !decide (x = (j : Int))) = true := fun x hx => by
      obtain ⟨q1, q2⟩ := hA0 x hx
      refine ⟨q1, ?_⟩
      simp only [below, Bool.and_eq_true, decide_eq_true_eq, Bool.not_eq_true', decide_eq_false_iff_not]
      exact ⟨q2, fun he => hjA (he ▸ hx)⟩
    have h1 := nodup_len (l := A.map f) (m := T) (nodup_map hAn fun x y hx hy he => hM.inj x y (hA1 x hx).1 (hA1 y hy).1 (hA1 x hx).2 (hA1 y hy).2 he) fun k hk => by
      obtain ⟨i, hi, rfl⟩ := List.mem_map.1 hk
      obtain ⟨h2, h3⟩ := hA1 i hi
      exact g4 _ _ ((hAm i).1 hi) (hM.lt i h2 h3) (hM.ok i h2 h3)
    rw [List.length_map] at h1
    omega
  have h6 := nodup_len (l := (List.range R).map Int.ofNat) (m := A) (nodup_map List.nodup_range fun x y _ _ he => Int.ofNat.inj he) fun x hx => by
    obtain ⟨j, hj, rfl⟩ := List.mem_map.1 hx
    exact hall j (List.mem_range.1 hj)
  have h7 := nodup_len (l := A) (m := (List.range R).map Int.ofNat) hAn fun x hx => List.mem_map.2 ⟨x.toNat, List.mem_range.2 (by have := hA0 x hx; omega), Int.toNat_of_nonneg (hA0 x hx).1⟩
  have h8 := nodup_len (l := A) (m := met) hAn fun x hx => (hAm x).1 hx
  simp only [List.length_map, List.length_range] at h6 h7
  omega
end
end Go.Proofs.YtolmeekbjonbcaaGreat
set_option linter.unusedVariables false
set_option linter.unusedSimpArgs false
set_option maxHeartbeats 1000000
namespace Go.Proofs.YtolmeekbjonbcaaGreat
open Int renaming reduceEq → q1, reduceLT → q2, reduceBEq → q3, reduceBNe → q4
open Nat renaming reduceAdd → q5, reduceSub → q6, reduceMul → q7, reduceLT → q8, reduceLeDiff → q9, reduceEqDiff → qa
open List renaming reduceReplicate → qb
open Go Go.SX Go.RowKit
def pS (f : Nat → Int) (x : Nat) : Int := ((List.range x).map f).sum
theorem pS_zero (f : Nat → Int) : pS f 0 = 0 := rfl
theorem pS_succ (f : Nat → Int) (x : Nat) : pS f (x + 1) = pS f x + f x := by
  unfold pS
  rw [List.range_succ, List.map_append, List.sum_append]; simp
theorem pS_bound {f : Nat → Int} {n : Nat} {M : Int} (hM : 0 ≤ M) (h : ∀ i, i < n → -M ≤ f i ∧ f i ≤ M) : ∀ x, x ≤ n → -((x : Int) * M) ≤ pS f x ∧ pS f x ≤ (x : Int) * M
  | 0, _ => by simp [pS_zero]
  | x + 1, hx => by
    obtain ⟨h1, h2⟩ := pS_bound hM h x (by omega)
    obtain ⟨h3, h4⟩ := h x (by omega)
    rw [pS_succ]
    have : ((x + 1 : Nat) : Int) * M = (x : Int) * M + M := by push_cast; rw [Int.add_mul, Int.one_mul]
    omega
theorem pS_small {f : Nat → Int} {n : Nat} (h : ∀ i, i < n → -132000000 ≤ f i ∧ f i ≤ 132000000) {x : Nat} (hx : x ≤ n) (h11 : n ≤ 11) : -1452000000 ≤ pS f x ∧ pS f x ≤ 1452000000 := by
  have := pS_bound (M := 132000000) (by decide) h x hx
  omega
theorem at_get {at' : List Nat} {x R : Nat} (h : at'.length = R) (hx : x < R) : (at'.map Int.ofNat)[x]? = some ((at'.getD x 0 : Nat) : Int) := by
  obtain ⟨k, hk⟩ := len_lt h hx
  rw [getD_some hk]; simp [hk]
theorem at_new {c : Nat → Nat → Int} {R m : Nat} {at' : List Nat} (hB : BestP c R m at') {x : Nat} (hx : x < R) : ((at'.getD x 0 : Nat) : Int) ∉ (at'.take x).map Int.ofNat := fun hm => by
  obtain ⟨k, hk, he⟩ := List.mem_map.1 hm
  obtain ⟨i, hi⟩ := List.mem_iff_getElem?.1 hk
  have hi2 : i < x := by have := (List.getElem?_eq_some_iff.1 hi).1; simp at this; omega
  rw [List.getElem?_take_of_lt hi2] at hi
  have h1 := hB.mat.inj i x (by omega) hx (by show at'.getD i 0 = at'.getD x 0; rw [getD_some hi]; exact Int.ofNat.inj he)
  omega
theorem at_snoc {at' : List Nat} {x R : Nat} (h : at'.length = R) (hx : x < R) : (at'.take x).map Int.ofNat ++ [((at'.getD x 0 : Nat) : Int)] = (at'.take (x + 1)).map Int.ofNat := by
  obtain ⟨k, hk⟩ := len_lt h hx
  rw [getD_some hk]; exact (take_map_snoc Int.ofNat at' hk).symm
theorem best_dual {c : Nat → Nat → Int} {R m : Nat} {at' : List Nat} {rows cols owner : Nat → Int} (hB : BestP c R m at') (hR : RInv c R m R rows cols owner) : pS (fun j => c j (at'.getD j 0)) R - pS cols m - pS rows R = 0 := by
  obtain ⟨g, h1, h2⟩ := hR.mat
  have h3 := hB.least g h1
  have h4 := weak hR.feas hR.cneg hB.mat
  have e1 : costS c R (fun i => at'.getD i 0) = pS (fun j => c j (at'.getD j 0)) R := rfl
  have e2 : dualS R m rows cols = pS rows R + pS cols m := rfl
  omega
/-- function 16 -/
theorem proves_spec {w : World} {cost : List (List Int)} {n m : Nat} {at9 : List Nat} {rows cols owner : Nat → Int} {p0 pa pr pc : Option Addr} {c0 ca cr cc : Nat} {S : Nat → Prop} (hw : WfC cost n) (hm : wideF cost n = m)
    (hl : rRows.rd S w [.slice p0 cost.length c0] cost) (ha : rInts.rd S w [.slice pa cost.length ca] (at9.map Int.ofNat)) (hr : rInts.rd S w [.slice pr cost.length cr] (tab cost.length rows)) (hcl : rInts.rd S w [.slice pc m cc] (tab m cols)) (hB : BestP (cF cost) cost.length m at9) (hR : RInv (cF cost) cost.length m cost.length rows cols owner) : Gives Tryz.prog 16 #[.slice p0 cost.length c0, .slice pa cost.length ca, .slice pr cost.length cr, .slice pc m cc] w fun r _ => r = .tuple #[.bool true, .int .i64 0] := by
  have hl : (Rp.slice rInts).rd (fun _ => True) w _ cost := Rp.any hl
  have ha : (Rp.slice rInt).rd (fun _ => True) w _ _ := Rp.any ha
  have hr : (Rp.slice rInt).rd (fun _ => True) w _ _ := Rp.any hr
  have hcl : (Rp.slice rInt).rd (fun _ => True) w _ _ := Rp.any hcl
  have hr2 := hw.rows
  have hC := costOk_of hw
  rw [hm] at hC
  have hm11 := hC.small
  have hRm := hB.mat.le
  obtain ⟨hrb, hcb⟩ := hR.small (by omega)
  have hmn : ∀ l, l ∈ cost → l.length = m := fun l hl => by rw [← hm, wideF, if_neg (by intro h0; rw [List.length_eq_zero_iff.1 h0] at hl; cases hl)]; exact (hw.row l hl).1
  have hrow : ∀ l, l ∈ cost → ∀ x, x ∈ l → -1 ≤ x ∧ x ≤ 1000000 := fun l hl => (hw.row l hl).2
  obtain ⟨A, hA⟩ : ∃ A : Nat → Int, A = fun j => cF cost j (at9.getD j 0) := ⟨_, rfl⟩
  have hat : ∀ x, x < cost.length → at9.getD x 0 < m ∧ 0 ≤ A x ∧ A x ≤ 1000000 := fun x hx => by
    rw [hA]
    exact ⟨hB.mat.lt x hx, hB.mat.ok x hx, hC.hi x _ hx (hB.mat.lt x hx)⟩
  have hsA : ∀ x, x ≤ cost.length → -1452000000 ≤ pS A x ∧ pS A x ≤ 1452000000 := fun x hx => pS_small (fun i hi => by have := (hat i hi).2; omega) hx (by omega)
  have hsC : ∀ x, x ≤ m → -1452000000 ≤ pS cols x ∧ pS cols x ≤ 1452000000 := fun x hx => pS_small (fun i hi => by have := hcb i hi; omega) hx hm11
  have hsR : ∀ x, x ≤ cost.length → -1452000000 ≤ pS rows x ∧ pS rows x ≤ 1452000000 := fun x hx => pS_small (fun i hi => by have := hrb i hi; omega) hx (by omega)
  have hend : pS A cost.length - pS cols m - pS rows cost.length = 0 := by rw [hA]; exact best_dual hB hR
  refine gives_of [.val (.slice p0 cost.length c0), .val (.slice pa cost.length ca), .val (.slice pr cost.length cr), .val (.slice pc m cc)] 146 [.tmp 8, .tmp 9] Tryz.func16 rfl rfl rfl (by simp) rfl rfl ?_
  refine W.pure (ds := []) rfl fun K1 hK1 => ?_
  simp only [sx, ty, q1, q2, q5, q6, q7, q8, q9, qa, qb, reduceIte, sy, q3, q4]; with_reducible refine hK1 _ ?_; clear hK1
  refine W.seqK fun K2 hK2 => ?_
  refine W.seqK fun K3 hK3 => W.region ?_
  refine WO.go 1 (ds := []) rfl ?_
  simp only [sx, ty, q1, q2, q5, q6, q7, q8, q9, qa, qb, reduceIte, sy, q3, q4]
  refine WO.call (.int .i64 0) (ds := []) rfl rfl rfl rfl co33 (fun ρ w1 hb => formed_spec (Rp.now hl (hb.first (by simp))) hw) ?_
  refine WO.go 1 (ds := []) rfl ?_
  simp only [sx, ty, q1, q2, q5, q6, q7, q8, q9, qa, qb, reduceIte, sy, q3, q4]
  with_reducible refine WO.nil ?_
  refine hK3 _ ?_; clear hK3
  refine W.pure (ds := []) rfl fun K4 hK4 => ?_
  simp only [sx, ty, q1, q2, q5, q6, q7, q8, q9, qa, qb, reduceIte, sy, q3, q4]; with_reducible refine hK4 _ ?_; clear hK4
  refine W.cond rfl rfl (fun hc => ?_) (fun hc => ?_)
  · skip
    simp at hc
  · skip
    refine W.skip (hK2 _ ?_)
    refine W.seqK fun K5 hK5 => ?_
    refine W.join 44 (.val (.bool false)) [0, 1, 2, 3] (W.region ?_) ?_
    · skip
      refine WO.go 6 (ds := [some 26, some 27, some 28, some 29, some 30, some 31, some 32, some 33, some 34, some 35, some 36, some 37, some 38, some 39, some 40, some 41, some 42, some 43, some 44]) rfl ?_
      simp only [sx, ty, q1, q2, q5, q6, q7, q8, q9, qa, qb, reduceIte, sy, q3, q4]
      refine WO.cases 31 _ rfl (fun hg31 => ?_) (fun hg31 => ?_)
      · skip
        simp at hg31
      · skip
        refine WO.go 7 (ds := [some 26, some 27, some 28, some 29, some 30, some 31, some 32, some 33, some 34, some 35, some 36, some 37, some 38, some 39, some 40, some 41, some 42, some 43, some 44]) rfl ?_
        simp only [sx, ty, q1, q2, q5, q6, q7, q8, q9, qa, qb, reduceIte, sy, q3, q4]
        refine WO.cases 38 _ rfl (fun hg38 => ?_) (fun hg38 => ?_)
        · skip
          simp at hg38
        · skip
          refine WO.go 3 (ds := [some 26, some 27, some 28, some 29, some 30, some 31, some 32, some 33, some 34, some 35, some 36, some 37, some 38, some 39, some 40, some 41, some 42, some 43, some 44]) rfl ?_
          simp only [sx, ty, q1, q2, q5, q6, q7, q8, q9, qa, qb, reduceIte, sy, q3, q4]
          refine WO.call (.int .i64 (m : Int)) (ds := [some 26, some 27, some 28, some 29, some 30, some 31, some 32, some 33, some 34, some 35, some 36, some 37, some 38, some 39, some 40, some 41, some 42, some 43, some 44]) rfl rfl rfl rfl co31 (fun ρ w1 hb => by have h9 := wide_spec (Rp.now hl (hb.first (by simp))) (fun l hl => (hw.row l hl).1); rw [← hm]; exact h9) ?_
          refine WO.go 2 (ds := [some 26, some 27, some 28, some 29, some 30, some 31, some 32, some 33, some 34, some 35, some 36, some 37, some 38, some 39, some 40, some 41, some 42, some 43, some 44]) rfl ?_
          simp only [sx, ty, q1, q2, q5, q6, q7, q8, q9, qa, qb, reduceIte, sy, q3, q4]
          with_reducible refine WO.nil ?_
          refine ⟨rfl, ?_, ⟨_, rfl⟩, by simp [Own.bnd, bndL, bnd, boxO], by simp⟩
          try simp [getE, bnd, keepE, hwd]
          try simp [getE, bnd, keepE]
    · simp only [sx, ty, q1, q2, q5, q6, q7, q8, q9, qa, qb, reduceIte, sxk, sy, q3, q4]
      refine W.cond rfl rfl (fun hc => ?_) (fun hc => ?_)
      · skip
        simp at hc
      · skip
        refine W.skip (hK5 _ ?_)
        refine W.seqK fun K7 hK7 => W.region ?_
        refine WO.makeSet (ds := []) rfl rfl rfl rfl fun r => ?_
        simp only [St.pushO]
        refine WO.go 1 (ds := []) rfl ?_
        simp only [sx, ty, q1, q2, q5, q6, q7, q8, q9, qa, qb, reduceIte, sy, q3, q4]
        with_reducible refine WO.nil ?_
        refine hK7 _ ?_; clear hK7
        refine W.pure (ds := []) rfl fun K8 hK8 => ?_
        simp only [sx, ty, q1, q2, q5, q6, q7, q8, q9, qa, qb, reduceIte, sy, q3, q4]; with_reducible refine hK8 _ ?_; clear hK8
        refine W.seqK fun K9 hK9 => ?_
        refine W.pure (ds := []) rfl fun K10 hK10 => ?_
        simp only [sx, ty, q1, q2, q5, q6, q7, q8, q9, qa, qb, reduceIte, sy, q3, q4]; with_reducible refine hK10 _ ?_; clear hK10
        refine W.block ?_
        refine W.loopO (X := Nat) [0, 2, 3, 11, 46, 47] (fun x => [(12, .val (.int .i64 (pS A x))), (48, .val (.int .i64 (x : Int)))]) (fun x => [.map r (setE ((at9.take x).map Int.ofNat)) ((at9.take x).map Int.ofNat).length]) (fun x => [((fun _ => True), w)]) (fun x => x ≤ cost.length) (fun x => cost.length - x) 0 ?_ ?_ ?_
        · exact ⟨rfl, by simp [getE, bnd, keepE, pS_zero], ⟨[], by simp⟩, by simp [Own.bnd, bndL, bnd, boxO], by simp⟩
        · skip
          exact Nat.zero_le _
        · rintro x hxc
          simp only [sx, ty, q1, q2, q5, q6, q7, q8, q9, qa, qb, reduceIte, sxk, sy, q3, q4]
          refine W.pure (ds := []) rfl fun K11 hK11 => ?_
          simp only [sx, ty, q1, q2, q5, q6, q7, q8, q9, qa, qb, reduceIte, sy, q3, q4]; with_reducible refine hK11 _ ?_; clear hK11
          refine W.seqK fun K12 hK12 => ?_
          refine W.cond rfl rfl (fun hc => ?_) (fun hc => ?_)
          · skip
            have hlt : x < cost.length := by simpa using hc
            obtain ⟨k, hk⟩ : ∃ k, at9.getD x 0 = k := ⟨_, rfl⟩
            obtain ⟨hkm, hz0, hz1⟩ := hat x hlt
            rw [hk] at hkm
            obtain ⟨y, hy⟩ := len_lt (rfl : cost.length = _) hlt
            have hyn := hmn y (List.mem_of_getElem? hy)
            obtain ⟨z, hz⟩ := len_lt hyn hkm
            have hcz := cF_eq hy hz
            have hAz : A x = z := by rw [hA]; simp only [hk]; exact hcz
            rw [hAz] at hz0 hz1
            have hgk := at_get hB.len hlt
            rw [hk] at hgk
            have hnk := at_new hB hlt
            rw [hk] at hnk
            have hnk2 : ¬ (k : Int) ∈ List.take x (List.map Int.ofNat at9) := by rw [← List.map_take]; exact hnk
            have hs1 := hsA x hxc
            have hs2 : IntKind.i64.wrap (pS A x + z) = pS A (x + 1) := by rw [wrap_id (by omega) (by omega), pS_succ, hAz]
            refine W.skip (hK12 _ ?_)
            refine W.seqK fun K13 hK13 => ?_
            refine W.block ?_
            refine W.seqK fun K14 hK14 => W.region ?_
            refine WO.go 1 (ds := []) rfl ?_
            simp only [sx, ty, q1, q2, q5, q6, q7, q8, q9, qa, qb, reduceIte, sy, q3, q4]
            refine WO.elem (y := (k : Int)) ha (by simp [St.put]) (ds := []) rfl rfl rfl (by simp [St.put]) (fun _ => rfl) rfl rfl rfl rfl rfl el27 agg3 sz3 (.inr rfl) (by omega) (hgk) fun p ces hces => ?_
            obtain rfl := rInt_open hces
            clear hces
            refine WO.go 2 (ds := []) rfl ?_
            simp only [sx, ty, q1, q2, q5, q6, q7, q8, q9, qa, qb, reduceIte, sy, q3, q4]
            with_reducible refine WO.nil ?_
            refine hK14 _ ?_; clear hK14
            refine W.seqK fun K15 hK15 => ?_
            refine W.join 75 (.val (.bool false)) [0, 2, 3, 11, 12, 13, 14, 46, 47, 48] (W.region ?_) ?_
            · skip
              refine WO.go 3 (ds := [some 53, some 54, some 55, some 56, some 57, some 58, some 59, some 60, some 61, some 62, some 63, some 64, some 65, some 66, some 67, some 68, some 69, some 70, some 71, some 72, some 73, some 74, some 75]) rfl ?_
              simp only [sx, ty, q1, q2, q5, q6, q7, q8, q9, qa, qb, reduceIte, sy, q3, q4]
              refine WO.cases 55 _ rfl (fun hg55 => ?_) (fun hg55 => ?_)
              · skip
                simp at hg55; omega
              · skip
                refine WO.go 6 (ds := [some 53, some 54, some 55, some 56, some 57, some 58, some 59, some 60, some 61, some 62, some 63, some 64, some 65, some 66, some 67, some 68, some 69, some 70, some 71, some 72, some 73, some 74, some 75]) rfl ?_
                simp only [sx, ty, q1, q2, q5, q6, q7, q8, q9, qa, qb, reduceIte, sy, q3, q4]
                refine WO.cases 61 _ rfl (fun hg61 => ?_) (fun hg61 => ?_)
                · skip
                  simp at hg61; omega
                · skip
                  refine WO.go 2 (ds := [some 53, some 54, some 55, some 56, some 57, some 58, some 59, some 60, some 61, some 62, some 63, some 64, some 65, some 66, some 67, some 68, some 69, some 70, some 71, some 72, some 73, some 74, some 75]) rfl ?_
                  simp only [sx, ty, q1, q2, q5, q6, q7, q8, q9, qa, qb, reduceIte, sy, q3, q4]
                  refine WO.elem (y := y) hl (by simp [St.put]) (ds := [some 53, some 54, some 55, some 56, some 57, some 58, some 59, some 60, some 61, some 62, some 63, some 64, some 65, some 66, some 67, some 68, some 69, some 70, some 71, some 72, some 73, some 74, some 75]) rfl rfl rfl (by simp [St.put]) (fun _ => rfl) rfl rfl rfl rfl rfl el36 agg27 sz27 (.inr rfl) (by omega) (hy) fun p ces hces => ?_
                  obtain ⟨p9, c9, rfl, hc5, hc6⟩ := rInts_open hces
                  have hces1 := hces
                  clear hces
                  refine WO.go 1 (ds := [some 53, some 54, some 55, some 56, some 57, some 58, some 59, some 60, some 61, some 62, some 63, some 64, some 65, some 66, some 67, some 68, some 69, some 70, some 71, some 72, some 73, some 74, some 75]) rfl ?_
                  simp only [sx, ty, q1, q2, q5, q6, q7, q8, q9, qa, qb, reduceIte, sy, q3, q4]
                  refine WO.elem (y := z) hces1 (by simp [St.put]) (ds := [some 53, some 54, some 55, some 56, some 57, some 58, some 59, some 60, some 61, some 62, some 63, some 64, some 65, some 66, some 67, some 68, some 69, some 70, some 71, some 72, some 73, some 74, some 75]) rfl rfl rfl (by simp [St.put]) (fun _ => rfl) rfl rfl rfl rfl rfl el27 agg3 sz3 (.inr rfl) (by omega) (hz) fun p ces hces => ?_
                  obtain rfl := rInt_open hces
                  clear hces
                  refine WO.go 3 (ds := [some 53, some 54, some 55, some 56, some 57, some 58, some 59, some 60, some 61, some 62, some 63, some 64, some 65, some 66, some 67, some 68, some 69, some 70, some 71, some 72, some 73, some 74, some 75]) rfl ?_
                  simp only [sx, ty, q1, q2, q5, q6, q7, q8, q9, qa, qb, reduceIte, sy, q3, q4]
                  refine WO.cases 71 _ rfl (fun hg71 => ?_) (fun hg71 => ?_)
                  · skip
                    simp at hg71; omega
                  · skip
                    refine WO.go 2 (ds := [some 53, some 54, some 55, some 56, some 57, some 58, some 59, some 60, some 61, some 62, some 63, some 64, some 65, some 66, some 67, some 68, some 69, some 70, some 71, some 72, some 73, some 74, some 75]) rfl ?_
                    simp only [sx, ty, q1, q2, q5, q6, q7, q8, q9, qa, qb, reduceIte, sy, q3, q4]
                    refine WO.inSet (k := 0) (ks := (at9.take x).map Int.ofNat) (ds := [some 53, some 54, some 55, some 56, some 57, some 58, some 59, some 60, some 61, some 62, some 63, some 64, some 65, some 66, some 67, some 68, some 69, some 70, some 71, some 72, some 73, some 74, some 75]) rfl rfl rfl rfl rfl rfl rfl ms37 ?_
                    refine WO.go 1 (ds := [some 53, some 54, some 55, some 56, some 57, some 58, some 59, some 60, some 61, some 62, some 63, some 64, some 65, some 66, some 67, some 68, some 69, some 70, some 71, some 72, some 73, some 74, some 75]) rfl ?_
                    simp only [sx, ty, q1, q2, q5, q6, q7, q8, q9, qa, qb, reduceIte, sy, q3, q4]
                    with_reducible refine WO.nil ?_
                    refine ⟨rfl, ?_, ⟨_, rfl⟩, by simp [Own.bnd, bndL, bnd, boxO], by simp⟩
                    try simp [getE, bnd, keepE, hnk2]
                    try simp [getE, bnd, keepE]
            · simp only [sx, ty, q1, q2, q5, q6, q7, q8, q9, qa, qb, reduceIte, sxk, sy, q3, q4]
              refine W.cond rfl rfl (fun hc => ?_) (fun hc => ?_)
              · skip
                simp at hc
              · skip
                refine W.skip (hK15 _ ?_)
                refine W.seqK fun K17 hK17 => W.region ?_
                refine WO.go 2 (ds := []) rfl ?_
                simp only [sx, ty, q1, q2, q5, q6, q7, q8, q9, qa, qb, reduceIte, sy, q3, q4]
                refine WO.addSet (k := 0) (ks := (at9.take x).map Int.ofNat) (ds := []) rfl rfl rfl rfl rfl rfl rfl rfl ms37 hnk ?_
                simp only [setOwn]
                rw [show (at9.take x).map Int.ofNat ++ [(k : Int)] = (at9.take (x + 1)).map Int.ofNat by rw [← hk]; exact at_snoc hB.len hlt]
                simp only [sx, ty, q1, q2, q5, q6, q7, q8, q9, qa, qb, reduceIte, sy, q3, q4]
                with_reducible refine WO.nil ?_
                refine hK17 _ ?_; clear hK17
                refine W.region ?_
                refine WO.go 3 (ds := []) rfl ?_
                simp only [sx, ty, q1, q2, q5, q6, q7, q8, q9, qa, qb, reduceIte, sy, q3, q4]
                refine WO.elem (y := y) hl (by simp [St.put]) (ds := []) rfl rfl rfl (by simp [St.put]) (fun _ => rfl) rfl rfl rfl rfl rfl el36 agg27 sz27 (.inr rfl) (by omega) (hy) fun p ces hces => ?_
                obtain ⟨p9, c9, rfl, hc5, hc6⟩ := rInts_open hces
                have hces1 := hces
                clear hces
                refine WO.go 1 (ds := []) rfl ?_
                simp only [sx, ty, q1, q2, q5, q6, q7, q8, q9, qa, qb, reduceIte, sy, q3, q4]
                refine WO.elem (y := z) hces1 (by simp [St.put]) (ds := []) rfl rfl rfl (by simp [St.put]) (fun _ => rfl) rfl rfl rfl rfl rfl el27 agg3 sz3 (.inr rfl) (by omega) (hz) fun p ces hces => ?_
                obtain rfl := rInt_open hces
                clear hces
                refine WO.go 2 (ds := []) rfl ?_
                simp only [sx, ty, q1, q2, q5, q6, q7, q8, q9, qa, qb, reduceIte, sy, q3, q4]
                with_reducible refine WO.nil ?_
                refine hK13 _ ?_
                refine W.region ?_
                refine WO.go 2 (ds := []) rfl ?_
                simp only [sx, ty, q1, q2, q5, q6, q7, q8, q9, qa, qb, reduceIte, sy, q3, q4]
                with_reducible refine WO.nil ?_
                refine ⟨x + 1, hlt, by first | omega | (simp only; omega), rfl, by simp [getE, bnd, keepE, hs2, wrap_succ (show x + 1 ≤ 9223372036854775807 by omega)], ⟨[], by simp⟩, by simp [Own.bnd, bndL, bnd], by simp⟩
          · skip
            have hxm : x = cost.length := Nat.le_antisymm hxc (by simpa using hc)
            subst hxm
            refine W.exit (hK9 _ ?_)
            refine W.seqK fun K18 hK18 => ?_
            refine W.pure (ds := []) rfl fun K19 hK19 => ?_
            simp only [sx, ty, q1, q2, q5, q6, q7, q8, q9, qa, qb, reduceIte, sy, q3, q4]; with_reducible refine hK19 _ ?_; clear hK19
            refine W.block ?_
            refine W.loopO (X := Nat) [0, 2, 3, 88, 89] (fun x => [(12, .val (.int .i64 (pS A cost.length - pS cols x))), (90, .val (.int .i64 (x : Int)))]) (fun x => [.map r (setE ((at9.take cost.length).map Int.ofNat)) ((at9.take cost.length).map Int.ofNat).length]) (fun x => [((fun _ => True), w)]) (fun x => x ≤ m) (fun x => m - x) 0 ?_ ?_ ?_
            · exact ⟨rfl, by simp [getE, bnd, keepE, pS_zero], ⟨[], by simp⟩, by simp [Own.bnd, bndL, bnd, boxO], by simp⟩
            · skip
              exact Nat.zero_le _
            · rintro x hxc
              simp only [sx, ty, q1, q2, q5, q6, q7, q8, q9, qa, qb, reduceIte, sxk, sy, q3, q4]
              refine W.pure (ds := []) rfl fun K20 hK20 => ?_
              simp only [sx, ty, q1, q2, q5, q6, q7, q8, q9, qa, qb, reduceIte, sy, q3, q4]; with_reducible refine hK20 _ ?_; clear hK20
              refine W.seqK fun K21 hK21 => ?_
              refine W.cond rfl rfl (fun hc => ?_) (fun hc => ?_)
              · skip
                have hlt : x < m := by simpa using hc
                have hcx := hcb x hlt
                have hs1 := hsA cost.length (Nat.le_refl _)
                have hs3 := hsC x hxc
                have hs2 : IntKind.i64.wrap (pS A cost.length - pS cols x - cols x) = pS A cost.length - pS cols (x + 1) := by rw [wrap_id (by omega) (by omega), pS_succ]; omega
                refine W.skip (hK21 _ ?_)
                refine W.seqK fun K22 hK22 => ?_
                refine W.block ?_
                refine W.seqK fun K23 hK23 => W.region ?_
                refine WO.elem (y := (cols x)) hcl (by simp [St.put]) (ds := []) rfl rfl rfl (by simp [St.put]) (fun _ => rfl) rfl rfl rfl rfl rfl el27 agg3 sz3 (.inr rfl) (by omega) ((tab_getE hlt rfl)) fun p ces hces => ?_
                obtain rfl := rInt_open hces
                clear hces
                refine WO.go 1 (ds := []) rfl ?_
                simp only [sx, ty, q1, q2, q5, q6, q7, q8, q9, qa, qb, reduceIte, sy, q3, q4]
                with_reducible refine WO.nil ?_
                refine hK23 _ ?_; clear hK23
                refine W.seqK fun K24 hK24 => ?_
                refine W.join 99 (.val (.bool false)) [0, 2, 3, 12, 16, 88, 89, 90] (W.region ?_) ?_
                · skip
                  refine WO.go 3 (ds := [some 94, some 95, some 96, some 97, some 98, some 99]) rfl ?_
                  simp only [sx, ty, q1, q2, q5, q6, q7, q8, q9, qa, qb, reduceIte, sy, q3, q4]
                  refine WO.cases 96 _ rfl (fun hg96 => ?_) (fun hg96 => ?_)
                  · skip
                    simp at hg96; omega
                  · skip
                    refine WO.go 3 (ds := [some 94, some 95, some 96, some 97, some 98, some 99]) rfl ?_
                    simp only [sx, ty, q1, q2, q5, q6, q7, q8, q9, qa, qb, reduceIte, sy, q3, q4]
                    with_reducible refine WO.nil ?_
                    refine ⟨rfl, ?_, ⟨_, rfl⟩, by simp [Own.bnd, bndL, bnd, boxO], by simp⟩
                    simp [getE, bnd, keepE]
                    try omega
                · simp only [sx, ty, q1, q2, q5, q6, q7, q8, q9, qa, qb, reduceIte, sxk, sy, q3, q4]
                  refine W.cond rfl rfl (fun hc => ?_) (fun hc => ?_)
                  · skip
                    simp at hc
                  · skip
                    refine W.skip (hK24 _ ?_)
                    refine W.region ?_
                    refine WO.go 4 (ds := []) rfl ?_
                    simp only [sx, ty, q1, q2, q5, q6, q7, q8, q9, qa, qb, reduceIte, sy, q3, q4]
                    with_reducible refine WO.nil ?_
                    refine hK22 _ ?_
                    refine W.region ?_
                    refine WO.go 2 (ds := []) rfl ?_
                    simp only [sx, ty, q1, q2, q5, q6, q7, q8, q9, qa, qb, reduceIte, sy, q3, q4]
                    with_reducible refine WO.nil ?_
                    refine ⟨x + 1, hlt, by first | omega | (simp only; omega), rfl, by simp [getE, bnd, keepE, hs2, wrap_succ (show x + 1 ≤ 9223372036854775807 by omega)], ⟨[], by simp⟩, by simp [Own.bnd, bndL, bnd], by simp⟩
              · skip
                have hxm : x = m := Nat.le_antisymm hxc (by simpa using hc)
                subst x
                refine W.exit (hK18 _ ?_)
                refine W.seqK fun K26 hK26 => ?_
                refine W.pure (ds := []) rfl fun K27 hK27 => ?_
                simp only [sx, ty, q1, q2, q5, q6, q7, q8, q9, qa, qb, reduceIte, sy, q3, q4]; with_reducible refine hK27 _ ?_; clear hK27
                refine W.block ?_
                refine W.loopO (X := Nat) [0, 3, 104, 105] (fun x => [(12, .val (.int .i64 (pS A cost.length - pS cols m - pS rows x))), (106, .val (.int .i64 (x : Int)))]) (fun x => [.map r (setE ((at9.take cost.length).map Int.ofNat)) ((at9.take cost.length).map Int.ofNat).length]) (fun x => [((fun _ => True), w)]) (fun x => x ≤ cost.length) (fun x => cost.length - x) 0 ?_ ?_ ?_
                · exact ⟨rfl, by simp [getE, bnd, keepE, pS_zero], ⟨[], by simp⟩, by simp [Own.bnd, bndL, bnd, boxO], by simp⟩
                · skip
                  exact Nat.zero_le _
                · rintro x hxc
                  simp only [sx, ty, q1, q2, q5, q6, q7, q8, q9, qa, qb, reduceIte, sxk, sy, q3, q4]
                  refine W.pure (ds := []) rfl fun K28 hK28 => ?_
                  simp only [sx, ty, q1, q2, q5, q6, q7, q8, q9, qa, qb, reduceIte, sy, q3, q4]; with_reducible refine hK28 _ ?_; clear hK28
                  refine W.seqK fun K29 hK29 => ?_
                  refine W.cond rfl rfl (fun hc => ?_) (fun hc => ?_)
                  · skip
                    have hlt : x < cost.length := by simpa using hc
                    have hcx := hrb x hlt
                    obtain ⟨y, hy⟩ := len_lt (rfl : cost.length = _) hlt
                    have hyn := hmn y (List.mem_of_getElem? hy)
                    have hyr := hrow y (List.mem_of_getElem? hy)
                    have hs1 := hsA cost.length (Nat.le_refl _)
                    have hs3 := hsC m (Nat.le_refl _)
                    have hs4 := hsR x hxc
                    have hs2 : IntKind.i64.wrap (pS A cost.length - pS cols m - pS rows x - rows x) = pS A cost.length - pS cols m - pS rows (x + 1) := by rw [wrap_id (by omega) (by omega), pS_succ]; omega
                    refine W.skip (hK29 _ ?_)
                    refine W.seqK fun K30 hK30 => ?_
                    refine W.block ?_
                    refine W.seqK fun K31 hK31 => W.region ?_
                    refine WO.go 1 (ds := []) rfl ?_
                    simp only [sx, ty, q1, q2, q5, q6, q7, q8, q9, qa, qb, reduceIte, sy, q3, q4]
                    refine WO.elem (y := (rows x)) hr (by simp [St.put]) (ds := []) rfl rfl rfl (by simp [St.put]) (fun _ => rfl) rfl rfl rfl rfl rfl el27 agg3 sz3 (.inr rfl) (by omega) ((tab_getE hlt rfl)) fun p ces hces => ?_
                    obtain rfl := rInt_open hces
                    clear hces
                    refine WO.go 2 (ds := []) rfl ?_
                    simp only [sx, ty, q1, q2, q5, q6, q7, q8, q9, qa, qb, reduceIte, sy, q3, q4]
                    with_reducible refine WO.nil ?_
                    refine hK31 _ ?_; clear hK31
                    refine W.seqK fun K32 hK32 => ?_
                    refine W.join 116 (.val (.bool false)) [0, 3, 12, 17, 18, 104, 105, 106] (W.region ?_) ?_
                    · skip
                      refine WO.go 3 (ds := [some 111, some 112, some 113, some 114, some 115, some 116]) rfl ?_
                      simp only [sx, ty, q1, q2, q5, q6, q7, q8, q9, qa, qb, reduceIte, sy, q3, q4]
                      refine WO.cases 113 _ rfl (fun hg113 => ?_) (fun hg113 => ?_)
                      · skip
                        simp at hg113; omega
                      · skip
                        refine WO.go 3 (ds := [some 111, some 112, some 113, some 114, some 115, some 116]) rfl ?_
                        simp only [sx, ty, q1, q2, q5, q6, q7, q8, q9, qa, qb, reduceIte, sy, q3, q4]
                        with_reducible refine WO.nil ?_
                        refine ⟨rfl, ?_, ⟨_, rfl⟩, by simp [Own.bnd, bndL, bnd, boxO], by simp⟩
                        simp [getE, bnd, keepE]
                        try omega
                    · simp only [sx, ty, q1, q2, q5, q6, q7, q8, q9, qa, qb, reduceIte, sxk, sy, q3, q4]
                      refine W.cond rfl rfl (fun hc => ?_) (fun hc => ?_)
                      · skip
                        simp at hc
                      · skip
                        refine W.skip (hK32 _ ?_)
                        refine W.pure (ds := []) rfl fun K34 hK34 => ?_
                        simp only [sx, ty, q1, q2, q5, q6, q7, q8, q9, qa, qb, reduceIte, sy, q3, q4]; with_reducible refine hK34 _ ?_; clear hK34
                        refine W.seqK fun K35 hK35 => W.region ?_
                        refine WO.go 2 (ds := []) rfl ?_
                        simp only [sx, ty, q1, q2, q5, q6, q7, q8, q9, qa, qb, reduceIte, sy, q3, q4]
                        refine WO.elem (y := y) hl (by simp [St.put]) (ds := []) rfl rfl rfl (by simp [St.put]) (fun _ => rfl) rfl rfl rfl rfl rfl el36 agg27 sz27 (.inr rfl) (by omega) (hy) fun p ces hces => ?_
                        obtain ⟨p9, c9, rfl, hc5, hc6⟩ := rInts_open hces
                        have hces1 := hces
                        clear hces
                        refine WO.go 2 (ds := []) rfl ?_
                        simp only [sx, ty, q1, q2, q5, q6, q7, q8, q9, qa, qb, reduceIte, sy, q3, q4]
                        with_reducible refine WO.nil ?_
                        refine hK35 _ ?_; clear hK35
                        refine W.block ?_
                        refine W.loopO (X := Nat) [0, 3, 12, 18, 104, 105, 106, 123, 124] (fun kk => [(125, .val (.int .i64 (kk : Int)))]) (fun kk => [.map r (setE ((at9.take cost.length).map Int.ofNat)) ((at9.take cost.length).map Int.ofNat).length]) (fun kk => [((fun _ => True), w)]) (fun kk => kk ≤ m) (fun kk => m - kk) 0 ?_ ?_ ?_
                        · exact ⟨rfl, by simp [getE, bnd, keepE], ⟨[], by simp⟩, by simp [Own.bnd, bndL, bnd, boxO], by simp⟩
                        · skip
                          exact Nat.zero_le _
                        · rintro k hkc
                          simp only [sx, ty, q1, q2, q5, q6, q7, q8, q9, qa, qb, reduceIte, sxk, sy, q3, q4]
                          refine W.pure (ds := []) rfl fun K36 hK36 => ?_
                          simp only [sx, ty, q1, q2, q5, q6, q7, q8, q9, qa, qb, reduceIte, sy, q3, q4]; with_reducible refine hK36 _ ?_; clear hK36
                          refine W.seqK fun K37 hK37 => ?_
                          refine W.cond rfl rfl (fun hc => ?_) (fun hc => ?_)
                          · skip
                            have hlt2 : k < m := by simp at hc; omega
                            obtain ⟨z, hz⟩ := len_lt hyn hlt2
                            have hcz := cF_eq hy hz
                            have hck := hcb k hlt2
                            have hzr := hyr z (List.mem_of_getElem? hz)
                            have hfe := hR.feas x k hlt hlt2
                            rw [hcz] at hfe
                            have hwr : IntKind.i64.wrap (rows x + cols k) = rows x + cols k := wrap_id (by omega) (by omega)
                            refine W.skip (hK37 _ ?_)
                            refine W.seqK fun K38 hK38 => ?_
                            refine W.block ?_
                            refine W.seqK fun K39 hK39 => W.region ?_
                            refine WO.go 1 (ds := []) rfl ?_
                            simp only [sx, ty, q1, q2, q5, q6, q7, q8, q9, qa, qb, reduceIte, sy, q3, q4]
                            refine WO.elem (y := z) hces1 (by simp [St.put]) (ds := []) rfl rfl rfl (by simp [St.put]) (fun _ => rfl) rfl rfl rfl rfl rfl el27 agg3 sz3 (.inr rfl) (by omega) (hz) fun p ces hces => ?_
                            obtain rfl := rInt_open hces
                            clear hces
                            refine WO.go 2 (ds := []) rfl ?_
                            simp only [sx, ty, q1, q2, q5, q6, q7, q8, q9, qa, qb, reduceIte, sy, q3, q4]
                            with_reducible refine WO.nil ?_
                            refine hK39 _ ?_; clear hK39
                            refine W.join 141 (.val (.bool false)) [0, 3, 12, 18, 104, 105, 106, 123, 124, 125] (W.region ?_) ?_
                            · skip
                              refine WO.go 3 (ds := [some 130, some 131, some 132, some 133, some 134, some 135, some 136, some 137, some 138, some 139, some 140, some 141]) rfl ?_
                              simp only [sx, ty, q1, q2, q5, q6, q7, q8, q9, qa, qb, reduceIte, sy, q3, q4]
                              refine WO.cases 132 _ rfl (fun hg132 => ?_) (fun hg132 => ?_)
                              · skip
                                refine WO.go 3 (ds := [some 130, some 131, some 132, some 133, some 134, some 135, some 136, some 137, some 138, some 139, some 140, some 141]) rfl ?_
                                simp only [sx, ty, q1, q2, q5, q6, q7, q8, q9, qa, qb, reduceIte, sy, q3, q4]
                                refine WO.elem (y := (cols k)) hcl (by simp [St.put]) (ds := [some 130, some 131, some 132, some 133, some 134, some 135, some 136, some 137, some 138, some 139, some 140, some 141]) rfl rfl rfl (by simp [St.put]) (fun _ => rfl) rfl rfl rfl rfl rfl el27 agg3 sz3 (.inr rfl) (by omega) ((tab_getE hlt2 rfl)) fun p ces hces => ?_
                                obtain rfl := rInt_open hces
                                clear hces
                                refine WO.go 4 (ds := [some 130, some 131, some 132, some 133, some 134, some 135, some 136, some 137, some 138, some 139, some 140, some 141]) rfl ?_
                                simp only [sx, ty, q1, q2, q5, q6, q7, q8, q9, qa, qb, reduceIte, sy, q3, q4]
                                with_reducible refine WO.nil ?_
                                refine ⟨rfl, ?_, ⟨_, rfl⟩, by simp [Own.bnd, bndL, bnd, boxO], by simp⟩
                                try simp [getE, bnd, keepE, hwr]
                                try omega
                                try (have := hfe (by simpa using hg132); omega)
                              · skip
                                refine WO.go 9 (ds := [some 130, some 131, some 132, some 133, some 134, some 135, some 136, some 137, some 138, some 139, some 140, some 141]) rfl ?_
                                simp only [sx, ty, q1, q2, q5, q6, q7, q8, q9, qa, qb, reduceIte, sy, q3, q4]
                                with_reducible refine WO.nil ?_
                                refine ⟨rfl, ?_, ⟨_, rfl⟩, by simp [Own.bnd, bndL, bnd, boxO], by simp⟩
                                try simp [getE, bnd, keepE, hwr]
                                try omega
                                try (have := hfe (by simpa using hg132); omega)
                            · simp only [sx, ty, q1, q2, q5, q6, q7, q8, q9, qa, qb, reduceIte, sxk, sy, q3, q4]
                              refine W.cond rfl rfl (fun hc => ?_) (fun hc => ?_)
                              · skip
                                simp at hc
                              · skip
                                refine W.skip (hK38 _ ?_)
                                refine W.region ?_
                                refine WO.go 2 (ds := []) rfl ?_
                                simp only [sx, ty, q1, q2, q5, q6, q7, q8, q9, qa, qb, reduceIte, sy, q3, q4]
                                with_reducible refine WO.nil ?_
                                refine ⟨k + 1, hlt2, by first | omega | (simp only; omega), rfl, by simp [getE, bnd, keepE, wrap_succ (show k + 1 ≤ 9223372036854775807 by omega)], ⟨[], by simp⟩, by simp [Own.bnd, bndL, bnd], by simp⟩
                          · skip
                            have hkm : k = m := Nat.le_antisymm hkc (by simp at hc; omega)
                            subst k
                            refine W.exit (hK30 _ ?_)
                            refine W.region ?_
                            refine WO.go 2 (ds := []) rfl ?_
                            simp only [sx, ty, q1, q2, q5, q6, q7, q8, q9, qa, qb, reduceIte, sy, q3, q4]
                            with_reducible refine WO.nil ?_
                            refine ⟨x + 1, hlt, by first | omega | (simp only; omega), rfl, by simp [getE, bnd, keepE, hs2, wrap_succ (show x + 1 ≤ 9223372036854775807 by omega)], ⟨[], by simp⟩, by simp [Own.bnd, bndL, bnd], by simp⟩
                  · skip
                    have hxm : x = cost.length := Nat.le_antisymm hxc (by simpa using hc)
                    subst hxm
                    refine W.exit (hK26 _ ?_)
                    refine W.pure (ds := []) rfl fun K41 hK41 => ?_
                    simp only [sx, ty, q1, q2, q5, q6, q7, q8, q9, qa, qb, reduceIte, sy, q3, q4]; with_reducible refine hK41 _ ?_; clear hK41
                    refine W.ret ⟨by simp, _, rfl, fun ρ w1 hb => ?_⟩
                    simp only [den, denL]
                    rw [hend]
                    rfl
end Go.Proofs.YtolmeekbjonbcaaGreat
set_option linter.unusedVariables false
set_option linter.unusedSimpArgs false
set_option maxHeartbeats 1000000
namespace Go.Proofs.YtolmeekbjonbcaaGreat
open Int renaming reduceEq → q1, reduceLT → q2, reduceBEq → q3, reduceBNe → q4
open Nat renaming reduceAdd → q5, reduceSub → q6, reduceMul → q7, reduceLT → q8, reduceLeDiff → q9, reduceEqDiff → qa
open List renaming reduceReplicate → qb
open Go Go.SX Go.RowKit
abbrev CF (ds : List Dem) (cs : List Cop) (hall : Int) : Nat → Nat → Int := cF (costsF ds cs hall)
abbrev BP (ds : List Dem) (cs : List Cop) (hall : Int) (at' : List Nat) : Prop := BestP (CF ds cs hall) ds.length (wideF (costsF ds cs hall) cs.length) at'
def totL (ds : List Dem) (cs : List Cop) (hall : Int) (at' : List Nat) : Int := costS (CF ds cs hall) ds.length (fun i => at'.getD i 0)
theorem costs2_spec {S S2 : Nat → Prop} {w : World} {v u : Value} {ds : List Dem} {cs : List Cop} {hall : Int} (hl : rDems.rd S w [v] ds) (hl2 : rCops.rd S2 w [u] cs) (hv : valid ds cs = true) (hh : within 0 99 hall = true) : Gives Tryz.prog 13 #[v, u, .int .i64 hall] w fun r w' =>
    ∃ x : Option Addr × Nat, r = .tuple #[.slice x.1 ds.length x.2, .int .i64 0] ∧ rRows.rd (fun b => w.heap.size ≤ b) w' [.slice x.1 ds.length x.2] (costsF ds cs hall) := by
  have he : costsR ds cs hall = (costsF ds cs hall, 0) := by unfold costsR; rw [hv, hh]; rfl
  have h9 := costs_spec hl hl2 hall
  rw [he] at h9
  simp only [costs_len] at h9
  exact h9.mono fun r w' _ ⟨p, c, h1, h2⟩ => ⟨(p, c), h1, h2⟩
section
variable {ds : List Dem} {cs : List Cop} {hall : Int} {S : Nat → Prop} {w : World} {p : Option Addr} {c : Nat}
theorem best2_none (hl : rRows.rd S w [.slice p ds.length c] (costsF ds cs hall)) (hv : valid ds cs = true) (hc : cs.length ≤ 11) (hno : ¬ MeetL ds cs) : Gives Tryz.prog 15 #[.slice p ds.length c] w fun r _ => r = .tuple #[.slice none 0 0, .int .i64 0, .bool false, .int .i64 0] :=
  best_none hl (wf_costs hv hc) rfl fun f hf => hno ((mat_meet (valid_mem hv).2.2.1).1 ⟨f, hf⟩)
theorem best2_some (hl : rRows.rd S w [.slice p ds.length c] (costsF ds cs hall)) (hv : valid ds cs = true) (hc : cs.length ≤ 11) (hm : MeetL ds cs) : Gives Tryz.prog 15 #[.slice p ds.length c] w fun r w' =>
    ∃ x : List Nat × Option Addr × Nat, r = .tuple #[.slice x.2.1 ds.length x.2.2, .int .i64 (totL ds cs hall x.1), .bool true, .int .i64 0] ∧ BP ds cs hall x.1 ∧ rInts.rd (fun b => w.heap.size ≤ b) w' [.slice x.2.1 ds.length x.2.2] (x.1.map Int.ofNat) := by
  obtain ⟨f, hf⟩ := (mat_meet (h := hall) (valid_mem hv).2.2.1).2 hm
  refine (best_some hl (wf_costs hv hc) rfl hf).mono fun r w' _ ⟨rows, cols, owner, at', used, x, h1, h2, h3, h4⟩ => ⟨(at', x), ?_, ?_, ?_⟩
  · rw [h1, costs_len]
    have hal : at'.length = ds.length := by rw [h3.len, costs_len]
    simp only [totF, totL, costS, hal]
  · have := best_of h2 h3
    rwa [costs_len] at this
  · rwa [costs_len] at h4
end
/-- function 23 -/
theorem met_none {S S2 : Nat → Prop} {w : World} {p0 p2 : Option Addr} {c0 c2 : Nat} {ds : List Dem} {cs : List Cop} {hall : Int} (hl : rDems.rd S w [.slice p0 ds.length c0] ds) (hl2 : rCops.rd S2 w [.slice p2 cs.length c2] cs) (hv : valid ds cs = true) (hh : within 0 99 hall = true) (h11 : cs.length ≤ 11) (hno : ¬ MeetL ds cs) : Gives Tryz.prog 23 #[.agg #[.slice p2 cs.length c2, .int .i64 hall], .slice p0 ds.length c0] w fun r _ => ∃ x : Option Addr × Nat, r = .tuple #[.slice x.1 ds.length x.2, .slice none 0 0, .bool false] := by
  have hl : (Rp.slice rDem).rd (fun _ => True) w _ ds := Rp.any hl
  have hl2 : (Rp.slice rCop).rd (fun _ => True) w _ cs := Rp.any hl2
  refine gives_of [.val (.agg #[.slice p2 cs.length c2, .int .i64 hall]), .val (.slice p0 ds.length c0)] 37 [.tmp 4, .tmp 5, .tmp 6] Tryz.func23 rfl rfl rfl (by simp) rfl rfl ?_
  refine W.pure (ds := []) rfl fun K1 hK1 => ?_
  simp only [sx, ty, q1, q2, q5, q6, q7, q8, q9, qa, qb, reduceIte, sy, q3, q4]; with_reducible refine hK1 _ ?_; clear hK1
  refine W.seqK fun K2 hK2 => W.region ?_
  refine WO.go 5 (ds := []) rfl ?_
  simp only [sx, ty, q1, q2, q5, q6, q7, q8, q9, qa, qb, reduceIte, sy, q3, q4]
  refine WO.callM (fun x : Option Addr × Nat => .tuple #[.slice x.1 ds.length x.2, .int .i64 0]) (fun lo x s8 => w.heap.size ≤ lo ∧ rRows.rd (fun b => lo ≤ b) s8 [.slice x.1 ds.length x.2] (costsF ds cs hall)) (ds := []) rfl rfl rfl rfl co13 (fun ρ w1 hb => Gives.mono (costs2_spec (Rp.now hl (hb.first (by simp))) (Rp.now hl2 (hb.first (by simp))) hv hh) fun r w9 _ ⟨x, h1, h2⟩ => ⟨x, h1, (hb.at (S := fun _ => True) (s := w) (by simp [St.put])).size, h2⟩) fun x lo s8 hx => ?_
  obtain ⟨px, cx⟩ := x
  obtain ⟨hlo, hx⟩ := hx
  simp only at hx
  refine WO.go 5 (ds := []) rfl ?_
  simp only [sx, ty, q1, q2, q5, q6, q7, q8, q9, qa, qb, reduceIte, sy, q3, q4]
  with_reducible refine WO.nil ?_
  refine hK2 _ ?_; clear hK2
  refine W.seqK fun K3 hK3 => ?_
  refine W.pure (ds := []) rfl fun K4 hK4 => ?_
  simp only [sx, ty, q1, q2, q5, q6, q7, q8, q9, qa, qb, reduceIte, sy, q3, q4]; with_reducible refine hK4 _ ?_; clear hK4
  refine W.cond rfl rfl (fun hc => ?_) (fun hc => ?_)
  · skip
    simp at hc
  · skip
    refine W.skip (hK3 _ ?_)
    refine W.seqK fun K5 hK5 => W.region ?_
    refine WO.go 1 (ds := []) rfl ?_
    simp only [sx, ty, q1, q2, q5, q6, q7, q8, q9, qa, qb, reduceIte, sy, q3, q4]
    refine WO.call (.tuple #[.slice none 0 0, .int .i64 0, .bool false, .int .i64 0]) (ds := []) rfl rfl rfl rfl co15 (fun ρ w1 hb => best2_none (Rp.keep hx (hb.at (by simp [St.put]))) hv h11 hno) ?_
    refine WO.go 9 (ds := []) rfl ?_
    simp only [sx, ty, q1, q2, q5, q6, q7, q8, q9, qa, qb, reduceIte, sy, q3, q4]
    with_reducible refine WO.nil ?_
    refine hK5 _ ?_; clear hK5
    refine W.seqK fun K6 hK6 => W.region ?_
    refine WO.go 10 (ds := [some 30, some 31, some 32, some 33, some 34, some 35, some 36, some 4, some 5, some 6]) rfl ?_
    simp only [sx, ty, q1, q2, q5, q6, q7, q8, q9, qa, qb, reduceIte, sy, q3, q4]
    with_reducible refine WO.nil ?_
    refine hK6 _ ?_; clear hK6
    refine W.ret ⟨by simp, _, rfl, fun ρ w1 hb => ?_⟩
    exact ⟨(px, cx), rfl⟩
/-- function 23 -/
theorem met_some {S S2 : Nat → Prop} {w : World} {p0 p2 : Option Addr} {c0 c2 : Nat} {ds : List Dem} {cs : List Cop} {hall : Int} (hl : rDems.rd S w [.slice p0 ds.length c0] ds) (hl2 : rCops.rd S2 w [.slice p2 cs.length c2] cs) (hv : valid ds cs = true) (hh : within 0 99 hall = true) (h11 : cs.length ≤ 11) (hm : MeetL ds cs) : Gives Tryz.prog 23 #[.agg #[.slice p2 cs.length c2, .int .i64 hall], .slice p0 ds.length c0] w fun r w' => ∃ x : List Nat × (Option Addr × Nat) × Option Addr × Nat, r = .tuple #[.slice x.2.1.1 ds.length x.2.1.2, .slice x.2.2.1 ds.length x.2.2.2, .bool true] ∧ BP ds cs hall x.1 ∧
    rRows.rd (fun b => w.heap.size ≤ b) w' [.slice x.2.1.1 ds.length x.2.1.2] (costsF ds cs hall) ∧ rInts.rd (fun b => w.heap.size ≤ b) w' [.slice x.2.2.1 ds.length x.2.2.2] (x.1.map Int.ofNat) := by
  have hl : (Rp.slice rDem).rd (fun _ => True) w _ ds := Rp.any hl
  have hl2 : (Rp.slice rCop).rd (fun _ => True) w _ cs := Rp.any hl2
  refine gives_of [.val (.agg #[.slice p2 cs.length c2, .int .i64 hall]), .val (.slice p0 ds.length c0)] 37 [.tmp 4, .tmp 5, .tmp 6] Tryz.func23 rfl rfl rfl (by simp) rfl rfl ?_
  refine W.pure (ds := []) rfl fun K1 hK1 => ?_
  simp only [sx, ty, q1, q2, q5, q6, q7, q8, q9, qa, qb, reduceIte, sy, q3, q4]; with_reducible refine hK1 _ ?_; clear hK1
  refine W.seqK fun K2 hK2 => W.region ?_
  refine WO.go 5 (ds := []) rfl ?_
  simp only [sx, ty, q1, q2, q5, q6, q7, q8, q9, qa, qb, reduceIte, sy, q3, q4]
  refine WO.callM (fun x : Option Addr × Nat => .tuple #[.slice x.1 ds.length x.2, .int .i64 0]) (fun lo x s8 => w.heap.size ≤ lo ∧ rRows.rd (fun b => lo ≤ b) s8 [.slice x.1 ds.length x.2] (costsF ds cs hall)) (ds := []) rfl rfl rfl rfl co13 (fun ρ w1 hb => Gives.mono (costs2_spec (Rp.now hl (hb.first (by simp))) (Rp.now hl2 (hb.first (by simp))) hv hh) fun r w9 _ ⟨x, h1, h2⟩ => ⟨x, h1, (hb.at (S := fun _ => True) (s := w) (by simp [St.put])).size, h2⟩) fun x lo s8 hx => ?_
  obtain ⟨px, cx⟩ := x
  obtain ⟨hlo, hx⟩ := hx
  simp only at hx
  refine WO.go 5 (ds := []) rfl ?_
  simp only [sx, ty, q1, q2, q5, q6, q7, q8, q9, qa, qb, reduceIte, sy, q3, q4]
  with_reducible refine WO.nil ?_
  refine hK2 _ ?_; clear hK2
  refine W.seqK fun K3 hK3 => ?_
  refine W.pure (ds := []) rfl fun K4 hK4 => ?_
  simp only [sx, ty, q1, q2, q5, q6, q7, q8, q9, qa, qb, reduceIte, sy, q3, q4]; with_reducible refine hK4 _ ?_; clear hK4
  refine W.cond rfl rfl (fun hc => ?_) (fun hc => ?_)
  · skip
    simp at hc
  · skip
    refine W.skip (hK3 _ ?_)
    refine W.seqK fun K5 hK5 => W.region ?_
    refine WO.go 1 (ds := []) rfl ?_
    simp only [sx, ty, q1, q2, q5, q6, q7, q8, q9, qa, qb, reduceIte, sy, q3, q4]
    refine WO.callM (fun x : List Nat × Option Addr × Nat => .tuple #[.slice x.2.1 ds.length x.2.2, .int .i64 (totL ds cs hall x.1), .bool true, .int .i64 0]) (fun lo2 x s9 => w.heap.size ≤ lo2 ∧ BP ds cs hall x.1 ∧ rInts.rd (fun b => lo2 ≤ b) s9 [.slice x.2.1 ds.length x.2.2] (x.1.map Int.ofNat)) (ds := []) rfl rfl rfl rfl co15 (fun ρ w1 hb => Gives.mono (best2_some (Rp.keep hx (hb.at (by simp [St.put]))) hv h11 hm) fun r w9 _ ⟨x, h1, h2, h3⟩ => ⟨x, h1, (hb.at (S := fun _ => True) (s := w) (by simp [St.put])).size, h2, h3⟩) fun x lo2 s9 hy => ?_
    obtain ⟨at9, py, cy⟩ := x
    obtain ⟨hlo2, hB, hy⟩ := hy
    simp only at hB hy
    refine WO.go 9 (ds := []) rfl ?_
    simp only [sx, ty, q1, q2, q5, q6, q7, q8, q9, qa, qb, reduceIte, sy, q3, q4]
    with_reducible refine WO.nil ?_
    refine hK5 _ ?_; clear hK5
    refine W.seqK fun K6 hK6 => W.region ?_
    refine WO.go 10 (ds := [some 30, some 31, some 32, some 33, some 34, some 35, some 36, some 4, some 5, some 6]) rfl ?_
    simp only [sx, ty, q1, q2, q5, q6, q7, q8, q9, qa, qb, reduceIte, sy, q3, q4]
    with_reducible refine WO.nil ?_
    refine hK6 _ ?_; clear hK6
    refine W.ret ⟨by simp, _, rfl, fun ρ w1 hb => ?_⟩
    exact ⟨(at9, (px, cx), py, cy), rfl, hB, Rp.mono _ (Rp.keep hx (hb.at (by simp [St.put]))) fun b h _ => by omega, Rp.mono _ (Rp.keep hy (hb.at (by simp [St.put]))) fun b h _ => by omega⟩
theorem met_spec {S S2 : Nat → Prop} {w : World} {p0 p2 : Option Addr} {c0 c2 : Nat} {ds : List Dem} {cs : List Cop} {hall : Int} (hl : rDems.rd S w [.slice p0 ds.length c0] ds) (hl2 : rCops.rd S2 w [.slice p2 cs.length c2] cs) (hv : valid ds cs = true) (hh : within 0 99 hall = true) (h11 : cs.length ≤ 11) : Gives Tryz.prog 23 #[.agg #[.slice p2 cs.length c2, .int .i64 hall], .slice p0 ds.length c0] w fun r _ => ∃ x : (Option Addr × Nat) × (Nat × Option Addr × Nat) × Bool, r = .tuple #[.slice x.1.1 ds.length x.1.2, .slice x.2.1.2.1 x.2.1.1 x.2.1.2.2, .bool x.2.2] ∧ (x.2.2 = true ↔ MeetL ds cs) := by
  by_cases hm : MeetL ds cs
  · exact (met_some hl hl2 hv hh h11 hm).mono fun r _ _ ⟨x, h1, _⟩ => ⟨(x.2.1, (ds.length, x.2.2), true), h1, by simp [hm]⟩
  · exact (met_none hl hl2 hv hh h11 hm).mono fun r _ _ ⟨x, h1⟩ => ⟨(x, (0, none, 0), false), h1, by simp [hm]⟩
end Go.Proofs.YtolmeekbjonbcaaGreat
set_option linter.unusedVariables false
namespace Go.Proofs.YtolmeekbjonbcaaGreat
open Go Go.SX
/-- a demand as it stands in a row: its fields, and where its Editions are -/
abbrev DE := Dem × Option Addr × Nat
def idA (t : List DE) (a : Nat) : Int := (t.getD a ((0, 0, 0, []), none, 0)).1.1
/-- the first i are sorted, but for the one at j -/
def Srt (t : List DE) (i j : Nat) : Prop := ∀ a b, a < b → b ≤ i → b ≠ j → idA t b ≤ idA t a
theorem idA_some {t : List DE} {a : Nat} {x : DE} (h : t[a]? = some x) : idA t a = x.1.1 := by unfold idA; rw [List.getD_eq_getElem?_getD, h]; rfl
theorem Srt.start {t : List DE} {i : Nat} (h : ∀ a b, a < b → b < i → idA t b ≤ idA t a) : Srt t i i := fun a b h1 h2 h3 => h a b h1 (by omega)
theorem Srt.stop {t : List DE} {i j : Nat} (h : Srt t i j) (hj : j = 0 ∨ (0 < j ∧ idA t j ≤ idA t (j - 1))) : ∀ a b, a < b → b < i + 1 → idA t b ≤ idA t a := fun a b h1 h2 => by
  by_cases hb : b = j
  · subst hb
    rcases hj with rfl | ⟨h0, h3⟩
    · omega
    · by_cases ha : a = b - 1
      · subst ha; exact h3
      · exact Int.le_trans h3 (h a (b - 1) (by omega) (by omega) (by omega))
  · exact h a b h1 (by omega) hb
theorem idA_swap {t : List DE} {j : Nat} {y z : DE} (h0 : 0 < j) (hy : t[j]? = some y) (hz : t[j - 1]? = some z) (a : Nat) : idA ((t.set j z).set (j - 1) y) a = if a = j then idA t (j - 1) else if a = j - 1 then idA t j else idA t a := by
  have hl := (List.getElem?_eq_some_iff.1 hy).1
  unfold idA
  simp only [List.getD_eq_getElem?_getD]
  by_cases h1 : a = j
  · subst h1
    rw [if_pos rfl, List.getElem?_set_ne (by omega), List.getElem?_set_self hl, hz]
  · rw [if_neg h1]
    by_cases h2 : a = j - 1
    · subst h2
      rw [if_pos rfl, List.getElem?_set_self (by simp; omega), hy]
    · rw [if_neg h2, List.getElem?_set_ne (Ne.symm h2), List.getElem?_set_ne (Ne.symm h1)]
theorem Srt.swap {t : List DE} {i j : Nat} {y z : DE} (h : Srt t i j) (h0 : 0 < j) (hji : j ≤ i) (hy : t[j]? = some y) (hz : t[j - 1]? = some z) (hlt : z.1.1 < y.1.1) : Srt ((t.set j z).set (j - 1) y) i (j - 1) := fun a b h1 h2 h3 => by
  rw [idA_swap h0 hy hz, idA_swap h0 hy hz]
  have e1 := idA_some hy
  have e2 := idA_some hz
  by_cases hb : b = j
  · rw [if_pos hb]
    rw [if_neg (show ¬ a = j by omega)]
    by_cases ha : a = j - 1
    · rw [if_pos ha]; omega
    · rw [if_neg ha]; exact h a (j - 1) (by omega) (by omega) (by omega)
  · rw [if_neg hb, if_neg h3]
    by_cases ha : a = j
    · rw [if_pos ha]; exact h (j - 1) b (by omega) h2 hb
    · rw [if_neg ha]
      by_cases ha2 : a = j - 1
      · rw [if_pos ha2]; exact h j b (by omega) h2 hb
      · rw [if_neg ha2]; exact h a b h1 h2 hb
theorem swap_perm {α : Type} {t : List α} {j : Nat} {y z : α} (h0 : 0 < j) (hy : t[j]? = some y) (hz : t[j - 1]? = some z) : ((t.set j z).set (j - 1) y).Perm t := by
  obtain ⟨i, rfl⟩ : ∃ i, j = i + 1 := ⟨j - 1, by omega⟩
  simp only [Nat.add_sub_cancel] at hz ⊢
  clear h0
  induction i generalizing t with
  | zero =>
    match t, hy, hz with
    | a :: b :: l, hy, hz =>
      simp at hy hz
      subst hy; subst hz
      simp only [List.set_cons_succ, List.set_cons_zero, Nat.zero_add]
      exact List.Perm.swap ..
    | [a], hy, hz => simp at hy
    | [], hy, hz => simp at hy
  | succ i ih =>
    match t, hy, hz with
    | a :: l, hy, hz =>
      simp only [List.set_cons_succ]
      exact (ih (t := l) (by simpa using hy) (by simpa using hz)).cons a
    | [], hy, hz => simp at hy
theorem sorted_all {t : List DE} (h : ∀ a b, a < b → b < t.length → idA t b ≤ idA t a) (hn : (t.map (·.1.1)).Nodup) : (t.map (·.1.1)).Pairwise (· > ·) := by
  rw [List.pairwise_iff_getElem]
  intro a b ha hb hab
  simp only [List.length_map] at ha hb
  have h1 := h a b hab hb
  rw [idA_some (List.getElem?_eq_getElem ha), idA_some (List.getElem?_eq_getElem hb)] at h1
  simp only [List.getElem_map]
  have h2 : (t.map (·.1.1))[a]'(by simpa using ha) ≠ (t.map (·.1.1))[b]'(by simpa using hb) := fun he => by
    have := (List.getElem_inj hn).1 he
    omega
  simp only [List.getElem_map] at h2
  omega
end Go.Proofs.YtolmeekbjonbcaaGreat
set_option linter.unusedVariables false
namespace Go.Proofs.YtolmeekbjonbcaaGreat
open Go Go.SX
def deV (x : DE) : List Value := [.int .i64 x.1.1, .int .i64 x.1.2.1, .int .i64 x.1.2.2.1, .slice x.2.1 x.1.2.2.2.length x.2.2]
def rDE : Rp DE where
  sz := 4
  rd _ _ cs x := cs = deV x
  len h := by subst h; rfl
  frame h _ := h
  mono h _ := h
abbrev rDEs : Rp (List DE) := Rp.slice rDE
def desV (xs : List DE) : List Value := xs.flatMap deV
/-- its Editions can be read -/
def OkE (S : Nat → Prop) (w : World) (x : DE) : Prop := rInts.rd S w [.slice x.2.1 x.1.2.2.2.length x.2.2] x.1.2.2.2
theorem OkE.now {S : Nat → Prop} {s w : World} {x : DE} (h : OkE S s x) (hk : Keep (fun _ => True) s w) : OkE S w x := Rp.now h hk
theorem list_of {α β : Type} : ∀ {l : List α} {Q : Nat → α → β → Prop}, (∀ i y, l[i]? = some y → ∃ z, Q i y z) → ∃ xs : List (α × β), xs.map (·.1) = l ∧ ∀ i x, xs[i]? = some x → Q i x.1 x.2
  | [], Q, _ => ⟨[], rfl, fun i x h => by simp at h⟩
  | y :: l, Q, h => by
    obtain ⟨z, hz⟩ := h 0 y rfl
    obtain ⟨xs, h1, h2⟩ := list_of (l := l) (Q := fun i => Q (i + 1)) fun i y hy => h (i + 1) y (by simpa using hy)
    refine ⟨(y, z) :: xs, by simp [h1], fun i x hx => ?_⟩
    cases i with
    | zero => simp only [List.getElem?_cons_zero, Option.some.injEq] at hx; subst hx; exact hz
    | succ i => exact h2 i x (by simpa using hx)
theorem open_des {S : Nat → Prop} {w : World} {v : Value} {ds : List Dem} (h : rDems.rd S w [v] ds) : ∃ xs : List DE, xs.map (·.1) = ds ∧ rDEs.rd S w [v] xs ∧ ∀ x, x ∈ xs → OkE S w x := by
  obtain ⟨p, n, c, hv, hn, h2, h3, h4⟩ := h
  rcases h4 with rfl | ⟨a, rfl, h5, h6, h7⟩
  · exact ⟨[], rfl, ⟨p, n, c, hv, hn, h2, h3, .inl rfl⟩, fun x hx => by cases hx⟩
  · obtain ⟨xs, g1, g2⟩ := list_of (l := ds) (Q := fun i y z => At w (a.add (i * 4)) (deV (y, z)) ∧ OkE S w (y, z)) fun i y hy => by
      obtain ⟨ces, q1, q2⟩ := h7 i y hy
      obtain ⟨p, c, rfl, q3, _⟩ := rDem_open q2
      exact ⟨(p, c), q1, q3⟩
    refine ⟨xs, g1, ⟨some a, n, c, hv, by rw [hn, ← g1]; simp, h2, h3, .inr ⟨a, rfl, h5, h6, fun i y hy => ⟨_, (g2 i y hy).1, rfl⟩⟩⟩, fun x hx => ?_⟩
    obtain ⟨i, hi⟩ := List.mem_iff_getElem?.1 hx
    exact (g2 i x hi).2
theorem close_des {S S' : Nat → Prop} {w : World} {v : Value} {xs : List DE} (h : rDEs.rd S w [v] xs) (hx : ∀ x, x ∈ xs → OkE S' w x) : rDems.rd (fun b => S b ∨ S' b) w [v] (xs.map (·.1)) := by
  obtain ⟨p, n, c, hv, hn, h2, h3, h4⟩ := h
  refine ⟨p, n, c, hv, by simp [hn], h2, h3, ?_⟩
  rcases h4 with rfl | ⟨a, rfl, h5, h6, h7⟩
  · exact .inl rfl
  · refine .inr ⟨a, rfl, .inl h5, h6, fun i y hy => ?_⟩
    rw [List.getElem?_map, Option.map_eq_some_iff] at hy
    obtain ⟨x, hxi, rfl⟩ := hy
    obtain ⟨ces, q1, q2⟩ := h7 i x hxi
    have q2 : ces = deV x := q2
    subst q2
    exact ⟨_, q1, [_], _, rfl, rfl, [_], _, rfl, rfl, [_], _, rfl, rfl, Rp.mono _ (hx x (List.mem_of_getElem? hxi)) fun b hb _ => .inr hb⟩
theorem desV_len (xs : List DE) : (desV xs).length = xs.length * 4 := by
  induction xs with
  | nil => rfl
  | cons x l ih => simp only [desV, List.flatMap_cons, List.length_append] at ih ⊢; rw [ih]; simp only [deV, List.length_cons, List.length_nil]; omega
theorem desV_at : ∀ (xs : List DE) (i : Nat) (y : DE), xs[i]? = some y → ((desV xs).drop (i * 4)).take 4 = deV y
  | [], i, y, h => by simp at h
  | x :: xs, 0, y, h => by
    simp only [List.getElem?_cons_zero, Option.some.injEq] at h
    subst h
    rfl
  | x :: xs, i + 1, y, h => by
    have h1 := desV_at xs i y (by simpa using h)
    have h2 : (desV (x :: xs)).drop ((i + 1) * 4) = (desV xs).drop (i * 4) := by
      show (deV x ++ desV xs).drop _ = _
      rw [List.drop_append, List.drop_eq_nil_of_le (by simp [deV]; omega), List.nil_append]
      congr 1
      simp [deV]; omega
    rw [h2, h1]
theorem des_read {S : Nat → Prop} {w : World} (xs : List DE) : ∀ i y, xs[i]? = some y → rDE.rd S w (((desV xs).drop (i * rDE.sz)).take rDE.sz) y := fun i y hy => desV_at xs i y hy
theorem desV_app (a b : List DE) : desV (a ++ b) = desV a ++ desV b := List.flatMap_append
theorem desV_set : ∀ (xs : List DE) (i : Nat) (y : DE), i < xs.length → desV (xs.set i y) = (desV xs).take (i * 4) ++ deV y ++ (desV xs).drop (i * 4 + 4)
  | [], i, y, h => by simp at h
  | x :: xs, 0, y, _ => by simp [desV, deV]
  | x :: xs, i + 1, y, h => by
    have h1 := desV_set xs i y (by simpa using h)
    show deV x ++ desV (xs.set i y) = (deV x ++ desV xs).take _ ++ deV y ++ (deV x ++ desV xs).drop _
    rw [h1, show (i + 1) * 4 = i * 4 + 4 by omega, List.take_append, List.drop_append]
    rw [show (deV x).take (i * 4 + 4) = deV x from List.take_of_length_le (by simp [deV])]
    rw [show (deV x).drop (i * 4 + 4 + 4) = [] from List.drop_eq_nil_of_le (by simp [deV])]
    simp [deV]
end Go.Proofs.YtolmeekbjonbcaaGreat
set_option linter.unusedVariables false
set_option linter.unusedSimpArgs false
namespace Go.SX
open Go Go.RowKit
section
variable {P : Program} {ops : Array Oper} {Q : Exit → St → Prop} {σ : St} {o : Oper} {rest : List Oper} {ds : List (Option Nat)}
theorem QR.sliceNil {x : Operand} {t e t' : TypeId} {a : Option Addr} {n c n' c' : Nat} (hop : o.op = .binOp .eql t x (.const (.slice none n' c')) t') (hx : ev σ x = some (.val (.slice a n c))) (hu : P.underlying t = some (.slice e)) : QR P o σ (.val (.bool a.isNone)) := fun ρ w s hs => by
  refine ⟨_, ?_, fun _ _ => rfl⟩
  unfold execOp
  rw [hop]
  simp only [Sem.run_bind, hs.ev hx ρ (Agree.refl _ _), den]
  have e1 : w.eval (Operand.const (Value.slice none n' c')) = .slice none n' c' := rfl
  have e2 : (eqGuard BinOp.eql t x (Operand.const (Value.slice none n' c')) (Value.slice a n c) (.slice none n' c')).run P s = .ok () s := rfl
  rw [e1, e2, Result.andThen_ok, Go.Lib.run_eql_slice_nil s t e a n c n' c' hu]
  rfl
theorem zeroCells_mem {z : Array Value} {m : Nat} (hp : 0 < z.size) : ∀ v, v ∈ (Builtin.zeroCells z m).toList → v ∈ z.toList := fun v hv => by
  simp only [Builtin.zeroCells, Array.toList_map, List.mem_map] at hv
  obtain ⟨i, _, rfl⟩ := hv
  have h : i % z.size < z.size := Nat.mod_lt _ hp
  rw [getElem!_pos z _ h]
  exact Array.mem_toList_iff.2 (Array.getElem_mem h)
theorem WO.clearRow {x : Operand} {t e T : TypeId} {k b n c m c' sz by' off : Nat} {zs xs : List Value} {q : Addr} (hk : nth σ.own k = some (.slice T sz (.slice (some ⟨b, 0, none⟩) n c) n xs)) (hds : dsOk ds ops.toList = true) (hg : gd ds σ o.guard = some true) (hd : dOk σ o.dst = true)
    (hop : o.op = .call ⟨.builtin .clear, #[x], #[t]⟩) (hx : ev σ x = some (.val (.slice (some q) m c'))) (hq : q = (⟨b, off, none⟩ : Addr)) (he : elemK P t = some (e, sz, by', zs)) (hz1 : zs.all Value.oneCell' = true) (hm : 0 < m) (hoff : off + m * sz = n * sz)
    (h : ∀ ys : List Value, ys.length = n * sz → ys.take off = xs.take off → WO P ops Q rest ((setOwn σ k (.slice T sz (.slice (some ⟨b, 0, none⟩) n c) n ys)).put o.dst (.val (.tuple #[])))) : WO P ops Q (o :: rest) σ :=
  WO.one hds hg fun ρ a w hs => by
    rw [nth_eq] at hk
    obtain ⟨hu, i, z, hi, hz, hsz, hby, hzs, hpos, hzl⟩ := elemK_spec he
    have hown := hs.base.own k _ hk ρ (Agree.refl _ _)
    simp only [Own.holds] at hown
    obtain ⟨hxl, hown⟩ := hown
    rcases hown with ⟨hv, hn0⟩ | ⟨g, cap, cur, hv, hbg, hcell, hnc, hcm, hcs, htake⟩
    · cases hv
    · simp only [Value.slice.injEq, Option.some.injEq, Addr.mk.injEq] at hv
      obtain ⟨⟨rfl, _⟩, _, rfl⟩ := hv
      have hle : n * sz ≤ cur.size := by rw [hcs]; exact Nat.mul_le_mul_right _ hnc
      obtain ⟨vs, hvs⟩ : ∃ vs, (Builtin.zeroCells z.cells m).toList = vs := ⟨_, rfl⟩
      have hvl : vs.length = m * sz := by rw [← hvs]; simp [size_zeroCells, hzs]
      have h1 : ∀ v, v ∈ vs → v.oneCell' = true := fun v hv => by
        rw [← hvs] at hv
        have := zeroCells_mem (by omega) v hv
        rw [hzl] at this
        exact List.all_eq_true.1 hz1 v this
      have hst := run_storeCells_at P b off T vs 0 cur w hcell (by omega) h1
      have hrun : (Builtin.clear_ #[t] o.type #[.slice (some q) m c']).run P w = .ok (.tuple #[]) (w.setRow b (cur.toList.take off ++ vs ++ cur.toList.drop (off + vs.length)).toArray) := by
        obtain ⟨m', rfl⟩ : ∃ m', m = m' + 1 := ⟨m - 1, by omega⟩
        rw [hq]
        simp [Builtin.clear_, run_underlying hu, zeroValue, typeInfo, hi, hz, hvs]
        have hst' : (storeCells { block := b, off := off } vs).run P w = .ok () (w.setRow b (cur.toList.take off ++ vs ++ cur.toList.drop (off + vs.length)).toArray) := by simpa using hst
        rw [hst']
        simp
      have hgr : w.grownBy (w.setRow b (cur.toList.take off ++ vs ++ cur.toList.drop (off + vs.length)).toArray) (some b) := ⟨rfl, rfl, rfl, by simp [World.setRow], fun j hj hne => setRow_other w b j _ fun he => hne (by rw [he])⟩
      have hcl : cur.toList.length = cur.size := Array.length_toList
      refine ⟨ρ, (setOwn σ k (.slice T sz (.slice (some ⟨b, 0, none⟩) n c) n (xs.take off ++ vs))).put o.dst (.val (.tuple #[])), .tuple #[], _, .inl ?_, Sat.put (hs.turn (o' := .slice T sz (.slice (some ⟨b, 0, none⟩) n c) n (xs.take off ++ vs)) hk (fun _ _ h => by cases h) hgr ?_ (fun b' hb => .inl hb)) _ _ _ ?_ (fun _ _ => rfl), h _ ?_ ?_⟩
      · unfold execOp
        rw [hop]
        simp only [Sem.run_bind, resolve, List.map_toArray, List.map_cons, List.map_nil, Sem.run_pure, Result.andThen_ok, invoke, builtin]
        rw [hs.ev hx ρ (Agree.refl _ _)]
        simp only [den]
        rw [hrun]
        rfl
      · have hot : off ≤ n * sz := by omega
        refine ⟨by simp [hxl, hvl]; omega, .inr ⟨b, c, _, rfl, hbg, setRow_heap w b cur _ T _ hcell, hnc, hcm, ?_, ?_⟩⟩
        · simp; omega
        · rw [← htake]
          show (cur.toList.take off ++ vs ++ cur.toList.drop (off + vs.length)).take (n * sz) = _
          rw [List.take_take, show min off (n * sz) = off by omega, List.take_left' (by simp; omega)]
      · intro j hj; exact dOk_lt (σ := setOwn σ k _) (by rw [dOk_setOwn]; exact hd) j hj
      · simp [hxl, hvl]; omega
      · rw [List.take_left' (by simp [hxl]; omega)]
theorem W.ownCap {rO : Option Nat} {cd : Code} {k T sz n c : Nat} {q : Option Addr} {xs : List Value} (hk : nth σ.own k = some (.slice T sz (.slice q n c) n xs)) (hn : 0 < n) (h : ∀ b, q = some ⟨b, 0, none⟩ → n ≤ c → c ≤ maxLen → WR rO P cd Q σ) : WR rO P cd Q σ := fun ρ a w hs => by
  have hown := hs.base.own k _ (by rw [← nth_eq]; exact hk) ρ (Agree.refl _ _)
  simp only [Own.holds] at hown
  rcases hown.2 with ⟨hv, hn0⟩ | ⟨g, cap, cur, hv, hbg, hcell, hnc, hcm, hcs, htake⟩
  · omega
  · simp only [Value.slice.injEq] at hv
    obtain ⟨rfl, _, rfl⟩ := hv
    exact h g rfl hnc hcm ρ a w hs
end
end Go.SX
set_option linter.unusedVariables false
set_option linter.unusedSimpArgs false
set_option maxHeartbeats 1000000
namespace Go.Proofs.YtolmeekbjonbcaaGreat
open Int renaming reduceEq → q1, reduceLT → q2, reduceBEq → q3, reduceBNe → q4
open Nat renaming reduceAdd → q5, reduceSub → q6, reduceMul → q7, reduceLT → q8, reduceLeDiff → q9, reduceEqDiff → qa
open List renaming reduceReplicate → qb
open Go Go.SX Go.RowKit
def ODN (n : Nat) (l : List DE) (x : Option Addr × Nat) : SX.Own := .slice 41 4 (.slice x.1 n x.2) n (desV l)
def deA (x : DE) : Value := .agg #[.int .i64 x.1.1, .int .i64 x.1.2.1, .int .i64 x.1.2.2.1, .slice x.2.1 x.1.2.2.2.length x.2.2]
theorem chunk_eq : ∀ (xs : List DE) (olds : List Value), olds.length = xs.length * 4 → (∀ i y, xs[i]? = some y → (olds.drop (i * 4)).take 4 = deV y) → olds = desV xs
  | [], olds, h, _ => by rw [List.length_nil, Nat.zero_mul] at h; exact List.length_eq_zero_iff.1 h
  | x :: xs, olds, h, hg => by
    have h1 := hg 0 x rfl
    rw [Nat.zero_mul, List.drop_zero] at h1
    have h2 := chunk_eq xs (olds.drop 4) (by simp at h ⊢; omega) fun i y hy => by
      have := hg (i + 1) y (by simpa using hy)
      rw [List.drop_drop]
      rwa [show 4 + i * 4 = (i + 1) * 4 by omega]
    rw [← List.take_append_drop 4 olds, h1, h2]
    rfl
theorem des_cells {S : Nat → Prop} {w : World} {p : Option Addr} {n c : Nat} {xs : List DE} (h : rDEs.rd S w [.slice p n c] xs) (hne : 0 < n) : ∃ a, p = some a ∧ n = xs.length ∧ At w a (desV xs) := by
  have hn : n = xs.length := by
    obtain ⟨p', n', c', hv, h2, _⟩ := h
    simp only [List.cons.injEq, and_true, Value.slice.injEq] at hv
    omega
  rcases Rp.slice_cells h with h0 | ⟨a, olds, h1, h2, h3, h4, h5, h6, h7⟩
  · rw [h0] at hn; simp at hn; omega
  · refine ⟨a, h1, h2, ?_⟩
    rw [← chunk_eq xs olds (by rw [h5, hn]; rfl) fun i y hy => h7 i y hy]
    exact h6
theorem desV_one (xs : List DE) : ∀ u, u ∈ desV xs → u.oneCell' = true := fun u hu => by
  obtain ⟨x, _, hx⟩ := List.mem_flatMap.1 hu
  simp only [deV, List.mem_cons, List.not_mem_nil, or_false] at hx
  rcases hx with rfl | rfl | rfl | rfl <;> rfl
theorem row_des {ρ : Nat → Nat} {σ : St} {w : World} {k b n c i : Nat} {xs : List DE} {y : DE} (hb : Base ρ σ w) (hk : nth σ.own k = some (ODN n xs (some ⟨b, 0, none⟩, c))) (h : xs[i]? = some y) : At w ((⟨b, 0, none⟩ : Addr).add (i * 4)) (deV y) := by
  have h9 := row_at (k := k) (b := b) (T := 41) (sz := 4) (n := n) (c := c) (xs := desV xs) (off := i * 4) (m := 4) hb hk (desV_at xs i y h)
  rw [Addr.add_mid, Nat.zero_add]
  exact h9
/-- function 63 -/
theorem clone_spec {S : Nat → Prop} {w : World} {p : Option Addr} {n c : Nat} {xs : List DE} (hl : rDEs.rd S w [.slice p n c] xs) (hpos : 0 < n) (h12 : n ≤ 12) : Gives Tryz.prog 63 #[.slice p n c] w fun r w' => ∃ x : Option Addr × Nat, r = .slice x.1 n x.2 ∧ (∀ ρ' k, (ODN n xs x).holds ρ' k w') ∧ ∀ ρ' k b, (ODN n xs x).num ρ' k = some b → w.heap.size ≤ b := by
  have hl : (Rp.slice rDE).rd (fun _ => True) w _ xs := Rp.any hl
  obtain ⟨a, rfl, hn, hat⟩ := des_cells hl hpos
  refine gives_of [.val (.slice (some a) n c)] 8 [.tmp 2] Tryz.func63 rfl rfl rfl (by simp) rfl rfl ?_
  refine W.pure (ds := []) rfl fun K1 hK1 => ?_
  simp only [sx, ty, q1, q2, q5, q6, q7, q8, q9, qa, qb, reduceIte, sy, q3, q4]; with_reducible refine hK1 _ ?_; clear hK1
  refine W.seqK fun K2 hK2 => ?_
  refine W.seqK fun K3 hK3 => W.region ?_
  refine WO.go 1 (ds := []) rfl ?_
  simp only [sx, ty, q1, q2, q5, q6, q7, q8, q9, qa, qb, reduceIte, sy, q3, q4]
  refine WO.q (ds := []) rfl rfl rfl (QR.sliceNil rfl rfl Tryz.underlying22) ?_
  simp only [Option.isNone_some]
  simp only [sx, ty, q1, q2, q5, q6, q7, q8, q9, qa, qb, reduceIte, sy, q3, q4]
  with_reducible refine WO.nil ?_
  refine hK3 _ ?_; clear hK3
  refine W.cond rfl rfl (fun hc => ?_) (fun hc => ?_)
  · skip
    simp at hc
  · skip
    refine W.skip (hK2 _ ?_)
    refine W.seqK fun K4 hK4 => W.region ?_
    refine WO.go 2 (ds := []) rfl ?_
    simp only [sx, ty, q1, q2, q5, q6, q7, q8, q9, qa, qb, reduceIte, sy, q3, q4]
    refine WO.appendFull (n := 0) (m := n) [] (desV xs) (ds := []) rfl rfl rfl rfl ⟨_, rfl, fun ρ w1 hb => ⟨_, rfl, fun j v h => by simp at h⟩⟩ rfl ek22 (by simp) hpos (fun ρ w1 hb => ⟨a, c, rfl, by
        obtain ⟨a9, h1, _, h2⟩ := des_cells (Rp.now hl (hb.first (by simp))) hpos
        obtain rfl := Option.some.inj h1
        exact h2⟩) (by rw [desV_len, hn]) (by rw [maxLen_eq]; omega) (by omega) fun p6 c6 => ?_
    rw [Nat.zero_add, List.nil_append]
    refine WO.go 1 (ds := []) rfl ?_
    simp only [sx, ty, q1, q2, q5, q6, q7, q8, q9, qa, qb, reduceIte, sy, q3, q4]
    with_reducible refine WO.nil ?_
    refine hK4 _ ?_; clear hK4
    refine W.ret ⟨by simp, _, rfl, fun ρ w1 hb => ?_⟩
    refine ⟨(p6, c6), rfl, fun ρ' k => ?_, fun ρ' k b' h => ?_⟩
    · exact freeO_holds rfl (hb.own 1 _ rfl ρ (Agree.refl _ _))
    · exact own_new (k := 1) (o := ODN n xs (p6, c6)) hb (by simp) rfl h
/-- function 67 -/
theorem cmp_spec (w : World) (x y : DE) (hx : 1 ≤ x.1.1 ∧ x.1.1 ≤ 1000000) (hy : 1 ≤ y.1.1 ∧ y.1.1 ≤ 1000000) : Gives Tryz.prog 67 #[deA x, deA y] w fun r _ => r = .int .i64 (y.1.1 - x.1.1) := by
  have hwr : IntKind.i64.wrap (y.1.1 - x.1.1) = y.1.1 - x.1.1 := wrap_id (by omega) (by omega)
  refine gives_of [.val (.agg #[.int .i64 x.1.1, .int .i64 x.1.2.1, .int .i64 x.1.2.2.1, .slice x.2.1 x.1.2.2.2.length x.2.2]), .val (.agg #[.int .i64 y.1.1, .int .i64 y.1.2.1, .int .i64 y.1.2.2.1, .slice y.2.1 y.1.2.2.2.length y.2.2])] 10 [.tmp 4] Tryz.func67 rfl rfl rfl (by simp) rfl rfl ?_
  refine W.pure (ds := []) rfl fun K1 hK1 => ?_
  simp only [sx, ty, q1, q2, q5, q6, q7, q8, q9, qa, qb, reduceIte, sy, q3, q4]; with_reducible refine hK1 _ ?_; clear hK1
  refine W.pure (ds := []) rfl fun K2 hK2 => ?_
  simp only [sx, ty, q1, q2, q5, q6, q7, q8, q9, qa, qb, reduceIte, sy, q3, q4, hwr]; with_reducible refine hK2 _ ?_; clear hK2
  refine W.ret ⟨by simp, _, rfl, fun ρ w1 hb => ?_⟩
  rfl
/-- function 64 -/
theorem isId_spec {w : World} {a : Addr} {id : Int} (x : DE) (ha : At w a [.int .i64 id]) (hal : a.block < w.heap.size) : Gives Tryz.prog 64 #[deA x, .pointer (some a)] w fun r _ => r = .bool (decide (x.1.1 = id)) := by
  have hbe : ∀ a b : Int, (a == b) = decide (a = b) := fun a b => by by_cases h : a = b <;> simp [h]
  refine gives_of [.val (.agg #[.int .i64 x.1.1, .int .i64 x.1.2.1, .int .i64 x.1.2.2.1, .slice x.2.1 x.1.2.2.2.length x.2.2]), .val (.pointer (some a))] 8 [.tmp 3] Tryz.func64 rfl rfl rfl (by simp) rfl rfl ?_
  refine W.pure (ds := []) rfl fun K1 hK1 => ?_
  simp only [sx, ty, q1, q2, q5, q6, q7, q8, q9, qa, qb, reduceIte, sy, q3, q4]; with_reducible refine hK1 _ ?_; clear hK1
  refine W.seqK fun K2 hK2 => W.region ?_
  refine WO.go 2 (ds := []) rfl ?_
  simp only [sx, ty, q1, q2, q5, q6, q7, q8, q9, qa, qb, reduceIte, sy, q3, q4]
  refine WO.load [.int .i64 id] false (ds := []) rfl rfl rfl rfl rfl agg3 sz3 (.inr rfl) (fun ρ w1 hb1 => ha.frame ((hb1.first (by simp [St.put])).block _ trivial hal)) ?_
  refine WO.go 2 (ds := []) rfl ?_
  simp only [sx, ty, q1, q2, q5, q6, q7, q8, q9, qa, qb, reduceIte, sy, q3, q4]
  with_reducible refine WO.nil ?_
  refine hK2 _ ?_; clear hK2
  refine W.ret ⟨by simp, _, rfl, fun ρ w1 hb => ?_⟩
  simp only [den, hbe]
def findD (p : DE → Bool) (l : List DE) : Int :=
  match l.findIdx? p with
  | some i => i
  | none => -1
theorem findD_none {p : DE → Bool} {l : List DE} (h : ∀ (j : Nat) y, l[j]? = some y → p y = false) : findD p l = -1 := by
  unfold findD
  have : l.findIdx? p = none := by
    rw [List.findIdx?_eq_none_iff]
    intro y hy
    obtain ⟨j, hj, hjy⟩ := List.getElem_of_mem hy
    exact h j y (by rw [List.getElem?_eq_getElem hj, hjy])
  rw [this]
theorem findD_some {p : DE → Bool} {l : List DE} {i : Nat} {x : DE} (h : ∀ (j : Nat), j < i → ∀ y, l[j]? = some y → p y = false) (hi : l[i]? = some x) (hx : p x = true) : findD p l = i := by
  unfold findD
  obtain ⟨hlt, he⟩ := List.getElem?_eq_some_iff.1 hi
  have : l.findIdx? p = some i := by
    rw [List.findIdx?_eq_some_iff_getElem]
    refine ⟨hlt, by rw [he]; exact hx, fun j hj => ?_⟩
    have := h j hj l[j] (List.getElem?_eq_getElem (by omega))
    simp [this]
  rw [this]
/-- function 65 -/
theorem indexDem_spec {S : Nat → Prop} {w : World} {p : Option Addr} {n c : Nat} {xs : List DE} (hl : rDEs.rd S w [.slice p n c] xs) (hn : xs.length = n) (h12 : n ≤ 12) (q : DE → Bool) (K : FuncId) (caps : Array Value) (hK : callOk Tryz.prog K = true)
    (hq : ∀ w1, Keep (fun _ => True) w w1 → ∀ x, x ∈ xs → Gives Tryz.prog K (#[deA x] ++ caps) w1 fun r _ => r = .bool (q x)) : Gives Tryz.prog 65 #[.slice p n c, .func (.func K) #[] caps] w fun r _ => r = .int .i64 (findD q xs) := by
  have hl : (Rp.slice rDE).rd (fun _ => True) w _ xs := Rp.any hl
  refine gives_of [.val (.slice p n c), .val (.func (.func K) #[] caps)] 19 [.tmp 4] Tryz.func65 rfl rfl rfl (by simp) rfl rfl ?_
  refine W.pure (ds := []) rfl fun K1 hK1 => ?_
  simp only [sx, ty, q1, q2, q5, q6, q7, q8, q9, qa, qb, reduceIte, sy, q3, q4]; with_reducible refine hK1 _ ?_; clear hK1
  refine W.seqK fun K2 hK2 => ?_
  refine W.pure (ds := []) rfl fun K3 hK3 => ?_
  simp only [sx, ty, q1, q2, q5, q6, q7, q8, q9, qa, qb, reduceIte, sy, q3, q4]; with_reducible refine hK3 _ ?_; clear hK3
  refine W.block ?_
  refine W.loopK (X := Nat) [0, 1, 7] (fun x => [(8, .val (.int .i64 x))]) (fun x => x ≤ n ∧ ∀ j, j < x → ∀ y, xs[j]? = some y → q y = false) (fun x => n - x) 0 ?_ ?_ ?_
  · exact ⟨rfl, by simp [getE, bnd, keepE], ⟨[], by simp⟩, by simp [Own.bnd, bndL, bnd, boxO], by simp⟩
  · skip
    exact ⟨Nat.zero_le _, fun j hj => by omega⟩
  · rintro i ⟨hi, hno⟩
    simp only [sx, ty, q1, q2, q5, q6, q7, q8, q9, qa, qb, reduceIte, sxk, sy, q3, q4]
    refine W.pure (ds := []) rfl fun K4 hK4 => ?_
    simp only [sx, ty, q1, q2, q5, q6, q7, q8, q9, qa, qb, reduceIte, sy, q3, q4]; with_reducible refine hK4 _ ?_; clear hK4
    refine W.seqK fun K5 hK5 => ?_
    refine W.cond rfl rfl (fun hc => ?_) (fun hc => ?_)
    · skip
      have hlt : i < n := by simpa using hc
      obtain ⟨y, hy⟩ := len_lt hn hlt
      refine W.skip (hK5 _ ?_)
      refine W.seqK fun K6 hK6 => ?_
      refine W.block ?_
      refine W.pure (ds := []) rfl fun K7 hK7 => ?_
      simp only [sx, ty, q1, q2, q5, q6, q7, q8, q9, qa, qb, reduceIte, sy, q3, q4]; with_reducible refine hK7 _ ?_; clear hK7
      refine W.seqK fun K8 hK8 => W.region ?_
      refine WO.go 3 (ds := []) rfl ?_
      simp only [sx, ty, q1, q2, q5, q6, q7, q8, q9, qa, qb, reduceIte, sy, q3, q4]
      refine WO.elem (y := y) hl (by simp [St.put]) (ds := []) rfl rfl rfl (by simp [St.put]) (fun _ => rfl) rfl rfl rfl rfl rfl el22 agg41 sz41 (.inl rfl) (by omega) (hy) fun p ces hces => ?_
      have hces : ces = deV y := hces
      subst hces
      simp only [deV]
      simp only [sx, ty, q1, q2, q5, q6, q7, q8, q9, qa, qb, reduceIte, sy, q3, q4]
      refine WO.call (.bool (q y)) (ds := []) rfl rfl rfl rfl hK (fun ρ w1 hb => by have := hq w1 (hb.first (by simp [St.put])) y (List.mem_of_getElem? hy); rw [← argsCap] at this; simpa [denL_eq, den, deA, deV, ofCells, Function.comp_def] using this) ?_
      simp only [sx, ty, q1, q2, q5, q6, q7, q8, q9, qa, qb, reduceIte, sy, q3, q4]
      with_reducible refine WO.nil ?_
      refine hK8 _ ?_; clear hK8
      refine W.cond rfl rfl (fun hc => ?_) (fun hc => ?_)
      · skip
        refine W.pure (ds := []) rfl fun K9 hK9 => ?_
        simp only [sx, ty, q1, q2, q5, q6, q7, q8, q9, qa, qb, reduceIte, sy, q3, q4]; with_reducible refine hK9 _ ?_; clear hK9
        refine W.ret ⟨by simp, _, rfl, fun ρ w1 hb => ?_⟩
        simp only [den]
        rw [show findD q xs = i from findD_some hno hy hc]
      · skip
        have hqf := hc
        refine W.skip (hK6 _ ?_)
        refine W.region ?_
        refine WO.go 2 (ds := []) rfl ?_
        simp only [sx, ty, q1, q2, q5, q6, q7, q8, q9, qa, qb, reduceIte, sy, q3, q4]
        with_reducible refine WO.nil ?_
        refine ⟨i + 1, ⟨hlt, fun j hj y9 hy9 => ?_⟩, by omega, rfl, by simp [getE, bnd, keepE, wrap_succ (show i + 1 ≤ 9223372036854775807 by omega)], ⟨[], by simp⟩, by simp, by simp⟩
        rcases Nat.lt_succ_iff_lt_or_eq.1 hj with h | rfl
        · exact hno j h y9 hy9
        · rw [hy] at hy9; obtain rfl := Option.some.inj hy9; exact hqf
    · skip
      refine W.exit (hK2 _ ?_)
      refine W.pure (ds := []) rfl fun K10 hK10 => ?_
      simp only [sx, ty, q1, q2, q5, q6, q7, q8, q9, qa, qb, reduceIte, sy, q3, q4]; with_reducible refine hK10 _ ?_; clear hK10
      refine W.ret ⟨by simp, _, rfl, fun ρ w1 hb => ?_⟩
      have hge : n ≤ i := by simpa using hc
      simp only [den]
      rw [show findD q xs = -1 from findD_none fun j y hy => hno j (by have := (List.getElem?_eq_some_iff.1 hy).1; omega) y hy]
/-- function 68 -/
theorem values_spec (w : World) (q : Option Addr) (n c : Nat) : Gives Tryz.prog 68 #[.slice q n c] w fun r w' => ∃ b : Nat, r = .func (.func 78) #[] #[.pointer (some ⟨b, 0, none⟩)] ∧ (∀ ρ' k, (boxO 22 b [.slice q n c]).holds ρ' k w') ∧ ∀ ρ' k b', (boxO 22 b [.slice q n c]).num ρ' k = some b' → w.heap.size ≤ b' := by
  refine gives_of [.val (.slice q n c)] 4 [.tmp 2] Tryz.func68 rfl rfl rfl (by simp) rfl rfl ?_
  refine W.pure (ds := []) rfl fun K1 hK1 => ?_
  simp only [sx, ty, q1, q2, q5, q6, q7, q8, q9, qa, qb, reduceIte, sy, q3, q4]; with_reducible refine hK1 _ ?_; clear hK1
  refine W.pinA (by simp [smallO, cellsS]) fun β => ?_
  simp only [pinEn, pinOw, den, denL, Nat.zero_add, Nat.reduceAdd]
  refine W.pure (ds := []) rfl fun K2 hK2 => ?_
  simp only [sx, ty, q1, q2, q5, q6, q7, q8, q9, qa, qb, reduceIte, sy, q3, q4]; with_reducible refine hK2 _ ?_; clear hK2
  refine W.ret ⟨by simp, _, rfl, fun ρ w1 hb => ?_⟩
  refine ⟨β 0, rfl, fun ρ' k => ?_, fun ρ' k b' h => ?_⟩
  · exact freeO_holds rfl (hb.own 0 _ rfl ρ (Agree.refl _ _))
  · exact own_new (k := 0) (o := boxO 22 (β 0) [.slice q n c]) hb (by simp) rfl h
end Go.Proofs.YtolmeekbjonbcaaGreat
set_option linter.unusedVariables false
set_option linter.unusedSimpArgs false
set_option maxHeartbeats 1000000
namespace Go.Proofs.YtolmeekbjonbcaaGreat
open Int renaming reduceEq → q1, reduceLT → q2, reduceBEq → q3, reduceBNe → q4
open Nat renaming reduceAdd → q5, reduceSub → q6, reduceMul → q7, reduceLT → q8, reduceLeDiff → q9, reduceEqDiff → qa
open List renaming reduceReplicate → qb
open Go Go.SX Go.RowKit
/-- function 90 -/
theorem isortD_spec {w : World} {l : List DE} {n c : Nat} {q : Option Addr} (hn : l.length = n) (hn2 : n ≤ 12) (hid : ∀ x, x ∈ l → 1 ≤ x.1.1 ∧ x.1.1 ≤ 1000000) (hlie : Lie [ODN n l (q, c)] w) : GivesB Tryz.prog 90 #[.slice q n c, .int .i64 0, .int .i64 (n : Int), .func (.func 67) #[] #[]] w (ofOwn [ODN n l (q, c)]) fun r w' => ∃ l' : List DE, r = .tuple #[] ∧ (l'.Perm l ∧ ∀ a b, a < b → b < n → idA l' b ≤ idA l' a) ∧ TurnL [ODN n l (q, c)] [ODN n l' (q, c)] w w' := by
  have hw1 : IntKind.i64.wrap 1 = 1 := rfl
  refine givesL_of [ODN n l (q, c)] [.val (.slice q n c), .val (.int .i64 0), .val (.int .i64 (n : Int)), .val (.func (.func 67) #[] #[])] 53 [] Tryz.func90 rfl rfl rfl (by simp) rfl rfl rfl hlie ?_
  refine W.pure (ds := []) rfl fun K1 hK1 => ?_
  simp only [sx, ty, q1, q2, q5, q6, q7, q8, q9, qa, qb, reduceIte, sy, q3, q4]; with_reducible refine hK1 _ ?_; clear hK1
  refine W.block ?_
  refine W.loopO (X := Nat × List DE) [0, 1, 2, 3] (fun x => [(8, .val (.int .i64 x.1))]) (fun x => [ODN n x.2 (q, c)]) (fun x => [((fun b => ¬ ofOwn [ODN n l (q, c)] b), w)]) (fun x => 1 ≤ x.1 ∧ x.1 ≤ n + 1 ∧ x.2.Perm l ∧ ∀ a b, a < b → b < x.1 → b < n → idA x.2 b ≤ idA x.2 a) (fun x => n + 1 - x.1) (1, l) ?_ ?_ ?_
  · exact ⟨rfl, by simp [getE, bnd, keepE, hw1], ⟨[], by simp⟩, by simp [Own.bnd, bndL, bnd, boxO, ODN], by simp⟩
  · skip
    exact ⟨Nat.le_refl _, by simp only; omega, List.Perm.refl _, fun a b h1 h2 => by simp only at h2; omega⟩
  · rintro ⟨i, t0⟩ ⟨hi1, hi, hp0, hs0⟩
    simp only at hi1 hi hp0 hs0
    simp only [sx, ty, q1, q2, q5, q6, q7, q8, q9, qa, qb, reduceIte, sxk, sy, q3, q4]
    refine W.seqK fun K2 hK2 => ?_
    refine W.pure (ds := []) rfl fun K3 hK3 => ?_
    simp only [sx, ty, q1, q2, q5, q6, q7, q8, q9, qa, qb, reduceIte, sy, q3, q4]; with_reducible refine hK3 _ ?_; clear hK3
    refine W.cond rfl rfl (fun hc => ?_) (fun hc => ?_)
    · skip
      have hlt : i < n := by simpa using hc
      refine W.skip (hK2 _ ?_)
      refine W.seqK fun K4 hK4 => ?_
      refine W.block ?_
      refine W.pure (ds := []) rfl fun K5 hK5 => ?_
      simp only [sx, ty, q1, q2, q5, q6, q7, q8, q9, qa, qb, reduceIte, sy, q3, q4]; with_reducible refine hK5 _ ?_; clear hK5
      refine W.block ?_
      refine W.loopO (X := Nat × List DE) [0, 1, 2, 3, 8] (fun x => [(9, .val (.int .i64 x.1))]) (fun x => [ODN n x.2 (q, c)]) (fun x => [((fun b => ¬ ofOwn [ODN n l (q, c)] b), w)]) (fun x => x.1 ≤ i ∧ x.2.Perm l ∧ Srt x.2 i x.1) (fun x => x.1) (i, t0) ?_ ?_ ?_
      · exact ⟨rfl, by simp [getE, bnd, keepE], ⟨[], by simp⟩, by simp [Own.bnd, bndL, bnd, boxO, ODN], by simp⟩
      · skip
        exact ⟨Nat.le_refl _, hp0, Srt.start fun a b h1 h2 => hs0 a b h1 h2 (by omega)⟩
      · rintro ⟨j, t⟩ hI
        simp only at hI
        obtain ⟨hji, htp, hsr⟩ := hI
        have htl : t.length = n := by rw [htp.length_eq, hn]
        simp only [sx, ty, q1, q2, q5, q6, q7, q8, q9, qa, qb, reduceIte, sxk, sy, q3, q4]
        refine W.seqK fun K6 hK6 => ?_
        refine W.ownAddr (k := 0) rfl (by omega) fun b2 hb2 => ?_
        simp only at hb2
        subst hb2
        refine W.join 34 (.val (.bool (decide (0 < j) && decide (idA t (j - 1) < idA t j)))) [0, 1, 2, 3, 8, 9] (W.regionQ mixed (by kernel_rfl) ?_) ?_
        · skip
          refine WQ.go 4 (ds := [some 18, some 19, some 20, some 21, some 22, some 23, some 24, some 25, some 26, some 27, some 28, some 29, some 30, some 31, some 32, some 33, some 34]) rfl ?_
          simp only [sx, ty, q1, q2, q5, q6, q7, q8, q9, qa, qb, reduceIte, sxq, sy, q3, q4]
          refine WQ.cases 21 _ rfl (fun hg21 => ?_) (fun hg21 => ?_)
          · skip
            have hj0 : 0 < j := by simpa using hg21
            obtain ⟨y, hy⟩ := len_lt htl (show j < n by omega)
            obtain ⟨z, hz⟩ := len_lt htl (show j - 1 < n by omega)
            have hj1 : IntKind.i64.wrap ((j : Int) - 1) = ((j - 1 : Nat) : Int) := by rw [wrap_id (by omega) (by omega)]; omega
            have hyi := hid y (htp.mem_iff.1 (List.mem_of_getElem? hy))
            have hzi := hid z (htp.mem_iff.1 (List.mem_of_getElem? hz))
            have ey := idA_some hy
            have ez := idA_some hz
            have hs9 : decide (z.1.1 - y.1.1 < 0) = decide (z.1.1 < y.1.1) := decide_eq_decide.2 (by omega)
            refine WQ.go 3 (ds := [some 18, some 19, some 20, some 21, some 22, some 23, some 24, some 25, some 26, some 27, some 28, some 29, some 30, some 31, some 32, some 33, some 34]) rfl ?_
            simp only [sx, ty, q1, q2, q5, q6, q7, q8, q9, qa, qb, reduceIte, sxq, sy, q3, q4]
            refine WQ.q (ds := [some 18, some 19, some 20, some 21, some 22, some 23, some 24, some 25, some 26, some 27, some 28, some 29, some 30, some 31, some 32, some 33, some 34]) rfl rfl rfl (QR.idx rfl rfl rfl el22 (by omega) (by omega)) ?_
            refine WQ.q (ds := [some 18, some 19, some 20, some 21, some 22, some 23, some 24, some 25, some 26, some 27, some 28, some 29, some 30, some 31, some 32, some 33, some 34]) rfl rfl rfl (QR.load (deV y) true rfl rfl agg41 sz41 (.inl rfl) (fun ρ w1 hb => row_des (k := 0) (i := j) hb rfl hy)) ?_
            simp only [List.drop_succ_cons, List.drop_zero, List.take_succ_cons, List.take_zero, ofCells, Bool.false_eq_true, if_false, List.headD_cons, deV, if_true, List.toList_toArray]
            refine WQ.go 3 (ds := [some 18, some 19, some 20, some 21, some 22, some 23, some 24, some 25, some 26, some 27, some 28, some 29, some 30, some 31, some 32, some 33, some 34]) rfl ?_
            simp only [sx, ty, q1, q2, q5, q6, q7, q8, q9, qa, qb, reduceIte, sxq, sy, q3, q4]
            simp only [hj1]
            refine WQ.q (ds := [some 18, some 19, some 20, some 21, some 22, some 23, some 24, some 25, some 26, some 27, some 28, some 29, some 30, some 31, some 32, some 33, some 34]) rfl rfl rfl (QR.idx rfl rfl rfl el22 (by omega) (by omega)) ?_
            refine WQ.q (ds := [some 18, some 19, some 20, some 21, some 22, some 23, some 24, some 25, some 26, some 27, some 28, some 29, some 30, some 31, some 32, some 33, some 34]) rfl rfl rfl (QR.load (deV z) true rfl rfl agg41 sz41 (.inl rfl) (fun ρ w1 hb => row_des (k := 0) (i := (j - 1)) hb rfl hz)) ?_
            simp only [List.drop_succ_cons, List.drop_zero, List.take_succ_cons, List.take_zero, ofCells, Bool.false_eq_true, if_false, List.headD_cons, deV, if_true, List.toList_toArray]
            simp only [sx, ty, q1, q2, q5, q6, q7, q8, q9, qa, qb, reduceIte, sy, q3, q4]
            refine WQ.call (.int .i64 (z.1.1 - y.1.1)) (ds := [some 18, some 19, some 20, some 21, some 22, some 23, some 24, some 25, some 26, some 27, some 28, some 29, some 30, some 31, some 32, some 33, some 34]) rfl rfl rfl rfl co67 (fun ρ w1 hb => cmp_spec w1 y z hyi hzi) ?_
            refine WQ.go 2 (ds := [some 18, some 19, some 20, some 21, some 22, some 23, some 24, some 25, some 26, some 27, some 28, some 29, some 30, some 31, some 32, some 33, some 34]) rfl ?_
            simp only [sx, ty, q1, q2, q5, q6, q7, q8, q9, qa, qb, reduceIte, sxq, sy, q3, q4]
            with_reducible refine WQ.nil ?_
            refine ⟨rfl, ?_, ⟨_, rfl⟩, by simp [Own.bnd, bndL, bnd, boxO, ODN], by simp⟩
            try simp [getE, bnd, keepE, ey, ez, hs9, hj0]
            try simp [getE, bnd, keepE, hj0]
          · skip
            have hj0 : ¬ 0 < j := by simpa using hg21
            refine WQ.go 13 (ds := [some 18, some 19, some 20, some 21, some 22, some 23, some 24, some 25, some 26, some 27, some 28, some 29, some 30, some 31, some 32, some 33, some 34]) rfl ?_
            simp only [sx, ty, q1, q2, q5, q6, q7, q8, q9, qa, qb, reduceIte, sxq, sy, q3, q4]
            with_reducible refine WQ.nil ?_
            refine ⟨rfl, ?_, ⟨_, rfl⟩, by simp [Own.bnd, bndL, bnd, boxO, ODN], by simp⟩
            try simp [getE, bnd, keepE, ey, ez, hs9, hj0]
            try simp [getE, bnd, keepE, hj0]
        · simp only [sx, ty, q1, q2, q5, q6, q7, q8, q9, qa, qb, reduceIte, sxk, sy, q3, q4]
          refine W.cond rfl rfl (fun hc => ?_) (fun hc => ?_)
          · skip
            have hb9 : 0 < j ∧ idA t (j - 1) < idA t j := by simpa using hc
            have hj0 := hb9.1
            obtain ⟨y, hy⟩ := len_lt htl (show j < n by omega)
            obtain ⟨z, hz⟩ := len_lt htl (show j - 1 < n by omega)
            have hj1 : IntKind.i64.wrap ((j : Int) - 1) = ((j - 1 : Nat) : Int) := by rw [wrap_id (by omega) (by omega)]; omega
            have hyi := hid y (htp.mem_iff.1 (List.mem_of_getElem? hy))
            have hzi := hid z (htp.mem_iff.1 (List.mem_of_getElem? hz))
            have ey := idA_some hy
            have ez := idA_some hz
            have hs9 : decide (z.1.1 - y.1.1 < 0) = decide (z.1.1 < y.1.1) := decide_eq_decide.2 (by omega)
            have hzy : z.1.1 < y.1.1 := by rw [← ey, ← ez]; exact hb9.2
            refine W.skip (hK6 _ ?_)
            refine W.seqK fun K8 hK8 => ?_
            refine W.block ?_
            refine W.regionW 14 [2, 3, 4] [0, 1, 5, 6, 7, 8, 9, 10, 11, 12, 13] mixed (by kernel_rfl) ?_
            refine WT.move rfl rfl rfl rfl rfl ?_
            simp only [sx, ty, q1, q2, q5, q6, q7, q8, q9, qa, qb, reduceIte, sy, q3, q4, hj1]
            refine WT.move rfl rfl rfl rfl rfl ?_
            simp only [sx, ty, q1, q2, q5, q6, q7, q8, q9, qa, qb, reduceIte, sy, q3, q4, hj1]
            refine WT.bin rfl rfl rfl rfl rfl rfl (r_sub _ _ _ _) ?_
            simp only [sx, ty, q1, q2, q5, q6, q7, q8, q9, qa, qb, reduceIte, sy, q3, q4, hj1]
            refine WT.nil ?_
            simp only [sx, ty, q1, q2, q5, q6, q7, q8, q9, qa, qb, reduceIte, sxt, List.toList_toArray, sy, q3, q4, hj1]
            refine WQ.go 5 (ds := []) rfl ?_
            simp only [sx, ty, q1, q2, q5, q6, q7, q8, q9, qa, qb, reduceIte, sxq, sy, q3, q4, hj1]
            refine WQ.q (ds := []) rfl rfl rfl (QR.idx rfl rfl rfl el22 (by omega) (by omega)) ?_
            refine WQ.q (ds := []) rfl rfl rfl (QR.load (deV z) true rfl rfl agg41 sz41 (.inl rfl) (fun ρ w1 hb => row_des (k := 0) (i := (j - 1)) hb rfl hz)) ?_
            simp only [List.drop_succ_cons, List.drop_zero, List.take_succ_cons, List.take_zero, ofCells, Bool.false_eq_true, if_false, List.headD_cons, deV, if_true, List.toList_toArray]
            refine WQ.go 2 (ds := []) rfl ?_
            simp only [sx, ty, q1, q2, q5, q6, q7, q8, q9, qa, qb, reduceIte, sxq, sy, q3, q4, hj1]
            refine WQ.q (ds := []) rfl rfl rfl (QR.idx rfl rfl rfl el22 (by omega) (by omega)) ?_
            refine WQ.q (ds := []) rfl rfl rfl (QR.load (deV y) true rfl rfl agg41 sz41 (.inl rfl) (fun ρ w1 hb => row_des (k := 0) (i := j) hb rfl hy)) ?_
            simp only [List.drop_succ_cons, List.drop_zero, List.take_succ_cons, List.take_zero, ofCells, Bool.false_eq_true, if_false, List.headD_cons, deV, if_true, List.toList_toArray]
            simp only [sx, ty, q1, q2, q5, q6, q7, q8, q9, qa, qb, reduceIte, sy, q3, q4, hj1]
            with_reducible refine WQ.nil ?_
            try simp only [sx, ty, q1, q2, q5, q6, q7, q8, q9, qa, qb, reduceIte, sxt, List.toList_toArray, List.drop_succ_cons, List.drop_zero, sy, q3, q4, hj1]
            refine WO.q (ds := []) rfl rfl rfl (QR.idx rfl rfl rfl el22 (by omega) (by omega)) ?_
            simp only [sx, ty, q1, q2, q5, q6, q7, q8, q9, qa, qb, reduceIte, sy, q3, q4, hj1]
            refine WO.storeRow (T := 41) (k := 0) (b := b2) (sz := 4) (n := n) (c := c) (xs := desV (t)) (u := deA z) (j * 4) (deV z) rfl (ds := []) rfl rfl rfl rfl rfl (by simp [Addr.add_mid]) (by rw [desV_len]; simp only [deV, List.length_cons, List.length_nil, List.length_set, htl]; omega) (by simp [deV]) ⟨_, rfl, fun ρ => rfl⟩ rfl (by simp [deV, Value.oneCell']) sz41 ?_
            rw [show (desV (t)).take (j * 4) ++ (deV z ++ (desV (t)).drop (j * 4 + (deV z).length)) = desV ((t).set (j) z) by rw [desV_set (t) (j) z (by simp only [List.length_set, htl]; omega), List.append_assoc]; rfl]
            simp only [sx, ty, q1, q2, q5, q6, q7, q8, q9, qa, qb, reduceIte, sy, q3, q4, hj1]
            refine WO.q (ds := []) rfl rfl rfl (QR.idx rfl rfl rfl el22 (by omega) (by omega)) ?_
            simp only [sx, ty, q1, q2, q5, q6, q7, q8, q9, qa, qb, reduceIte, sy, q3, q4, hj1]
            refine WO.storeRow (T := 41) (k := 0) (b := b2) (sz := 4) (n := n) (c := c) (xs := desV (t.set j z)) (u := deA y) ((j - 1) * 4) (deV y) rfl (ds := []) rfl rfl rfl rfl rfl (by simp [Addr.add_mid]) (by rw [desV_len]; simp only [deV, List.length_cons, List.length_nil, List.length_set, htl]; omega) (by simp [deV]) ⟨_, rfl, fun ρ => rfl⟩ rfl (by simp [deV, Value.oneCell']) sz41 ?_
            rw [show (desV (t.set j z)).take ((j - 1) * 4) ++ (deV y ++ (desV (t.set j z)).drop ((j - 1) * 4 + (deV y).length)) = desV ((t.set j z).set ((j - 1)) y) by rw [desV_set (t.set j z) ((j - 1)) y (by simp only [List.length_set, htl]; omega), List.append_assoc]; rfl]
            simp only [sx, ty, q1, q2, q5, q6, q7, q8, q9, qa, qb, reduceIte, sy, q3, q4, hj1]
            with_reducible refine WO.nil ?_
            refine hK8 _ ?_
            refine W.region ?_
            refine WO.go 3 (ds := []) rfl ?_
            simp only [sx, ty, q1, q2, q5, q6, q7, q8, q9, qa, qb, reduceIte, sy, q3, q4, hj1, hj1]
            with_reducible refine WO.nil ?_
            refine ⟨(j - 1, (t.set j z).set (j - 1) y), ⟨by simp only; omega, (swap_perm hj0 hy hz).trans htp, hsr.swap hj0 hji hy hz hzy⟩, by simp only; omega, rfl, by simp [getE, bnd, keepE], ⟨[], by simp [ODN]⟩, by simp [Own.bnd, bndL, bnd, ODN], by simp⟩
          · skip
            have hb9 : j = 0 ∨ (0 < j ∧ idA t j ≤ idA t (j - 1)) := by
              rcases Nat.eq_zero_or_pos j with h | h
              · exact .inl h
              · refine .inr ⟨h, ?_⟩
                rw [decide_eq_true h, Bool.true_and, decide_eq_false_iff_not] at hc
                omega
            refine W.exit (hK4 _ ?_)
            refine W.region ?_
            refine WO.go 3 (ds := []) rfl ?_
            simp only [sx, ty, q1, q2, q5, q6, q7, q8, q9, qa, qb, reduceIte, sy, q3, q4]
            with_reducible refine WO.nil ?_
            refine ⟨(i + 1, t), ⟨by simp only; omega, by simp only; omega, htp, fun a b h1 h2 h3 => hsr.stop hb9 a b h1 h2⟩, by simp only; omega, rfl, by simp [getE, bnd, keepE, wrap_succ (show i + 1 ≤ 9223372036854775807 by omega)], ⟨[], by simp⟩, by simp [Own.bnd, bndL, bnd, ODN], by simp⟩
    · skip
      have hge : n ≤ i := by simpa using hc
      refine W.exit ?_
      refine ⟨by simp, ?_⟩
      simp only [sx, ty, q1, q2, q5, q6, q7, q8, q9, qa, qb, reduceIte, sxr, sy, q3, q4]
      intro ρ w1 hb
      exact ⟨t0, rfl, ⟨hp0, fun a b h1 h2 => hs0 a b h1 (by omega) h2⟩, turnL_of hb (by simp) rfl rfl⟩
/-- function 77 -/
theorem pdqD_spec {w : World} {l : List DE} {n c : Nat} {q : Option Addr} {lim : Int} (hn : l.length = n) (hn2 : n ≤ 12) (hid : ∀ x, x ∈ l → 1 ≤ x.1.1 ∧ x.1.1 ≤ 1000000) (hlie : Lie [ODN n l (q, c)] w) : GivesB Tryz.prog 77 #[.slice q n c, .int .i64 0, .int .i64 (n : Int), .int .i64 lim, .func (.func 67) #[] #[]] w (ofOwn [ODN n l (q, c)]) fun r w' => ∃ l' : List DE, r = .tuple #[] ∧ (l'.Perm l ∧ ∀ a b, a < b → b < n → idA l' b ≤ idA l' a) ∧ TurnL [ODN n l (q, c)] [ODN n l' (q, c)] w w' := by
  have hwn : IntKind.i64.wrap ((n : Int) - 0) = (n : Int) := by rw [wrap_id (by omega) (by omega)]; omega
  refine givesL_of [ODN n l (q, c)] [.val (.slice q n c), .val (.int .i64 0), .val (.int .i64 (n : Int)), .val (.int .i64 lim), .val (.func (.func 67) #[] #[])] 148 [] Tryz.func77 rfl rfl rfl (by simp) rfl rfl rfl hlie ?_
  refine W.pure (ds := []) rfl fun K1 hK1 => ?_
  simp only [sx, ty, q1, q2, q5, q6, q7, q8, q9, qa, qb, reduceIte, sy, q3, q4]; with_reducible refine hK1 _ ?_; clear hK1
  refine W.pure (ds := []) rfl fun K2 hK2 => ?_
  simp only [sx, ty, q1, q2, q5, q6, q7, q8, q9, qa, qb, reduceIte, sy, q3, q4]; with_reducible refine hK2 _ ?_; clear hK2
  refine W.block ?_
  refine W.loopO (X := Unit) [0, 4] (fun x => [(1, .val (.int .i64 0)), (2, .val (.int .i64 (n : Int))), (3, .val (.int .i64 lim)), (10, .val (.bool true)), (11, .val (.bool true))]) (fun x => [ODN n l (q, c)]) (fun x => [((fun b => ¬ ofOwn [ODN n l (q, c)] b), w)]) (fun x => True) (fun x => 0) () ?_ ?_ ?_
  · exact ⟨rfl, by simp [getE, bnd, keepE], ⟨[], by simp⟩, by simp [Own.bnd, bndL, bnd, boxO, ODN], by simp⟩
  · skip
    trivial
  · rintro _ _
    simp only [sx, ty, q1, q2, q5, q6, q7, q8, q9, qa, qb, reduceIte, sxk, sy, q3, q4]
    refine W.block ?_
    refine W.pure (ds := []) rfl fun K3 hK3 => ?_
    simp only [sx, ty, q1, q2, q5, q6, q7, q8, q9, qa, qb, reduceIte, sy, q3, q4, hwn]; with_reducible refine hK3 _ ?_; clear hK3
    refine W.seqK fun K4 hK4 => ?_
    refine W.pure (ds := []) rfl fun K5 hK5 => ?_
    simp only [sx, ty, q1, q2, q5, q6, q7, q8, q9, qa, qb, reduceIte, sy, q3, q4, hwn, hwn]; with_reducible refine hK5 _ ?_; clear hK5
    refine W.cond rfl rfl (fun hc => ?_) (fun hc => ?_)
    rotate_left
    · skip
      (simp at hc; omega)
    · skip
      refine W.seqK fun K6 hK6 => W.region ?_
      refine WO.go 4 (ds := []) rfl ?_
      simp only [sx, ty, q1, q2, q5, q6, q7, q8, q9, qa, qb, reduceIte, sy, q3, q4, hwn, hwn]
      refine WO.callL (own := [ODN n l (q, c)]) [0] (fun _ : List DE => .tuple #[]) (fun l' => [ODN n l' (q, c)]) (fun _ l' _ => l'.Perm l ∧ ∀ a b, a < b → b < n → idA l' b ≤ idA l' a) (ds := []) rfl rfl rfl rfl co90 ⟨rfl, trivial⟩ (by decide) rfl (fun _ => rfl) (fun _ => rfl) (fun ρ w1 hb hlie => Calls.mono (isortD_spec hn (by omega) hid hlie) fun e w2 ⟨v, he, hk, l', h1, h2, h3⟩ => ⟨v, he, hk, l', h1, h2, h3⟩) fun l' lo s8 hl' => ?_
      refine WO.ownIs [ODN n l' (q, c)] rfl ?_
      simp only [sx, ty, q1, q2, q5, q6, q7, q8, q9, qa, qb, reduceIte, sy, q3, q4, hwn, hwn]
      with_reducible refine WO.nil ?_
      refine hK6 _ ?_; clear hK6
      refine W.ret ?_
      refine ⟨by simp, ?_⟩
      simp only [sx, ty, q1, q2, q5, q6, q7, q8, q9, qa, qb, reduceIte, sxr, sy, q3, q4, hwn, hwn]
      intro ρ w1 hb
      exact ⟨l', rfl, hl', turnL_of hb (by simp) rfl rfl⟩
/-- function 66 -/
theorem sortD_spec {w : World} {l : List DE} {n c : Nat} {q : Option Addr} (hn : l.length = n) (hn2 : n ≤ 12) (hid : ∀ x, x ∈ l → 1 ≤ x.1.1 ∧ x.1.1 ≤ 1000000) (hlie : Lie [ODN n l (q, c)] w) : GivesB Tryz.prog 66 #[.slice q n c, .func (.func 67) #[] #[]] w (ofOwn [ODN n l (q, c)]) fun r w' => ∃ l' : List DE, r = .tuple #[] ∧ (l'.Perm l ∧ ∀ a b, a < b → b < n → idA l' b ≤ idA l' a) ∧ TurnL [ODN n l (q, c)] [ODN n l' (q, c)] w w' := by
  have hwn : IntKind.u64.wrap (n : Int) = (n : Int) := by simp only [IntKind.wrap, IntKind.signed, IntKind.bits]; simp; omega
  refine givesL_of [ODN n l (q, c)] [.val (.slice q n c), .val (.func (.func 67) #[] #[])] 14 [] Tryz.func66 rfl rfl rfl (by simp) rfl rfl rfl hlie ?_
  refine W.pure (ds := []) rfl fun K1 hK1 => ?_
  simp only [sx, ty, q1, q2, q5, q6, q7, q8, q9, qa, qb, reduceIte, sy, q3, q4]; with_reducible refine hK1 _ ?_; clear hK1
  refine W.region ?_
  refine WO.go 4 (ds := []) rfl ?_
  simp only [sx, ty, q1, q2, q5, q6, q7, q8, q9, qa, qb, reduceIte, sy, q3, q4, hwn]
  refine WO.callX (fun m : Int => .int .i64 m) (fun _ => True) (ds := []) rfl rfl rfl rfl co72 (fun ρ w1 hb => (len_spec w1 n (by omega) (by omega)).mono fun v _ _ ⟨m, hm⟩ => ⟨m, hm, trivial⟩) fun m _ => ?_
  refine WO.go 1 (ds := []) rfl ?_
  simp only [sx, ty, q1, q2, q5, q6, q7, q8, q9, qa, qb, reduceIte, sy, q3, q4, hwn]
  refine WO.callL (own := [ODN n l (q, c)]) [0] (fun _ : List DE => .tuple #[]) (fun l' => [ODN n l' (q, c)]) (fun _ l' _ => l'.Perm l ∧ ∀ a b, a < b → b < n → idA l' b ≤ idA l' a) (ds := []) rfl rfl rfl rfl co77 ⟨rfl, trivial⟩ (by decide) rfl (fun _ => rfl) (fun _ => rfl) (fun ρ w1 hb hlie => Calls.mono (pdqD_spec hn hn2 hid hlie) fun e w2 ⟨v, he, hk, l', h1, h2, h3⟩ => ⟨v, he, hk, l', h1, h2, h3⟩) fun l' lo s8 hl' => ?_
  refine WO.ownIs [ODN n l' (q, c)] rfl ?_
  simp only [sx, ty, q1, q2, q5, q6, q7, q8, q9, qa, qb, reduceIte, sy, q3, q4, hwn]
  with_reducible refine WO.nil ?_
  refine ⟨by simp, ?_⟩
  simp only [sx, ty, q1, q2, q5, q6, q7, q8, q9, qa, qb, reduceIte, sxr, sy, q3, q4, hwn]
  intro ρ w1 hb
  exact ⟨l', rfl, hl', turnL_of hb (by simp) rfl rfl⟩
end Go.Proofs.YtolmeekbjonbcaaGreat
set_option linter.unusedVariables false
set_option linter.unusedSimpArgs false
set_option maxHeartbeats 1000000
namespace Go.Proofs.YtolmeekbjonbcaaGreat
open Int renaming reduceEq → q1, reduceLT → q2, reduceBEq → q3, reduceBNe → q4
open Nat renaming reduceAdd → q5, reduceSub → q6, reduceMul → q7, reduceLT → q8, reduceLeDiff → q9, reduceEqDiff → qa
open List renaming reduceReplicate → qb
open Go Go.SX Go.RowKit
def filtF (id : Int) (l : List DE) : List DE := l.filter fun x => !decide (x.1.1 = id)
theorem filtF_map (id : Int) (l : List DE) : (filtF id l).map (·.1) = withoutF (l.map (·.1)) id := by
  unfold filtF withoutF
  rw [List.filter_map]; rfl
theorem filtF_mem {id : Int} {l : List DE} {x : DE} : x ∈ filtF id l ↔ x ∈ l ∧ x.1.1 ≠ id := by simp [filtF]
theorem filtF_le (id : Int) (l : List DE) : (filtF id l).length ≤ l.length := List.length_filter_le _ _
theorem findD_cases (p : DE → Bool) (l : List DE) : (findD p l = -1 ∧ ∀ x, x ∈ l → p x = false) ∨ ∃ (i : Nat) (x : DE), findD p l = (i : Int) ∧ l[i]? = some x ∧ p x = true ∧ ∀ j, j < i → ∀ y, l[j]? = some y → p y = false := by
  unfold findD
  cases h : l.findIdx? p with
  | none =>
    rw [List.findIdx?_eq_none_iff] at h
    exact .inl ⟨rfl, fun x hx => by simpa using h x hx⟩
  | some i =>
    rw [List.findIdx?_eq_some_iff_getElem] at h
    obtain ⟨hi, hp, hn⟩ := h
    exact .inr ⟨i, l[i], rfl, List.getElem?_eq_getElem hi, hp, fun j hj y hy => by
      obtain ⟨h1, rfl⟩ := List.getElem?_eq_some_iff.1 hy
      simpa using hn j hj⟩
theorem slc_from {sz b c l h : Nat} (hl : l < c) : slcV sz (some ⟨b, 0, none⟩) c l h = .slice (some ⟨b, l * sz, none⟩) (h - l) (c - l) := by
  unfold slcV
  rw [if_neg (by omega)]
  simp [Addr.add_mid]
theorem slc_to {sz b c h : Nat} (hl : 0 < c) : slcV sz (some ⟨b, 0, none⟩) c 0 h = .slice (some ⟨b, 0, none⟩) h c := by
  unfold slcV
  rw [if_neg (by omega)]
  simp [Addr.add_mid]
structure DInv (id : Int) (l : List DE) (n i j : Nat) (t : List DE) : Prop where
  len : t.length = n
  lt : i < j
  le : j ≤ n
  cnt : i = (filtF id (l.take j)).length
  pre : t.take i = filtF id (l.take j)
  post : t.drop j = l.drop j
theorem DInv.start {id : Int} {l : List DE} {n i : Nat} {x : DE} (hn : l.length = n) (hx : l[i]? = some x) (hp : x.1.1 = id) (hno : ∀ j, j < i → ∀ y, l[j]? = some y → ¬ y.1.1 = id) : DInv id l n i (i + 1) l := by
  have hl := (List.getElem?_eq_some_iff.1 hx).1
  have hf : filtF id (l.take (i + 1)) = l.take i := by
    rw [List.take_add_one, hx]
    unfold filtF
    rw [List.filter_append]
    have h1 : (l.take i).filter (fun x => !decide (x.1.1 = id)) = l.take i := List.filter_eq_self.2 fun y hy => by
      obtain ⟨j, hj⟩ := List.mem_iff_getElem?.1 hy
      have hj2 := (List.getElem?_eq_some_iff.1 hj).1
      simp only [List.length_take] at hj2
      rw [List.getElem?_take_of_lt (by omega)] at hj
      simpa using hno j (by omega) y hj
    rw [h1]; simp [hp]
  exact ⟨hn, by omega, by omega, by rw [hf]; simp; omega, by rw [hf], rfl⟩
theorem DInv.get {id : Int} {l : List DE} {n i j : Nat} {t : List DE} {v : DE} (h : DInv id l n i j t) (hv : t[j]? = some v) : l[j]? = some v := by
  have h1 : (t.drop j)[0]? = some v := by rw [List.getElem?_drop]; exact hv
  rw [h.post, List.getElem?_drop] at h1
  exact h1
theorem DInv.keep {id : Int} {l : List DE} {n i j : Nat} {t : List DE} {v : DE} (h : DInv id l n i j t) (hv : t[j]? = some v) (hne : ¬ v.1.1 = id) : DInv id l n (i + 1) (j + 1) (t.set i v) := by
  have hj := (List.getElem?_eq_some_iff.1 hv).1
  have h1 := h.lt
  have h2 := h.len
  have hf : filtF id (l.take (j + 1)) = filtF id (l.take j) ++ [v] := by
    rw [List.take_add_one, h.get hv]
    unfold filtF
    rw [List.filter_append]; simp [hne]
  refine ⟨by simp [h2], by omega, by omega, by rw [hf, List.length_append, ← h.cnt]; rfl, ?_, ?_⟩
  · rw [hf, ← h.pre, List.take_add_one, List.take_set_of_le (Nat.le_refl _), List.getElem?_set_self (by omega)]; rfl
  · rw [List.drop_set_of_lt (by omega)]
    have := congrArg (List.drop 1) h.post
    rwa [List.drop_drop, List.drop_drop] at this
theorem DInv.skip {id : Int} {l : List DE} {n i j : Nat} {t : List DE} {v : DE} (h : DInv id l n i j t) (hv : t[j]? = some v) (he : v.1.1 = id) : DInv id l n i (j + 1) t := by
  have hj := (List.getElem?_eq_some_iff.1 hv).1
  have h1 := h.lt
  have h2 := h.len
  have hf : filtF id (l.take (j + 1)) = filtF id (l.take j) := by
    rw [List.take_add_one, h.get hv]
    unfold filtF
    rw [List.filter_append]; simp [he]
  refine ⟨h2, by omega, by omega, by rw [hf]; exact h.cnt, by rw [hf]; exact h.pre, ?_⟩
  have := congrArg (List.drop 1) h.post
  rwa [List.drop_drop, List.drop_drop] at this
theorem DInv.stop {id : Int} {l : List DE} {n i : Nat} {t : List DE} (hn : l.length = n) (h : DInv id l n i n t) : i = (filtF id l).length ∧ (desV t).take (i * 4) = desV (filtF id l) := by
  have h1 := h.cnt
  have h2 := h.pre
  have h3 := h.len
  have h4 := h.lt
  rw [List.take_of_length_le (l := l) (by omega)] at h1 h2
  refine ⟨h1, ?_⟩
  rw [← h2]
  conv => lhs; rw [← List.take_append_drop i t, desV_app]
  rw [List.take_left' (by rw [desV_len, List.length_take]; congr 1; omega)]
theorem part_read {ρ : Nat → Nat} {σ : St} {w : World} {k n m c : Nat} {q : Option Addr} {ys : List Value} {fs : List DE} {S : Nat → Prop} (hb : Base ρ σ w) (hk : nth σ.own k = some (.slice 41 4 (.slice q n c) n ys)) (hm : ys.take (m * 4) = desV fs) (hfm : fs.length = m) (hmn : m ≤ n)
    (hS : ∀ b, (Own.slice 41 4 (.slice q n c) n ys : SX.Own).num ρ k = some b → S b) : rDEs.rd S w [.slice q m c] fs := by
  have hown := hb.own k _ (by rw [← nth_eq]; exact hk) ρ (Agree.refl _ _)
  simp only [Own.holds] at hown
  rcases hown.2 with ⟨hv, hn0⟩ | ⟨g, cap, cur, hv, hbg, hcell, hnc, hcm, hcs, htake⟩
  · simp only [Value.slice.injEq] at hv
    have h0 : m = 0 := by omega
    subst h0
    rw [List.length_eq_zero_iff.1 hfm]
    exact Rp.slice_nil (by omega)
  · simp only [Value.slice.injEq] at hv
    obtain ⟨rfl, _, rfl⟩ := hv
    have h1 := row_at (k := k) (b := g) (T := 41) (sz := 4) (n := n) (c := c) (xs := ys) (off := 0) (m := m * 4) (ys := desV fs) hb hk (by rw [List.drop_zero]; exact hm)
    rw [maxLen_eq] at hcm
    exact Rp.slice_mk (A := rDE) (desV fs) hfm.symm (by omega) (by omega) (hS g rfl) (Array.getElem?_eq_some_iff.1 hcell).1 h1 (des_read fs)
/-- function 62 -/
theorem deleteD_spec {w : World} {l : List DE} {n c : Nat} {q : Option Addr} {a : Addr} {id : Int} (hn : l.length = n) (hpos : 0 < n) (h12 : n ≤ 12) (ha : At w a [.int .i64 id]) (hal : a.block < w.heap.size) (hno : ¬ ofOwn [ODN n l (q, c)] a.block) (hlie : Lie [ODN n l (q, c)] w) : GivesB Tryz.prog 62 #[.slice q n c, .func (.func 64) #[] #[.pointer (some a)]] w (ofOwn [ODN n l (q, c)]) fun r w' =>
    ∃ ys : List Value, r = .slice q (filtF id l).length c ∧ ys.take ((filtF id l).length * 4) = desV (filtF id l) ∧ TurnL [ODN n l (q, c)] [.slice 41 4 (.slice q n c) n ys] w w' := by
  refine givesL_of [ODN n l (q, c)] [.val (.slice q n c), .val (.func (.func 64) #[] #[.pointer (some a)])] 42 [.tmp 4] Tryz.func62 rfl rfl rfl (by simp) rfl rfl rfl hlie ?_
  refine W.pure (ds := []) rfl fun K1 hK1 => ?_
  simp only [sx, ty, q1, q2, q5, q6, q7, q8, q9, qa, qb, reduceIte, sy, q3, q4]; with_reducible refine hK1 _ ?_; clear hK1
  refine W.seqK fun K2 hK2 => W.region ?_
  refine WO.go 2 (ds := []) rfl ?_
  simp only [sx, ty, q1, q2, q5, q6, q7, q8, q9, qa, qb, reduceIte, sy, q3, q4]
  refine WO.call (.int .i64 (findD (fun x : DE => decide (x.1.1 = id)) l)) (ds := []) rfl rfl rfl rfl co65 (fun ρ w1 hb => indexDem_spec (S := fun _ => True) (own_slice (A := rDE) (k := 0) hb rfl hn.symm (fun _ _ => trivial) (des_read l)) hn h12 (fun x : DE => decide (x.1.1 = id)) 64 #[.pointer (some a)] co64 fun w2 hk x hx => isId_spec x ((ha.frame ((hb.at (S := fun b => ¬ ofOwn [ODN n l (q, c)] b) (s := w) (by simp [St.put])).block a.block hno hal)).frame (hk.block _ trivial (Nat.lt_of_lt_of_le hal (hb.at (S := fun b => ¬ ofOwn [ODN n l (q, c)] b) (s := w) (by simp [St.put])).size))) (Nat.lt_of_lt_of_le (Nat.lt_of_lt_of_le hal (hb.at (S := fun b => ¬ ofOwn [ODN n l (q, c)] b) (s := w) (by simp [St.put])).size) hk.size)) ?_
  refine WO.go 1 (ds := []) rfl ?_
  simp only [sx, ty, q1, q2, q5, q6, q7, q8, q9, qa, qb, reduceIte, sy, q3, q4]
  with_reducible refine WO.nil ?_
  refine hK2 _ ?_; clear hK2
  refine W.seqK fun K3 hK3 => ?_
  refine W.pure (ds := []) rfl fun K4 hK4 => ?_
  simp only [sx, ty, q1, q2, q5, q6, q7, q8, q9, qa, qb, reduceIte, sy, q3, q4]; with_reducible refine hK4 _ ?_; clear hK4
  refine W.cond rfl rfl (fun hc => ?_) (fun hc => ?_)
  · skip
    have hall : filtF id l = l := by
      rcases findD_cases (fun x : DE => decide (x.1.1 = id)) l with ⟨h1, h2⟩ | ⟨i, x, h1, _⟩
      · exact List.filter_eq_self.2 fun y hy => by simpa using h2 y hy
      · rw [h1] at hc; simp at hc
    refine W.pure (ds := []) rfl fun K5 hK5 => ?_
    simp only [sx, ty, q1, q2, q5, q6, q7, q8, q9, qa, qb, reduceIte, sy, q3, q4]; with_reducible refine hK5 _ ?_; clear hK5
    refine W.ret ?_
    refine ⟨by simp, ?_⟩
    simp only [sx, ty, q1, q2, q5, q6, q7, q8, q9, qa, qb, reduceIte, sxr, sy, q3, q4]
    intro ρ w1 hb
    exact ⟨desV l, by simp only [den]; rw [hall, hn], by rw [hall]; exact List.take_of_length_le (by rw [desV_len]; exact Nat.le_refl _), turnL_of hb (by simp) rfl rfl⟩
  · skip
    obtain ⟨i0, x0, hf0, hx0, hp0, hno0⟩ : ∃ (i : Nat) (x : DE), findD (fun x : DE => decide (x.1.1 = id)) l = (i : Int) ∧ l[i]? = some x ∧ x.1.1 = id ∧ ∀ j, j < i → ∀ y, l[j]? = some y → ¬ y.1.1 = id := by
      rcases findD_cases (fun x : DE => decide (x.1.1 = id)) l with ⟨h1, h2⟩ | ⟨i, x, h1, h2, h3, h4⟩
      · rw [h1] at hc; simp at hc
      · exact ⟨i, x, h1, h2, by simpa using h3, fun j hj y hy => by simpa using h4 j hj y hy⟩
    have hD0 := DInv.start hn hx0 hp0 hno0
    have hil := hD0.le
    have hwf : IntKind.i64.wrap (findD (fun x : DE => decide (x.1.1 = id)) l + 1) = ((i0 + 1 : Nat) : Int) := by rw [hf0, wrap_id (by omega) (by omega)]; omega
    refine W.skip (hK3 _ ?_)
    refine W.seqK fun K6 hK6 => ?_
    refine W.ownCap (k := 0) rfl hpos fun b2 hb2 hnc hcm => ?_
    rw [maxLen_eq] at hcm
    simp only at hb2
    subst hb2
    refine W.pure (ds := []) rfl fun K7 hK7 => ?_
    simp only [sx, ty, q1, q2, q5, q6, q7, q8, q9, qa, qb, reduceIte, sy, q3, q4, hwf]; with_reducible refine hK7 _ ?_; clear hK7
    refine W.block ?_
    refine W.loopO (X := Nat × Nat × List DE) [0, 1] (fun x => [(5, .val (.int .i64 (x.1 : Int))), (6, .val (.int .i64 (x.2.1 : Int)))]) (fun x => [ODN n x.2.2 (some ⟨b2, 0, none⟩, c)]) (fun x => [((fun b => ¬ ofOwn [ODN n l (some ⟨b2, 0, none⟩, c)] b), w)]) (fun x => DInv id l n x.1 x.2.1 x.2.2) (fun x => n - x.2.1) (i0, i0 + 1, l) ?_ ?_ ?_
    · exact ⟨rfl, by simp [getE, bnd, keepE, hf0, hwf], ⟨[], by simp⟩, by simp [Own.bnd, bndL, bnd, boxO, ODN], by simp⟩
    · skip
      exact hD0
    · rintro ⟨i, j, t⟩ hD
      simp only at hD
      have hij := hD.lt
      have hjn := hD.le
      have htl := hD.len
      simp only [sx, ty, q1, q2, q5, q6, q7, q8, q9, qa, qb, reduceIte, sxk, sy, q3, q4, hwf]
      refine W.seqK fun K8 hK8 => ?_
      refine W.pure (ds := []) rfl fun K9 hK9 => ?_
      simp only [sx, ty, q1, q2, q5, q6, q7, q8, q9, qa, qb, reduceIte, sy, q3, q4, hwf]; with_reducible refine hK9 _ ?_; clear hK9
      refine W.cond rfl rfl (fun hc => ?_) (fun hc => ?_)
      · skip
        have hlt : j < n := by simpa using hc
        obtain ⟨v, hv⟩ := len_lt htl hlt
        refine W.skip (hK8 _ ?_)
        refine W.seqK fun K10 hK10 => ?_
        refine W.block ?_
        refine W.seqK fun K11 hK11 => W.region ?_
        refine WO.go 2 (ds := []) rfl ?_
        simp only [sx, ty, q1, q2, q5, q6, q7, q8, q9, qa, qb, reduceIte, sy, q3, q4, hwf]
        refine WO.q (ds := []) rfl rfl rfl (QR.idx rfl rfl rfl el22 (by omega) (by omega)) ?_
        refine WO.q (ds := []) rfl rfl rfl (QR.load (deV v) true rfl rfl agg41 sz41 (.inl rfl) (fun ρ w1 hb => row_des (k := 0) (i := j) hb rfl hv)) ?_
        simp only [List.drop_succ_cons, List.drop_zero, List.take_succ_cons, List.take_zero, ofCells, Bool.false_eq_true, if_false, List.headD_cons, deV, if_true, List.toList_toArray]
        refine WO.go 2 (ds := []) rfl ?_
        simp only [sx, ty, q1, q2, q5, q6, q7, q8, q9, qa, qb, reduceIte, sy, q3, q4, hwf]
        with_reducible refine WO.nil ?_
        refine hK11 _ ?_; clear hK11
        refine W.seqK fun K12 hK12 => W.region ?_
        refine WO.go 2 (ds := []) rfl ?_
        simp only [sx, ty, q1, q2, q5, q6, q7, q8, q9, qa, qb, reduceIte, sy, q3, q4, hwf]
        refine WO.call (.bool (decide (v.1.1 = id))) (ds := []) rfl rfl rfl rfl co64 (fun ρ w1 hb => isId_spec v (ha.frame ((hb.at (S := fun b => ¬ ofOwn [ODN n l (some ⟨b2, 0, none⟩, c)] b) (s := w) (by simp [St.put])).block a.block hno hal)) (Nat.lt_of_lt_of_le hal (hb.at (S := fun b => ¬ ofOwn [ODN n l (some ⟨b2, 0, none⟩, c)] b) (s := w) (by simp [St.put])).size)) ?_
        refine WO.go 1 (ds := []) rfl ?_
        simp only [sx, ty, q1, q2, q5, q6, q7, q8, q9, qa, qb, reduceIte, sy, q3, q4, hwf]
        with_reducible refine WO.nil ?_
        refine hK12 _ ?_; clear hK12
        refine W.cond rfl rfl (fun hc => ?_) (fun hc => ?_)
        · skip
          have hne : ¬ v.1.1 = id := by simpa using hc
          refine W.seqK fun K13 hK13 => W.region ?_
          refine WO.go 3 (ds := []) rfl ?_
          simp only [sx, ty, q1, q2, q5, q6, q7, q8, q9, qa, qb, reduceIte, sy, q3, q4, hwf]
          refine WO.q (ds := []) rfl rfl rfl (QR.idx rfl rfl rfl el22 (by omega) (by omega)) ?_
          simp only [sx, ty, q1, q2, q5, q6, q7, q8, q9, qa, qb, reduceIte, sy, q3, q4, hwf]
          refine WO.storeRow (T := 41) (k := 0) (b := b2) (sz := 4) (n := n) (c := c) (xs := desV t) (u := deA v) (i * 4) (deV v) rfl (ds := []) rfl rfl rfl rfl rfl (by simp [Addr.add_mid]) (by rw [desV_len]; simp only [deV, List.length_cons, List.length_nil, hD.len]; omega) (by simp [deV]) ⟨_, rfl, fun ρ => rfl⟩ rfl (by simp [deV, Value.oneCell']) sz41 ?_
          rw [show (desV t).take (i * 4) ++ (deV v ++ (desV t).drop (i * 4 + (deV v).length)) = desV (t.set i v) by rw [desV_set t i v (by rw [hD.len]; omega), List.append_assoc]; rfl]
          simp only [sx, ty, q1, q2, q5, q6, q7, q8, q9, qa, qb, reduceIte, sy, q3, q4, hwf]
          with_reducible refine WO.nil ?_
          refine hK13 _ ?_; clear hK13
          refine W.region ?_
          refine WO.go 3 (ds := []) rfl ?_
          simp only [sx, ty, q1, q2, q5, q6, q7, q8, q9, qa, qb, reduceIte, sy, q3, q4, hwf]
          with_reducible refine WO.nil ?_
          refine hK10 _ ?_
          refine W.region ?_
          refine WO.go 3 (ds := []) rfl ?_
          simp only [sx, ty, q1, q2, q5, q6, q7, q8, q9, qa, qb, reduceIte, sy, q3, q4, hwf]
          with_reducible refine WO.nil ?_
          refine ⟨(i + 1, j + 1, t.set i v), hD.keep hv hne, by simp only; omega, rfl, by simp [getE, bnd, keepE, wrap_succ (show i + 1 ≤ 9223372036854775807 by omega), wrap_succ (show j + 1 ≤ 9223372036854775807 by omega)], ⟨_, by simp [ODN]; rfl⟩, by simp [Own.bnd, bndL, bnd, ODN], by simp⟩
        · skip
          have heq : v.1.1 = id := by simpa using hc
          refine W.skip (hK10 _ ?_)
          refine W.region ?_
          refine WO.go 3 (ds := []) rfl ?_
          simp only [sx, ty, q1, q2, q5, q6, q7, q8, q9, qa, qb, reduceIte, sy, q3, q4, hwf]
          with_reducible refine WO.nil ?_
          refine ⟨(i, j + 1, t), hD.skip hv heq, by simp only; omega, rfl, by simp [getE, bnd, keepE, wrap_succ (show j + 1 ≤ 9223372036854775807 by omega)], ⟨_, by simp [ODN]; rfl⟩, by simp [Own.bnd, bndL, bnd, ODN], by simp⟩
      · skip
        have hjn2 : j = n := Nat.le_antisymm hjn (by simpa using hc)
        subst j
        obtain ⟨hs1, hs2⟩ := hD.stop hn
        refine W.exit (hK6 _ ?_)
        refine W.seqK fun K14 hK14 => W.region ?_
        refine WO.go 2 (ds := []) rfl ?_
        simp only [sx, ty, q1, q2, q5, q6, q7, q8, q9, qa, qb, reduceIte, sy, q3, q4, hwf]
        refine WO.slc (ds := []) rfl rfl rfl rfl rfl el22 rfl rfl (by simp [loS]) (by simp [loS, hiS]; omega) (by simp [hiS]; omega) ?_
        rw [show (loS (some (IntKind.i64, (i : Int)))).toNat = i from by simp [loS], show (hiS n none).toNat = n from by simp [hiS], slc_from (by omega)]
        simp only [sx, ty, q1, q2, q5, q6, q7, q8, q9, qa, qb, reduceIte, sy, q3, q4, hwf]
        refine WO.clearRow (k := 0) (b := b2) (m := n - i) (off := i * 4) rfl (ds := []) rfl rfl rfl rfl rfl rfl ek22 rfl (by omega) (by omega) fun ys hy1 hy2 => ?_
        simp only [sx, ty, q1, q2, q5, q6, q7, q8, q9, qa, qb, reduceIte, sy, q3, q4, hwf]
        with_reducible refine WO.nil ?_
        refine hK14 _ ?_; clear hK14
        refine W.seqK fun K15 hK15 => W.region ?_
        refine WO.go 2 (ds := []) rfl ?_
        simp only [sx, ty, q1, q2, q5, q6, q7, q8, q9, qa, qb, reduceIte, sy, q3, q4, hwf]
        refine WO.slc (ds := []) rfl rfl rfl rfl rfl el22 rfl rfl (by simp [loS]) (by simp [loS, hiS]) (by simp [hiS]; omega) ?_
        rw [show (loS none).toNat = 0 from rfl, show (hiS n (some (IntKind.i64, (i : Int)))).toNat = i from by simp [hiS], slc_to (by omega)]
        refine WO.go 1 (ds := []) rfl ?_
        simp only [sx, ty, q1, q2, q5, q6, q7, q8, q9, qa, qb, reduceIte, sy, q3, q4, hwf]
        with_reducible refine WO.nil ?_
        refine hK15 _ ?_; clear hK15
        refine W.ret ?_
        refine ⟨by simp, ?_⟩
        simp only [sx, ty, q1, q2, q5, q6, q7, q8, q9, qa, qb, reduceIte, sxr, sy, q3, q4, hwf]
        intro ρ w1 hb
        exact ⟨ys, by simp only [den]; rw [hs1], by rw [← hs1, hy2]; exact hs2, turnL_of hb (by simp) rfl rfl⟩
end Go.Proofs.YtolmeekbjonbcaaGreat
