/-
  Layout: what Best answers, case by case, and rows of pages, without the program.
-/
import Derived.Test.YtpggkomalbbofaaP8
set_option linter.unusedVariables false
namespace Go.Proofs.Ytpggkomalbbofaa
open Go Go.SX Go.RowKit

def pgV (p : Pg) : List Value := [.int .i64 p.1, .int .i64 p.2]
def pgsV (l : List Pg) : List Value := (l.map pgV).flatten
theorem pgsV_len (l : List Pg) : (pgsV l).length = l.length * 2 := by
  induction l with
  | nil => rfl
  | cons p l ih => simp only [pgsV, List.map_cons, List.flatten_cons, List.length_append, List.length_cons] at *; rw [ih]; simp [pgV]; omega
theorem pgsV_app (l m : List Pg) : pgsV (l ++ m) = pgsV l ++ pgsV m := by simp [pgsV]
theorem pgsV_get : ∀ (l : List Pg) (i : Nat) (y : Pg), l[i]? = some y → ((pgsV l).drop (i * 2)).take 2 = pgV y
  | [], i, y, h => by simp at h
  | p :: l, 0, y, h => by simp at h; subst h; simp [pgsV, pgV]
  | p :: l, i + 1, y, h => by
    have := pgsV_get l i y (by simpa using h)
    rw [← this]
    show (List.drop ((i + 1) * 2) (pgV p ++ pgsV l)).take 2 = _
    rw [show (i + 1) * 2 = (pgV p).length + i * 2 by simp [pgV]; omega, List.drop_append, List.drop_eq_nil_of_le (by omega)]
    simp
theorem pgs_read {S : Nat → Prop} {w : World} (xs : List Pg) : ∀ i y, xs[i]? = some y → rPg.rd S w (((pgsV xs).drop (i * rPg.sz)).take rPg.sz) y := fun i y hy => by
  rw [show rPg.sz = 2 from rfl, pgsV_get xs i y hy]
  exact rPg_mk _ _

variable {ws : List Int} {good : List Bool} {W : Int}
theorem bestF_long (h : 4000 < ws.length) : bestF ws good W = ([], 2) := by unfold bestF; rw [if_pos h]
theorem bestF_bad (h : ¬ 4000 < ws.length) (h2 : good.length ≠ ws.length ∨ within 1 100000 W = false ∨ widthsF ws = false) : bestF ws good W = ([], 1) := by unfold bestF; rw [if_neg h, if_pos h2]
theorem bestF_range (h : ¬ 4000 < ws.length) (h2 : ¬ (good.length ≠ ws.length ∨ within 1 100000 W = false ∨ widthsF ws = false)) (h3 : (ws.any fun x => decide (W < x)) = true) : bestF ws good W = ([], 3) := by unfold bestF; rw [if_neg h, if_neg h2, if_pos h3]
theorem bestF_many (h : ¬ 4000 < ws.length) (h2 : ¬ (good.length ≠ ws.length ∨ within 1 100000 W = false ∨ widthsF ws = false)) (h3 : ¬ (ws.any fun x => decide (W < x)) = true) (h4 : 1000 < (cell ws good W 0 0).2.1) : bestF ws good W = ([], 2) := by
  unfold bestF; rw [if_neg h, if_neg h2, if_neg h3, if_pos h4]
theorem bestF_ok (h : ¬ 4000 < ws.length) (h2 : ¬ (good.length ≠ ws.length ∨ within 1 100000 W = false ∨ widthsF ws = false)) (h3 : ¬ (ws.any fun x => decide (W < x)) = true) (h4 : ¬ 1000 < (cell ws good W 0 0).2.1) : bestF ws good W = (path ws good W ws.length 0 0, 0) := by
  unfold bestF; rw [if_neg h, if_neg h2, if_neg h3, if_neg h4]
/-- what the checks say, put together -/
theorem best_args (h2 : ¬ (good.length ≠ ws.length ∨ within 1 100000 W = false ∨ widthsF ws = false)) : good.length = ws.length ∧ (1 ≤ W ∧ W ≤ 100000) ∧ ws.all (within 1 100000) = true ∧ ws.length ≤ 4000 := by
  have h3 : good.length = ws.length := Decidable.byContradiction fun h => h2 (.inl h)
  have h4 : within 1 100000 W = true := by cases h : within 1 100000 W with
    | true => rfl
    | false => exact absurd (.inr (.inl h)) h2
  have h5 : widthsF ws = true := by cases h : widthsF ws with
    | true => rfl
    | false => exact absurd (.inr (.inr h)) h2
  simp only [widthsF, Bool.and_eq_true, decide_eq_true_eq] at h5
  exact ⟨h3, within_iff.1 h4, h5.1, h5.2⟩
theorem no_any (h : ¬ (ws.any fun x => decide (W < x)) = true) : ∀ x, x ∈ ws → x ≤ W := fun x hx => by
  rw [Bool.not_eq_true, List.any_eq_false] at h
  have := h x hx
  simp at this; omega
theorem rowK_f1 {i0 s r j : Nat} (h : i0 ≤ j) (hj : j ≤ ws.length) (hr : r < 2) : ((rowK ws good W i0 s).drop (j * 6 + r * 3 + 1)).take 1 = [.int .i64 (cell ws good W j r).2.1] := by
  have := congrArg (fun l => List.take 1 (List.drop 1 l)) (rowK_get ws good W (s := s) h hj hr)
  simp only [List.drop_take, List.drop_drop, List.take_take] at this
  simpa [cellV, (rankT_1 ws good W j r).2] using this
theorem rowK_f2 {i0 s r j : Nat} (h : i0 ≤ j) (hj : j < ws.length) (hr : r < 2) : ((rowK ws good W i0 s).drop (j * 6 + r * 3 + 2)).take 1 = [.int .i64 ((ws.length : Int) - (cell ws good W j r).2.2)] := by
  have := congrArg (fun l => List.take 1 (List.drop 2 l)) (rowK_get ws good W (s := s) h (Nat.le_of_lt hj) hr)
  simp only [List.drop_take, List.drop_drop, List.take_take] at this
  simpa [cellV, rankT, hj, rk] using this
theorem ints_read {S : Nat → Prop} {w : World} (xs : List Int) : ∀ i y, xs[i]? = some y → rInt.rd S w (((xs.map (Value.int .i64)).drop (i * rInt.sz)).take rInt.sz) y := fun i y hy => by
  have h : i < xs.length := (List.getElem?_eq_some_iff.1 hy).1
  show ((xs.map (Value.int .i64)).drop (i * 1)).take 1 = [.int .i64 y]
  rw [Nat.mul_one, List.drop_eq_getElem_cons (by simpa using h), List.take_succ_cons, List.take_zero]
  simp only [List.getElem_map, List.cons.injEq, and_true, Value.int.injEq, true_and]
  rw [List.getElem?_eq_getElem h] at hy
  exact Option.some.inj hy
theorem mod2n (n : Nat) : (n : Int).tmod 2 = ((n % 2 : Nat) : Int) := by rw [Int.tmod_eq_emod_of_nonneg (by omega)]; omega
end Go.Proofs.Ytpggkomalbbofaa
