/-
  Layout: the tables' rows, without the program.
-/
import Derived.Test.YtpggkomalbbofaaP7
set_option linter.unusedVariables false
namespace Go.Proofs.Ytpggkomalbbofaa
open Go Go.SX Go.RowKit

def cellV (c : Cell) : List Value := [.int .i64 c.1, .int .i64 c.2.1, .int .i64 c.2.2]
def cellsV (l : List Cell) : List Value := (l.map cellV).flatten
abbrev rCell : Rp Cell := Rp.pair rInt (Rp.pair rInt rInt)
abbrev rCells : Rp (List Cell) := Rp.slice rCell
theorem rCell_mk {S : Nat → Prop} {w : World} (c : Cell) : rCell.rd S w (cellV c) c := ⟨[.int .i64 c.1], [.int .i64 c.2.1, .int .i64 c.2.2], rfl, rfl, ⟨[.int .i64 c.2.1], [.int .i64 c.2.2], rfl, rfl, rfl⟩⟩
theorem rCell_open {S : Nat → Prop} {w : World} {ces : List Value} {c : Cell} (h : rCell.rd S w ces c) : ces = [.int .i64 c.1, .int .i64 c.2.1, .int .i64 c.2.2] := by
  obtain ⟨c1, c2, e, h1, c3, c4, e2, h2, h3⟩ := h
  have h1 : c1 = [.int .i64 c.1] := h1
  have h2 : c3 = [.int .i64 c.2.1] := h2
  have h3 : c4 = [.int .i64 c.2.2] := h3
  rw [e, e2, h1, h2, h3]; rfl
theorem cellsV_len (l : List Cell) : (cellsV l).length = l.length * 3 := by
  induction l with
  | nil => rfl
  | cons p l ih => simp only [cellsV, List.map_cons, List.flatten_cons, List.length_append, List.length_cons] at *; rw [ih]; simp [cellV]; omega
theorem cellsV_get : ∀ (l : List Cell) (i : Nat) (y : Cell), l[i]? = some y → ((cellsV l).drop (i * 3)).take 3 = cellV y
  | [], i, y, h => by simp at h
  | p :: l, 0, y, h => by simp at h; subst h; simp [cellsV, cellV]
  | p :: l, i + 1, y, h => by
    have := cellsV_get l i y (by simpa using h)
    rw [← this]
    show (List.drop ((i + 1) * 3) (cellV p ++ cellsV l)).take 3 = _
    rw [show (i + 1) * 3 = (cellV p).length + i * 3 by simp [cellV]; omega, List.drop_append, List.drop_eq_nil_of_le (by omega)]
    simp
theorem cells_read {S : Nat → Prop} {w : World} (xs : List Cell) : ∀ i y, xs[i]? = some y → rCell.rd S w (((cellsV xs).drop (i * rCell.sz)).take rCell.sz) y := fun i y hy => by
  rw [show rCell.sz = 3 from rfl, cellsV_get xs i y hy]
  exact rCell_mk _
theorem cellsV_set (y : Cell) : ∀ (l : List Cell) (i : Nat), i < l.length → (cellsV l).take (i * 3) ++ (cellV y ++ (cellsV l).drop (i * 3 + 3)) = cellsV (l.set i y)
  | [], i, h => by simp at h
  | p :: l, 0, h => by simp [cellsV, cellV]
  | p :: l, i + 1, h => by
    have ih := cellsV_set y l i (by simpa using h)
    rw [List.set_cons_succ]
    show (cellV p ++ cellsV l).take ((i + 1) * 3) ++ (cellV y ++ (cellV p ++ cellsV l).drop ((i + 1) * 3 + 3)) = cellV p ++ cellsV (l.set i y)
    rw [← ih, show (i + 1) * 3 = (cellV p).length + i * 3 by simp [cellV]; omega, List.take_append, List.drop_append, List.take_of_length_le (by omega), List.drop_eq_nil_of_le (by omega)]
    simp [Nat.add_assoc]
theorem map_range_set {α : Type} (f g : Nat → α) (n i : Nat) (hi : i < n) (h : ∀ j, j < n → j ≠ i → g j = f j) : ((List.range n).map f).set i (g i) = (List.range n).map g := by
  refine List.ext_getElem (by simp) fun j h1 h2 => ?_
  rw [List.getElem_set]
  simp only [List.getElem_map, List.getElem_range]
  split
  · rename_i he; rw [he]
  · rename_i he; rw [h j (by simpa using h2) (Ne.symm he)]

variable (ws : List Int) (good : List Bool) (W : Int)
/-- a row of the reference's table: done down to measure i0, and at the one ahead of it for sides below s -/
def tabR (i0 s r j : Nat) : Cell := if i0 ≤ j ∨ (j + 1 = i0 ∧ r < s) then cell ws good W j r else (0, 0, 0)
def rowL (i0 s r : Nat) : List Cell := (List.range (ws.length + 1)).map (tabR ws good W i0 s r)
def rowR (i0 s r : Nat) : List Value := cellsV (rowL ws good W i0 s r)
theorem rowR_len (i0 s r : Nat) : (rowR ws good W i0 s r).length = (ws.length + 1) * 3 := by simp [rowR, cellsV_len, rowL]
theorem rowR_zero (r : Nat) : (List.replicate (ws.length + 1) [Value.int .i64 0, .int .i64 0, .int .i64 0]).flatten = rowR ws good W ws.length 0 r := by
  have : rowL ws good W ws.length 0 r = List.replicate (ws.length + 1) (0, 0, 0) := by
    refine List.ext_getElem (by simp [rowL]) fun j h1 h2 => ?_
    simp only [rowL, List.getElem_map, List.getElem_range, List.getElem_replicate, tabR]
    split
    · rw [cell_end ws good W (by omega)]
    · rfl
  rw [rowR, this, cellsV, List.map_replicate]; rfl
theorem rowR_get {i0 s r j : Nat} (h : i0 ≤ j) (hj : j ≤ ws.length) : ((rowR ws good W i0 s r).drop (j * 3)).take 3 = cellV (cell ws good W j r) := by
  refine cellsV_get _ j _ ?_
  simp only [rowL, List.getElem?_map]
  rw [List.getElem?_range (by omega)]
  simp only [Option.map_some, tabR]
  rw [if_pos (.inl h)]
theorem rowR_f0 {i0 s r j : Nat} (h : i0 ≤ j) (hj : j ≤ ws.length) : ((rowR ws good W i0 s r).drop (j * 3)).take 1 = [.int .i64 (cell ws good W j r).1] := by
  have := congrArg (List.take 1) (rowR_get ws good W (s := s) (r := r) h hj)
  rwa [List.take_take] at this
theorem rowR_f1 {i0 s r j : Nat} (h : i0 ≤ j) (hj : j ≤ ws.length) : ((rowR ws good W i0 s r).drop (j * 3 + 1)).take 1 = [.int .i64 (cell ws good W j r).2.1] := by
  have := congrArg (fun l => List.take 1 (List.drop 1 l)) (rowR_get ws good W (s := s) (r := r) h hj)
  simp only [List.drop_take, List.drop_drop, List.take_take] at this
  simpa [cellV] using this
theorem rowR_set {i s : Nat} (hi : i < ws.length) : (rowR ws good W (i + 1) s s).take (i * 3) ++ (cellV (cell ws good W i s) ++ (rowR ws good W (i + 1) s s).drop (i * 3 + 3)) = rowR ws good W (i + 1) (s + 1) s := by
  rw [rowR, cellsV_set _ _ _ (by simp [rowL]; omega), rowR]
  congr 1
  have := map_range_set (tabR ws good W (i + 1) s s) (tabR ws good W (i + 1) (s + 1) s) (ws.length + 1) i (by omega) fun j hj hne => by
    unfold tabR
    by_cases h : i + 1 ≤ j
    · rw [if_pos (.inl h), if_pos (.inl h)]
    · rw [if_neg (by omega), if_neg (by omega)]
  rw [show tabR ws good W (i + 1) (s + 1) s i = cell ws good W i s by unfold tabR; rw [if_pos (.inr ⟨rfl, by omega⟩)]] at this
  exact this
theorem rowR_other {i s r : Nat} (h : r ≠ s) : rowR ws good W i (s + 1) r = rowR ws good W i s r := by
  have : rowL ws good W i (s + 1) r = rowL ws good W i s r := by
    unfold rowL; congr 1; funext j; unfold tabR
    by_cases h1 : i ≤ j ∨ (j + 1 = i ∧ r < s)
    · rw [if_pos h1, if_pos (by omega)]
    · rw [if_neg h1, if_neg (by omega)]
  rw [rowR, this]; rfl
theorem rowR_next {i r : Nat} (h : r < 2) : rowR ws good W (i + 1) 2 r = rowR ws good W i 0 r := by
  have : rowL ws good W (i + 1) 2 r = rowL ws good W i 0 r := by
    unfold rowL; congr 1; funext j; unfold tabR
    by_cases h1 : i ≤ j
    · rw [if_pos (by omega), if_pos (by omega)]
    · rw [if_neg (by omega), if_neg (by omega)]
  rw [rowR, this]; rfl
/-- a whole row -/
def tabL (r : Nat) : List Cell := (List.range (ws.length + 1)).map fun j => cell ws good W j r
theorem tabL_len (r : Nat) : (tabL ws good W r).length = ws.length + 1 := by simp [tabL]
theorem tabL_get {r j : Nat} (h : j ≤ ws.length) : (tabL ws good W r)[j]? = some (cell ws good W j r) := by
  rw [tabL, List.getElem?_map, List.getElem?_range (by omega)]; rfl
theorem rowR_whole (r : Nat) : rowR ws good W 0 0 r = cellsV (tabL ws good W r) := by
  unfold rowR rowL tabL; rw [show tabR ws good W 0 0 r = fun j => cell ws good W j r from funext fun j => if_pos (.inl (Nat.zero_le _))]

/-! ### The package's ranks -/
/-- a cell as the package keeps it -/
def rk (n : Nat) (c : Cell) : Cell := (c.1, c.2.1, (n : Int) - c.2.2)
def rankT (j r : Nat) : Cell := if j < ws.length then rk ws.length (cell ws good W j r) else (0, 0, 0)
theorem rankT_1 (j r : Nat) : (rankT ws good W j r).1 = (cell ws good W j r).1 ∧ (rankT ws good W j r).2.1 = (cell ws good W j r).2.1 := by
  unfold rankT
  split
  · exact ⟨rfl, rfl⟩
  · rw [cell_end ws good W (by omega)]; exact ⟨rfl, rfl⟩
def tabK (i0 s x : Nat) : Cell := if i0 ≤ x / 2 ∨ (x / 2 + 1 = i0 ∧ x % 2 < s) then rankT ws good W (x / 2) (x % 2) else (0, 0, 0)
def rowK (i0 s : Nat) : List Value := cellsV ((List.range (2 * (ws.length + 1))).map (tabK ws good W i0 s))
theorem rowK_len (i0 s : Nat) : (rowK ws good W i0 s).length = (ws.length + 1) * 6 := by simp [rowK, cellsV_len]; try omega
theorem rowK_zero : (List.replicate (ws.length + 1) [Value.int .i64 0, .int .i64 0, .int .i64 0, .int .i64 0, .int .i64 0, .int .i64 0]).flatten = rowK ws good W ws.length 0 := by
  have h1 : (List.range (2 * (ws.length + 1))).map (tabK ws good W ws.length 0) = List.replicate (2 * (ws.length + 1)) (0, 0, 0) := by
    refine List.ext_getElem (by simp) fun j h1 h2 => ?_
    simp only [List.getElem_map, List.getElem_range, List.getElem_replicate, tabK]
    split
    · unfold rankT; rw [if_neg (by omega)]
    · rfl
  have h2 : ∀ m, (List.replicate m [Value.int .i64 0, .int .i64 0, .int .i64 0, .int .i64 0, .int .i64 0, .int .i64 0]).flatten = cellsV (List.replicate (2 * m) (0, 0, 0)) := fun m => by
    induction m with
    | zero => rfl
    | succ m ih => rw [show 2 * (m + 1) = 2 * m + 1 + 1 by omega, List.replicate_succ, List.replicate_succ, List.replicate_succ, List.flatten_cons, ih]; simp [cellsV, cellV]
  rw [rowK, h1, h2]
theorem rowK_get {i0 s r j : Nat} (h : i0 ≤ j) (hj : j ≤ ws.length) (hr : r < 2) : ((rowK ws good W i0 s).drop (j * 6 + r * 3)).take 3 = cellV (rankT ws good W j r) := by
  rw [show j * 6 + r * 3 = (2 * j + r) * 3 by omega]
  refine cellsV_get _ (2 * j + r) _ ?_
  rw [List.getElem?_map, List.getElem?_range (by omega)]
  simp only [Option.map_some, tabK]
  rw [show (2 * j + r) / 2 = j by omega, show (2 * j + r) % 2 = r by omega, if_pos (.inl h)]
theorem rowK_set {i s : Nat} (hi : i < ws.length) (hs : s < 2) : (rowK ws good W (i + 1) s).take (i * 6 + s * 3) ++ (cellV (rk ws.length (cell ws good W i s)) ++ (rowK ws good W (i + 1) s).drop (i * 6 + s * 3 + 3)) = rowK ws good W (i + 1) (s + 1) := by
  rw [show i * 6 + s * 3 = (2 * i + s) * 3 by omega, rowK, cellsV_set _ _ _ (by simp; omega), rowK]
  congr 1
  have := map_range_set (tabK ws good W (i + 1) s) (tabK ws good W (i + 1) (s + 1)) (2 * (ws.length + 1)) (2 * i + s) (by omega) fun j hj hne => by
    unfold tabK
    by_cases h : i + 1 ≤ j / 2 ∨ (j / 2 + 1 = i + 1 ∧ j % 2 < s)
    · rw [if_pos h, if_pos (by omega)]
    · rw [if_neg h, if_neg (by omega)]
  rw [show tabK ws good W (i + 1) (s + 1) (2 * i + s) = rk ws.length (cell ws good W i s) by
    unfold tabK rankT
    rw [show (2 * i + s) / 2 = i by omega, show (2 * i + s) % 2 = s by omega, if_pos (.inr ⟨rfl, by omega⟩), if_pos hi]] at this
  exact this
theorem rowK_next {i : Nat} : rowK ws good W (i + 1) 2 = rowK ws good W i 0 := by
  unfold rowK; congr 2; funext j; unfold tabK
  by_cases h1 : i ≤ j / 2
  · rw [if_pos (by omega), if_pos (by omega)]
  · rw [if_neg (by omega), if_neg (by omega)]
/-- the best one of so many, as the package keeps it -/
def bestK (n : Nat) (c : Nat → Cell) (m : Nat) : Cell := if m = 0 then ((n : Int) + 1, 0, 0) else rk n (bestTo n c m)
theorem bestK_pos {n : Nat} {c : Nat → Cell} {m : Nat} (h : 0 < m) : bestK n c m = rk n (bestTo n c m) := by unfold bestK; rw [if_neg (by omega)]
def lstV (c : Cell) : List Int := [c.1, c.2.1, c.2.2]
theorem cmpL_less (a b : Cell) : decide (cmpL (lstV a) (lstV b) < 0) = decide (a.1 < b.1 ∨ a.1 = b.1 ∧ (a.2.1 < b.2.1 ∨ a.2.1 = b.2.1 ∧ a.2.2 < b.2.2)) := by
  rw [decide_eq_decide]
  simp only [lstV, cmpL]
  repeat' split
  all_goals first | omega | (simp at *; omega)
theorem less_rk {n : Nat} {c : Nat → Cell} {m : Nat} (hb : (c m).1 ≤ n) (h0 : 0 < m → True) : decide (cmpL (lstV (rk n (c m))) (lstV (bestK n c m)) < 0) = lessF (c m) (bestTo n c m) := by
  rw [cmpL_less]
  unfold bestK
  split
  · rename_i he
    subst he
    have : lessF (c 0) (bestTo n c 0) = true := by
      show lessF (c 0) ((n : Int) + 1, 0, 0) = true
      simp only [lessF]; rw [if_pos (by simp; omega)]; simp; omega
    rw [this, decide_eq_true_eq]; left; simp [rk]; omega
  · rw [Bool.eq_iff_iff, decide_eq_true_eq]
    simp only [rk, lessF]
    split
    · simp; omega
    · split
      · simp; omega
      · simp; omega
theorem bestK_step {n : Nat} {c : Nat → Cell} {m : Nat} : bestK n c (m + 1) = if lessF (c m) (bestTo n c m) = true then rk n (c m) else (if m = 0 then ((n : Int) + 1, 0, n) else bestK n c m) := by
  rw [bestK_pos (by omega), bestTo]
  split
  · rfl
  · unfold bestK
    split
    · rename_i he; subst he; simp [rk, bestTo]
    · rfl
theorem bestK_step' {n : Nat} {c : Nat → Cell} {m : Nat} (hb : (c m).1 ≤ n) : bestK n c (m + 1) = if lessF (c m) (bestTo n c m) = true then rk n (c m) else bestK n c m := by
  rw [bestK_step]
  by_cases hm : m = 0
  · subst hm
    have : lessF (c 0) (bestTo n c 0) = true := by
      show lessF (c 0) ((n : Int) + 1, 0, 0) = true
      simp only [lessF]; rw [if_pos (by simp; omega)]; simp; omega
    rw [if_pos this, if_pos this]
  · rw [if_neg hm]
/-- a cell that is compared with itself is not better -/
theorem cmpL_self (a : Cell) : ¬ cmpL (lstV a) (lstV a) < 0 := by
  have := cmpL_less a a
  rw [decide_eq_decide] at this
  rw [this]; omega

/-! ### what Best answers -/
def bestF : List Pg × Int :=
  if 4000 < ws.length then ([], 2) else if good.length ≠ ws.length ∨ within 1 100000 W = false ∨ widthsF ws = false then ([], 1)
  else if (ws.any fun x => decide (W < x)) = true then ([], 3) else if 1000 < (cell ws good W 0 0).2.1 then ([], 2) else (path ws good W ws.length 0 0, 0)
/-- the rest of the best pages -/
theorem path_fuel (hv : ws.all (within 1 100000) = true) (hW : ∀ x, x ∈ ws → x ≤ W) : ∀ (f i s : Nat), i ≤ ws.length → ws.length ≤ i + f → path ws good W f i s = path ws good W (ws.length - i) i s
  | 0, i, s, h1, h2 => by rw [show ws.length - i = 0 by omega]
  | f + 1, i, s, h1, h2 => by
    by_cases hi : ws.length ≤ i
    · rw [show ws.length - i = 0 by omega]; simp only [path, if_pos hi]
    · obtain ⟨g, hg⟩ : ∃ g, ws.length - i = g + 1 := ⟨ws.length - i - 1, by omega⟩
      obtain ⟨k, hk, he⟩ := (cell_ok (good := good) hv hW (ws.length - i) i s (by omega)).2 (by omega)
      have hfl := fit_le (ws := ws) (W := W) (i := i) (by omega)
      have hu : (cell ws good W i s).2.2.toNat = i + k + 1 := by rw [he]; rfl
      rw [hg, path, path, if_neg hi, if_neg hi, hu, path_fuel hv hW f (i + k + 1) (1 - s) (by omega) (by omega), path_fuel hv hW g (i + k + 1) (1 - s) (by omega) (by omega)]
theorem path_step (hv : ws.all (within 1 100000) = true) (hW : ∀ x, x ∈ ws → x ≤ W) {i : Nat} (s : Nat) (hi : i < ws.length) : ∃ u : Nat, i < u ∧ u ≤ ws.length ∧ (cell ws good W i s).2.2 = (u : Int) ∧
    path ws good W (ws.length - i) i s = ((i : Int), (u : Int)) :: path ws good W (ws.length - u) u (1 - s) := by
  obtain ⟨g, hg⟩ : ∃ g, ws.length - i = g + 1 := ⟨ws.length - i - 1, by omega⟩
  obtain ⟨k, hk, he⟩ := (cell_ok (good := good) hv hW (ws.length - i) i s (by omega)).2 (by omega)
  have hfl := fit_le (ws := ws) (W := W) (i := i) (by omega)
  have hu : (cell ws good W i s).2.2 = ((i + k + 1 : Nat) : Int) := by rw [he]; rfl
  refine ⟨i + k + 1, by omega, by omega, hu, ?_⟩
  rw [hg, path, if_neg (by omega), hu, Int.toNat_natCast, path_fuel ws good W hv hW g (i + k + 1) (1 - s) (by omega) (by omega)]
end Go.Proofs.Ytpggkomalbbofaa
