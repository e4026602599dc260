/-
  Layout: the best pages, without the program.
-/
import Derived.Test.YtpggkomalbbofaaP5
set_option linter.unusedVariables false
namespace Go.Proofs.Ytpggkomalbbofaa
open Go Go.SX Go.RowKit

abbrev Cell := Int × Int × Int

/-- how many measures fit on a page, one after the other -/
def fitL : Int → List Int → Nat
  | _, [] => 0
  | W, w :: l => if w ≤ W then fitL (W - w) l + 1 else 0
theorem fitL_le : ∀ (W : Int) (l : List Int), fitL W l ≤ l.length
  | _, [] => Nat.le_refl _
  | W, w :: l => by
    have := fitL_le (W - w) l
    unfold fitL; split
    · simp; exact this
    · simp
theorem preS_cons (w : Int) (l : List Int) : ∀ m, preS (w :: l) (m + 1) = w + preS l m
  | 0 => by simp [preS]
  | m + 1 => by
    rw [preS, preS_cons w l m, preS]; simp [List.getD_eq_getElem?_getD]; omega
theorem fitL_lt : ∀ (W : Int) (l : List Int), l.all (within 1 100000) = true → ∀ m, m < l.length → (m < fitL W l ↔ preS l (m + 1) ≤ W)
  | _, [], _, m, h => by simp at h
  | W, w :: l, hp, m, h => by
    have hw : 1 ≤ w := (within_iff.1 (List.all_eq_true.1 hp w (by simp))).1
    have hl : l.all (within 1 100000) = true := by simp only [List.all_cons, Bool.and_eq_true] at hp; exact hp.2
    rw [preS_cons]
    have hpos : 0 ≤ preS l m := by
      have := preS_mono hl (m := 0) m (by omega) (by simp at h; omega)
      have h0 : preS l 0 = 0 := rfl
      omega
    unfold fitL
    split
    · rename_i hc
      cases m with
      | zero => simp [preS]; omega
      | succ m =>
        have ih := fitL_lt (W - w) l hl m (by simp at h; omega)
        rw [Nat.add_lt_add_iff_right, ih]; omega
    · rename_i hc
      constructor
      · intro h'; omega
      · intro h'; omega
theorem seg_drop {ws : List Int} {i m : Nat} (h : i + m ≤ ws.length) : preS (ws.drop i) m = segS ws i (i + m : Nat) := by
  have h1 := segS_take (ws := ws) (a := i) (b := ws.length) (by omega) (Nat.le_refl _) m (by omega)
  rw [List.take_of_length_le (by simp)] at h1
  rw [h1]; unfold segS; simp only [Int.toNat_natCast]
theorem all_drop {ws : List Int} (h : ws.all (within 1 100000) = true) (i : Nat) : (ws.drop i).all (within 1 100000) = true := by
  rw [List.all_eq_true] at *; exact fun y hy => h y (List.mem_of_mem_drop hy)
theorem fit_iff {ws : List Int} (h : ws.all (within 1 100000) = true) {W : Int} {i m : Nat} (hm : i + m < ws.length) : m < fitL W (ws.drop i) ↔ segS ws i (i + m + 1 : Nat) ≤ W := by
  rw [fitL_lt W (ws.drop i) (all_drop h i) m (by simp; omega), seg_drop (m := m + 1) (by omega)]; rfl
theorem fit_le {ws : List Int} {W : Int} {i : Nat} (hi : i ≤ ws.length) : i + fitL W (ws.drop i) ≤ ws.length := by
  have := fitL_le W (ws.drop i); simp at this; omega
theorem fit_pos {ws : List Int} (h : ws.all (within 1 100000) = true) {W : Int} (hW : ∀ x, x ∈ ws → x ≤ W) {i : Nat} (hi : i < ws.length) : 0 < fitL W (ws.drop i) := by
  rw [fit_iff h (m := 0) (by omega)]
  unfold segS
  have h1 : ((i + 0 + 1 : Nat) : Int).toNat = i + 1 := by simp
  rw [h1, Int.toNat_natCast, preS_get hi]
  have := hW ws[i] (List.getElem_mem hi); omega

/-- the best one of so many cells -/
def bestTo (n : Nat) (c : Nat → Cell) : Nat → Cell
  | 0 => ((n : Int) + 1, 0, 0)
  | m + 1 => if lessF (c m) (bestTo n c m) = true then c m else bestTo n c m
theorem bestTo_congr {n : Nat} {c c' : Nat → Cell} : ∀ {m : Nat}, (∀ k, k < m → c k = c' k) → bestTo n c m = bestTo n c' m
  | 0, _ => rfl
  | m + 1, h => by
    simp only [bestTo, bestTo_congr fun k hk => h k (Nat.lt_succ_of_lt hk), h m (Nat.lt_succ_self m)]
/-- a page from one measure to u, ahead of the best pages from there -/
def badTurn (good : List Bool) (n s u : Nat) : Int := if s = 0 ∧ u < n ∧ good.getD u true = false then 1 else 0
def cand (good : List Bool) (n s u : Nat) (c : Cell) : Cell := (c.1 + badTurn good n s u, c.2.1 + 1, u)
def cellF (ws : List Int) (good : List Bool) (W : Int) : Nat → Nat → Nat → Cell
  | 0, _, _ => (0, 0, 0)
  | f + 1, i, s => if ws.length ≤ i then (0, 0, 0) else
    bestTo ws.length (fun m => cand good ws.length s (i + m + 1) (cellF ws good W f (i + m + 1) (1 - s))) (fitL W (ws.drop i))
theorem cellF_fuel (ws : List Int) (good : List Bool) (W : Int) : ∀ f i s, ws.length - i ≤ f → cellF ws good W f i s = cellF ws good W (ws.length - i) i s
  | 0, i, s, h => by rw [show ws.length - i = 0 by omega]
  | f + 1, i, s, h => by
    by_cases hi : ws.length ≤ i
    · rw [show ws.length - i = 0 by omega]; simp only [cellF, if_pos hi]
    · obtain ⟨g, hg⟩ : ∃ g, ws.length - i = g + 1 := ⟨ws.length - i - 1, by omega⟩
      rw [hg, cellF, cellF, if_neg hi, if_neg hi]
      refine bestTo_congr fun k hk => ?_
      have hf := fitL_le W (ws.drop i)
      simp only [List.length_drop] at hf
      rw [cellF_fuel ws good W f (i + k + 1) _ (by omega), cellF_fuel ws good W g (i + k + 1) _ (by omega)]
/-- what the best pages from a measure on have -/
def cell (ws : List Int) (good : List Bool) (W : Int) (i s : Nat) : Cell := cellF ws good W (ws.length - i) i s
theorem cell_end (ws : List Int) (good : List Bool) (W : Int) {i : Nat} (h : ws.length ≤ i) (s : Nat) : cell ws good W i s = (0, 0, 0) := by
  unfold cell; rw [show ws.length - i = 0 by omega]; rfl
theorem cell_eq (ws : List Int) (good : List Bool) (W : Int) {i : Nat} (h : i < ws.length) (s : Nat) :
    cell ws good W i s = bestTo ws.length (fun m => cand good ws.length s (i + m + 1) (cell ws good W (i + m + 1) (1 - s))) (fitL W (ws.drop i)) := by
  obtain ⟨g, hg⟩ : ∃ g, ws.length - i = g + 1 := ⟨ws.length - i - 1, by omega⟩
  unfold cell
  rw [hg, cellF, if_neg (by omega)]
  exact bestTo_congr fun k hk => by rw [cellF_fuel ws good W g (i + k + 1) _ (by omega)]

/-! ### what a cell is -/
theorem lessF_irr (a : Cell) : lessF a a = false := by simp [lessF]
theorem bestTo_mem {n : Nat} {c : Nat → Cell} : ∀ {m : Nat}, (∀ k, k < m → (c k).1 ≤ n) → 0 < m → ∃ k, k < m ∧ bestTo n c m = c k
  | 0, _, h => by omega
  | 1, hb, _ => by
    have := hb 0 (by omega)
    refine ⟨0, by omega, ?_⟩
    have hl : lessF (c 0) ((n : Int) + 1, 0, 0) = true := by
      simp only [lessF]; rw [if_pos (by simp; omega)]; simp; omega
    simp only [bestTo, hl, if_true]
  | m + 2, hb, _ => by
    obtain ⟨k, hk, he⟩ := bestTo_mem (n := n) (c := c) (m := m + 1) (fun k hk => hb k (by omega)) (by omega)
    rw [bestTo]
    split
    · exact ⟨m + 1, by omega, rfl⟩
    · exact ⟨k, by omega, he⟩
/-- no worse, and not a shorter first page -/
def leF (a b : Cell) : Prop := a.1 < b.1 ∨ a.1 = b.1 ∧ (a.2.1 < b.2.1 ∨ a.2.1 = b.2.1 ∧ b.2.2 ≤ a.2.2)
theorem leF_of_not {a b : Cell} (h : lessF a b = false) : leF b a := by
  unfold lessF at h; unfold leF
  split at h
  · simp at h; left; omega
  · split at h
    · simp at h; right; refine ⟨by omega, .inl (by omega)⟩
    · simp at h; right; refine ⟨by omega, .inr ⟨by omega, by omega⟩⟩
theorem leF_of {a b : Cell} (h : lessF a b = true) : leF a b := by
  unfold lessF at h; unfold leF
  split at h
  · simp at h; left; omega
  · split at h
    · simp at h; right; refine ⟨by omega, .inl (by omega)⟩
    · simp at h; right; refine ⟨by omega, .inr ⟨by omega, by omega⟩⟩
theorem leF_trans {a b c : Cell} (h : leF a b) (h' : leF b c) : leF a c := by unfold leF at *; omega
theorem leF_refl (a : Cell) : leF a a := .inr ⟨rfl, .inr ⟨rfl, Int.le_refl _⟩⟩
theorem bestTo_le {n : Nat} {c : Nat → Cell} : ∀ {m k : Nat}, k < m → leF (bestTo n c m) (c k)
  | m + 1, k, h => by
    rw [bestTo]
    split
    · rename_i hl
      rcases Nat.lt_succ_iff_lt_or_eq.1 h with h' | rfl
      · exact leF_trans (leF_of hl) (bestTo_le h')
      · exact leF_refl _
    · rename_i hl
      rcases Nat.lt_succ_iff_lt_or_eq.1 h with h' | rfl
      · exact bestTo_le h'
      · exact leF_of_not (by simpa using hl)
end Go.Proofs.Ytpggkomalbbofaa
