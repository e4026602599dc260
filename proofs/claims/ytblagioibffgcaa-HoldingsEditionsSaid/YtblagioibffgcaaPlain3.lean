/-
  Holdings, without the program: a further edition.
-/
import Derived.Test.YtblagioibffgcaaPlain2
set_option linter.unusedVariables false
namespace Go.Proofs.Ytblagioibffgcaa
open Go Go.SX Go.RowKit

theorem idx_append (l : List Int) (x y : Int) : idxOf (l ++ [x]) y = if 0 ≤ idxOf l y then idxOf l y else if y = x then (l.length : Int) else -1 := by
  unfold idxOf findI
  rw [List.findIdx?_append]
  cases h : l.findIdx? (fun z => y == z) with
  | some i => simp
  | none =>
    by_cases hy : y = x
    · simp [List.findIdx?_cons, hy]
    · simp [List.findIdx?_cons, hy]

/-- the demand with a further edition -/
def moreD (d : Dem) (x : Int) : Dem := (d.1, d.2.1, d.2.2.1, d.2.2.2 ++ [x])
theorem ed_law (d : Dem) (c : Cop) (h : Int) : decide (0 ≤ costF d c h) = ((c.2.1 == d.2.1) && decide (0 ≤ idxOf d.2.2.2 c.2.2.1)) := by
  have := @costF_neg d c h
  by_cases h1 : c.2.1 = d.2.1
  · by_cases h2 : 0 ≤ idxOf d.2.2.2 c.2.2.1
    · have h3 : 0 ≤ costF d c h := by
        apply Classical.byContradiction; intro hn
        rcases this.1 (by omega) with h4 | h4
        · exact h4 h1.symm
        · omega
      simp [h1, h2, h3]
    · have h3 : ¬ 0 ≤ costF d c h := by have := this.2 (.inr (by omega)); omega
      simp [h1, h2, h3]
  · have h3 : ¬ 0 ≤ costF d c h := by have := this.2 (.inl (Ne.symm h1)); omega
    simp [h1, h3]
theorem ed_same {d : Dem} {c : Cop} {h x : Int} (h0 : 0 ≤ costF d c h) : costF (moreD d x) c h = costF d c h := by
  have hb : ¬ (d.2.1 ≠ c.2.1 ∨ idxOf d.2.2.2 c.2.2.1 < 0) := fun hb => by rw [costF_bad hb] at h0; omega
  have hi : idxOf (d.2.2.2 ++ [x]) c.2.2.1 = idxOf d.2.2.2 c.2.2.1 := by rw [idx_append, if_pos (by omega)]
  unfold costF moreD
  simp only [hi]
theorem ed_new {d : Dem} {c : Cop} {h x : Int} (h0 : ¬ 0 ≤ costF d c h) (h1 : 0 ≤ costF (moreD d x) c h) : c.2.2.1 = x ∧ c.2.1 = d.2.1 := by
  have hb : d.2.1 ≠ c.2.1 ∨ idxOf d.2.2.2 c.2.2.1 < 0 := (costF_neg (h := h)).1 (by omega)
  have hb' : ¬ (d.2.1 ≠ c.2.1 ∨ idxOf (d.2.2.2 ++ [x]) c.2.2.1 < 0) := fun hb' => by
    have : costF (moreD d x) c h = -1 := costF_bad hb'
    omega
  have hp : d.2.1 = c.2.1 := Classical.byContradiction fun hn => hb' (.inl hn)
  have hi : idxOf d.2.2.2 c.2.2.1 < 0 := hb.resolve_left fun hn => hn hp
  refine ⟨?_, hp.symm⟩
  apply Classical.byContradiction
  intro hn
  apply hb'
  right
  rw [idx_append, if_neg (by omega), if_neg hn]
  omega
theorem valid_one {ds : List Dem} {cs : List Cop} (hv : valid ds cs = true) {x : Dem} (hx : validD x = true) : valid [x] cs = true := by
  simp only [valid, Bool.and_eq_true] at hv ⊢
  exact ⟨by simp [validDs, hx], hv.2⟩
theorem valid_eds {ds : List Dem} {cs : List Cop} (hv : valid ds cs = true) {m : Nat} (hm : m < ds.length) : 1 ≤ ds[m].2.2.2.length := by
  simp only [valid, validDs, validCs, Bool.and_eq_true, decide_eq_true_eq] at hv
  have := List.all_eq_true.1 hv.1.1.2 _ (List.getElem_mem hm)
  simp only [validD, within, Bool.and_eq_true, decide_eq_true_eq] at this
  omega
theorem ints_cells {S : Nat → Prop} {w : World} : ∀ {xs : List Int} {olds : List Value}, olds.length = xs.length → (∀ i y, xs[i]? = some y → rInt.rd S w ((olds.drop (i * rInt.sz)).take rInt.sz) y) → olds = xs.map (.int .i64)
  | [], olds, h, _ => List.eq_nil_of_length_eq_zero h
  | x :: xs, [], h, _ => by simp at h
  | x :: xs, o :: olds, h, hr => by
    have h0 := hr 0 x rfl
    have h0' : [o] = [Value.int .i64 x] := h0
    simp only [List.cons.injEq, and_true] at h0'
    rw [List.map_cons, h0', ints_cells (xs := xs) (olds := olds) (w := w) (S := S) (by simpa using h) fun i y hy => by
      have := hr (i + 1) y (by simpa using hy)
      rwa [show (i + 1) * rInt.sz = i * rInt.sz + 1 from by show (i + 1) * 1 = i * 1 + 1; omega, List.drop_succ_cons] at this]
theorem ints_read {S : Nat → Prop} {w : World} (xs : List Int) : ∀ i y, xs[i]? = some y → rInt.rd S w (((xs.map (Value.int .i64)).drop (i * rInt.sz)).take rInt.sz) y := fun i y hy =>
  (take_one _ i (Value.int .i64 y) (by rw [List.getElem?_map, hy]; rfl) : _)
end Go.Proofs.Ytblagioibffgcaa
