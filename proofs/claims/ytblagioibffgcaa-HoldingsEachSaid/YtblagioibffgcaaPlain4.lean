/-
  Holdings: each demand and copy alone, and all in the opposite order: without the program.
-/
import Derived.Test.YtblagioibffgcaaPlain2
set_option linter.unusedVariables false
namespace Go.Proofs.Ytblagioibffgcaa
open Go Go.SX Go.RowKit

def aloneD (d : Dem) (o : Int) : Dem := (1 + o, d.2.1, 1 + o * 3, d.2.2.2)
def aloneC (c : Cop) (o : Int) : Cop := (2 + o, c.2.1, c.2.2.1, c.2.2.2)
theorem alone_cost (d : Dem) (c : Cop) (o h : Int) : costF (aloneD d o) (aloneC c o) h = costF d c h := rfl
theorem alone_valid {ds : List Dem} {cs : List Cop} (hv : valid ds cs = true) {m n : Nat} (hm : m < ds.length) (hn : n < cs.length) {o : Int} (ho : 0 ≤ o ∧ o ≤ 65535) : valid [aloneD ds[m] o] [aloneC cs[n] o] = true := by
  simp only [valid, validDs, validCs, Bool.and_eq_true, decide_eq_true_eq] at hv ⊢
  have h1 := List.all_eq_true.1 hv.1.1.2 _ (List.getElem_mem hm)
  have h2 := List.all_eq_true.1 hv.2.1.2 _ (List.getElem_mem hn)
  simp only [validD, validC, Bool.and_eq_true] at h1 h2
  simp only [List.all_cons, List.all_nil, Bool.and_true, validD, validC, aloneD, aloneC, Bool.and_eq_true, List.length_cons, List.length_nil, List.map_cons, List.map_nil]
  refine ⟨⟨⟨by omega, ⟨⟨⟨⟨?_, h1.1.1.1.1.2⟩, ?_⟩, h1.1.1.2⟩, h1.1.2⟩, h1.2⟩, by simp⟩, ⟨by omega, ⟨⟨?_, h2.1.1.2⟩, h2.1.2⟩, h2.2⟩, by simp⟩
  · simp only [within, Bool.and_eq_true, decide_eq_true_eq]; omega
  · simp only [within, Bool.and_eq_true, decide_eq_true_eq]; omega
  · simp only [within, Bool.and_eq_true, decide_eq_true_eq]; omega
theorem rev_valid {ds : List Dem} {cs : List Cop} (hv : valid ds cs = true) : valid ds.reverse cs.reverse = true := by
  simp only [valid, validDs, validCs, Bool.and_eq_true, decide_eq_true_eq] at hv ⊢
  rw [List.length_reverse, List.length_reverse, List.all_reverse, List.all_reverse, List.map_reverse, List.map_reverse]
  exact ⟨⟨hv.1.1, by rw [List.nodup_iff_pairwise_ne, List.pairwise_reverse]; exact (List.nodup_iff_pairwise_ne.1 hv.1.2).imp fun h => Ne.symm h⟩, hv.2.1, by rw [List.nodup_iff_pairwise_ne, List.pairwise_reverse]; exact (List.nodup_iff_pairwise_ne.1 hv.2.2).imp fun h => Ne.symm h⟩
theorem rev_get {α : Type} (l : List α) {m : Nat} (h : m < l.length) : l.reverse[l.length - 1 - m]? = some l[m] := by
  rw [List.getElem?_reverse (by omega)]
  rw [show l.length - 1 - (l.length - 1 - m) = m by omega, List.getElem?_eq_getElem h]
theorem rev_take {α : Type} (l : List α) {i : Nat} (h : i < l.length) : l.reverse.take (i + 1) = l.reverse.take i ++ [l[l.length - 1 - i]] := by
  rw [List.take_add_one, List.getElem?_reverse h, List.getElem?_eq_getElem (by omega)]; rfl
theorem back_row {ds : List Dem} {cs : List Cop} {h : Int} {m : Nat} (hm : m < ds.length) : (costsF ds.reverse cs.reverse h)[ds.length - 1 - m]? = some (cs.reverse.map fun c => costF ds[m] c h) := by
  simp only [costsF, List.getElem?_map, rev_get ds hm, Option.map_some]
theorem back_cell {cs : List Cop} {d : Dem} {h : Int} {n : Nat} (hn : n < cs.length) : (cs.reverse.map fun c => costF d c h)[cs.length - 1 - n]? = some (costF d cs[n] h) := by
  simp only [List.getElem?_map, rev_get cs hn, Option.map_some]
theorem u16r {x : Int} (h : 0 ≤ x ∧ x ≤ 65535) : IntKind.i64.wrap (1 + IntKind.i64.wrap x) = 1 + x ∧ IntKind.i64.wrap (1 + IntKind.i64.wrap (IntKind.i64.wrap x * 3)) = 1 + x * 3 ∧ IntKind.i64.wrap (2 + IntKind.i64.wrap x) = 2 + x := by
  rw [wrap_id (x := x) (by omega) (by omega), wrap_id (x := x * 3) (by omega) (by omega)]
  exact ⟨wrap_id (by omega) (by omega), wrap_id (by omega) (by omega), wrap_id (by omega) (by omega)⟩
end Go.Proofs.Ytblagioibffgcaa
