/-
  From a row's condition on its listed variables to what lies in memory.
-/
import Derived.Test.YtpbohhfpbjofaaaDoorSxArg
import Derived.Lib.LaidTab
import Derived.MakeChecks
set_option linter.unusedVariables false
namespace Go.SX
open Go Go.RowKit

theorem tab_at {P : Program} {W : World} {name : String} {zs : List Int} {g : Nat} (hT : Lib.TabIs P W name .i64 zs) (hg : P.globalNamed name = some g) (h0 : 0 < zs.length) : At W ⟨g, 0, none⟩ (zs.map (.int .i64)) ∧ g < W.heap.size := by
  have key : ∀ j, j < zs.length → W.cell? ⟨g, j, none⟩ = some (.int .i64 (zs.getD j 0)) := fun j hj => hT.cell hg j hj
  refine ⟨fun j v hv => ?_, World.block_lt_of_cell? W ⟨g, 0, none⟩ (key 0 h0)⟩
  rw [Addr.add_mid, Nat.zero_add]
  have hj : j < zs.length := by have := (List.getElem?_eq_some_iff.1 hv).1; simpa using this
  rw [key j hj]
  rw [List.getElem?_map, List.getElem?_eq_getElem hj] at hv
  simp only [Option.map_some, Option.some.injEq] at hv
  subst hv
  simp [List.getD, hj]

theorem tab_first {P : Program} {W : World} {name : String} {k : IntKind} {zs : List Int} {rest : List (String × DataW Unit)} {g : Nat} {t e : TypeId} {n : Nat}
    (hg : P.globalNamed name = some g) (hty : (P.globals[g]?).map (·.type) = some t) (ht : P.underlying t = some (.array n e)) (he : P.underlying e = some (.int k)) (hce : P.cellsOf e = 1) (hct : P.cellsOf t = n)
    (hp : (((name, Lib.tabData k zs) :: rest).all fun x => x.2.handleName?.isNone) = true) (h : laidMetH P ((name, Lib.tabData k zs) :: rest) W) : Lib.TabIs P W name k zs := by
  rw [MakeChecks.laidMetH_plain _ _ _ hp] at h
  exact Lib.tabIs_of_head hg hty ht he hce hct h
theorem tab_second {P : Program} {W : World} {n0 : String} {d0 : DataW Unit} {name : String} {k : IntKind} {zs : List Int} {rest : List (String × DataW Unit)} {g : Nat} {t e : TypeId} {n : Nat}
    (hg : P.globalNamed name = some g) (hty : (P.globals[g]?).map (·.type) = some t) (ht : P.underlying t = some (.array n e)) (he : P.underlying e = some (.int k)) (hce : P.cellsOf e = 1) (hct : P.cellsOf t = n)
    (hp : (((n0, d0) :: (name, Lib.tabData k zs) :: rest).all fun x => x.2.handleName?.isNone) = true) (h : laidMetH P ((n0, d0) :: (name, Lib.tabData k zs) :: rest) W) : Lib.TabIs P W name k zs := by
  rw [MakeChecks.laidMetH_plain _ _ _ hp] at h
  obtain ⟨ps, ⟨g1, t1, cs1, f1, p1, q1, _, _, _, _, ⟨g', t', cs, fuel, p, q, hg', ht', hvar, hd, _, _⟩, _⟩, _⟩ := h
  obtain rfl := Option.some.inj (hg.symm.trans hg')
  obtain rfl := Option.some.inj (hty.symm.trans ht')
  unfold Lib.TabIs
  rw [hvar, ← Lib.cells_of_tab ht he hce hct hd]
end Go.SX
