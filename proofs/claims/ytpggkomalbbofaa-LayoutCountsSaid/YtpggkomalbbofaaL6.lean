/-
  LayoutCounts, for any pages and places. The law answers true, and the arguments read as they did.
-/
import Derived.Test.YtpggkomalbbofaaP13
import Derived.Test.YtpggkomalbbofaaRows
import Derived.Test.YtpggkomalbbofaaSxArg
import Derived.ProofKit
set_option linter.unusedVariables false
namespace Go.Proofs.Ytpggkomalbbofaa
open Go Go.SX Go.ChangeShapes Go.WideShapes Go.ChangeAt Go.RowKit Go.Deep

theorem ownNone : ownKnob Try.prog.godebug = none := by kernel_rfl
theorem laidOut : laidOutB Try.prog = true := by kernel_rfl
theorem rr23 : Try.prog.readableRec 23 = true ∧ 23 < Try.prog.types.size := ⟨by kernel_rfl, of_decide_eq_true (by kernel_rfl)⟩
theorem rr24 : Try.prog.readableRec 24 = true ∧ 24 < Try.prog.types.size := ⟨by kernel_rfl, of_decide_eq_true (by kernel_rfl)⟩
theorem cov3 : Cov Try.prog 3 (Rp.int .i64) := Cov.int Try.underlying3 (by kernel_rfl)
theorem cov36 : Cov Try.prog 36 (Rp.pair (Rp.int .i64) (Rp.int .i64)) := Cov.struct (fs := _) Try.underlying36 (by kernel_rfl) (CovF.cons rfl cov3 (CovF.one rfl cov3))
theorem cov24 : Cov Try.prog 24 (Rp.slice (Rp.pair (Rp.int .i64) (Rp.int .i64))) := Cov.slice Try.underlying24 (by kernel_rfl) cov36 (by decide)
theorem cov4 : Cov Try.prog 4 Rp.bool := Cov.bool Try.underlying4 (by kernel_rfl)
theorem cov23 : Cov Try.prog 23 (Rp.slice Rp.bool) := Cov.slice Try.underlying23 (by kernel_rfl) cov4 (by decide)
theorem layoutCounts_contract (H : Type) (enc : TypeId × Value → H) (W : World) (base : Nat) (args : Array Value) (ds gs : List (DataW H)) (before : List MemPlace)
    (hval : ∀ (j : Nat) t v, Try.f8.params[j]? = some t → args[j]? = some v → Value.okWide Try.prog W .any base t v)
    (hW : DataW.Whole enc Try.prog Try.f8.params.toList Rows.layoutCountsSpec.vars false W args.toList ds gs before) :
    Calls Try.prog 8 args W fun e W' => ∃ v, e = .returned v ∧ Rows.layoutCountsSpec.post enc Try.prog Try.f8 false true false false W args v W' := by
  have hW' := hW
  obtain ⟨p, q, hA0, hV, rfl, hfz, hnd⟩ := hW
  have hA : DataW.TrodAll enc Try.prog W 0 (fun _ => true) true Try.f8.params.toList args.toList ds p := hA0
  rw [Try.params8] at hA hval
  obtain ⟨v0, vs0, d0, ds0, p0, q0, hargs, rfl, rfl, h0, r0⟩ := trodAll_cons hA
  obtain ⟨v1, vs1, d1, ds1, p1, q1, rfl, rfl, rfl, h1, r1⟩ := trodAll_cons r0
  obtain ⟨rfl, rfl, rfl⟩ := trodAll_nil r1
  obtain rfl : args = #[v0, v1] := by cases args; simp_all
  obtain ⟨rfl, rfl⟩ := trodVars_none hV
  obtain ⟨x0, hx0⟩ := open_sl (A := (Rp.pair (Rp.int .i64) (Rp.int .i64))) Try.underlying24 cov24 (hval 0 24 v0 rfl rfl) h0
  obtain ⟨x1, hx1⟩ := open_sl (A := Rp.bool) Try.underlying23 cov23 (hval 1 23 v1 rfl rfl) h1
  refine Calls.mono (law6 hx0 hx1) fun e W' ⟨v, he, hb, hv⟩ => ?_
  subst he; subst hv
  exact ⟨_, rfl, law_post laidOut hW' hb rfl (by rw [Try.params8]; simp only [List.mem_cons, List.not_mem_nil, or_false]; rintro t (rfl | rfl) <;> first | exact rr24 | exact rr23) rfl Try.underlying4 rfl rfl rfl⟩
set_option maxRecDepth 100000 in
theorem layoutCounts_lifted (os : Os) (started : os.Started) (H : Type) (enc : TypeId × Value → H) :
    ReturnsInHanded {} Try.checked os 8 .any (Rows.layoutCountsSpec.pre6 enc Try.prog Try.f8 Rows.layoutCountsRow.domain false) (Rows.layoutCountsSpec.post enc Try.prog Try.f8 false true false false) := by
  refine returnsInHanded_of_change (C := Try.checked) ownNone started (by kernel_rfl) Try.func8
    (ChangeSpec.witness6 (enc := enc) (C := Try.checked) false ⟨#[], #[.slice none 0 0, .slice none 0 0], []⟩ 8 (by kernel_rfl) (by kernel_rfl) (by kernel_rfl) (by kernel_rfl)) ?_
  intro W base args ds gs before hval hW _ _
  exact layoutCounts_contract H enc W base args ds gs before hval hW
theorem layoutCounts_holds : Rows.LayoutCountsSaid :=
  OpenClaim.holds_of_wide 8 Try.f8 rfl rfl rfl rfl rfl rfl rfl ⟨rfl, rfl, rfl, rfl, rfl⟩ rfl rfl rfl rfl rfl (by kernel_rfl) Try.func8 (by kernel_rfl)
    (of_decide_eq_true (by kernel_rfl)) (by unfold Func.isWrapper; first | (rw [if_pos (by decide +kernel)]; kernel_rfl) | (rw [if_neg (by decide +kernel)]; exact ⟨rfl, rfl⟩))
    (fun os started H enc _ => layoutCounts_lifted os started H enc)

end Go.Proofs.Ytpggkomalbbofaa
