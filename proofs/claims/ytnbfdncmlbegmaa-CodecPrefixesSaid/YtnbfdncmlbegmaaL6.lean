/-
  CodecPrefixes, for any integers, bytes and number. The law answers true, and the arguments read as they did.
-/
import Derived.Test.YtnbfdncmlbegmaaC20
import Derived.Test.YtnbfdncmlbegmaaRows
import Derived.Test.YtnbfdncmlbegmaaSxArg
import Derived.ProofKit
set_option linter.unusedVariables false
namespace Go.Proofs.Ytnbfdncmlbegmaa
open Go Go.SX Go.ChangeShapes Go.WideShapes Go.ChangeAt Go.RowKit Go.Deep

theorem ownNone : ownKnob Try.prog.godebug = none := by kernel_rfl
theorem laidOut : laidOutB Try.prog = true := by kernel_rfl
theorem rr22 : Try.prog.readableRec 22 = true ∧ 22 < Try.prog.types.size := ⟨by kernel_rfl, of_decide_eq_true (by kernel_rfl)⟩
theorem rr23 : Try.prog.readableRec 23 = true ∧ 23 < Try.prog.types.size := ⟨by kernel_rfl, of_decide_eq_true (by kernel_rfl)⟩
theorem rr37 : Try.prog.readableRec 37 = true ∧ 37 < Try.prog.types.size := ⟨by kernel_rfl, of_decide_eq_true (by kernel_rfl)⟩
theorem cov3 : Cov Try.prog 3 (such (Rp.int .i64) fun n => (Lit.int .i64 n).wf = true) := such_cov Try.underlying3 (by kernel_rfl)
theorem cov22 : Cov Try.prog 22 (Rp.slice (such (Rp.int .i64) fun n => (Lit.int .i64 n).wf = true)) := Cov.slice Try.underlying22 (by kernel_rfl) cov3 (by decide)
theorem cov5 : Cov Try.prog 5 (such (Rp.int .u8) fun n => (Lit.int .u8 n).wf = true) := such_cov Try.underlying5 (by kernel_rfl)
theorem cov23 : Cov Try.prog 23 (Rp.slice (such (Rp.int .u8) fun n => (Lit.int .u8 n).wf = true)) := Cov.slice Try.underlying23 (by kernel_rfl) cov5 (by decide)
theorem codecPrefixes_contract (H : Type) (enc : TypeId × Value → H) (W : World) (base : Nat) (args : Array Value) (ds gs : List (DataW H)) (before : List MemPlace)
    (hval : ∀ (j : Nat) t v, Try.f8.params[j]? = some t → args[j]? = some v → Value.okWide Try.prog W .any base t v)
    (hW : DataW.Whole enc Try.prog Try.f8.params.toList Rows.codecPrefixesSpec.vars false W args.toList ds gs before) :
    Calls Try.prog 8 args W fun e W' => ∃ v, e = .returned v ∧ Rows.codecPrefixesSpec.post enc Try.prog Try.f8 false true false false W args v W' := by
  have hW' := hW
  obtain ⟨p, q, hA0, hV, rfl, hfz, hnd⟩ := hW
  have hA : DataW.TrodAll enc Try.prog W 0 (fun _ => true) true Try.f8.params.toList args.toList ds p := hA0
  rw [Try.params8] at hA hval
  obtain ⟨v0, vs0, d0, ds0, p0, q0, hargs, rfl, rfl, h0, r0⟩ := trodAll_cons hA
  obtain ⟨v1, vs1, d1, ds1, p1, q1, rfl, rfl, rfl, h1, r1⟩ := trodAll_cons r0
  obtain ⟨v2, vs2, d2, ds2, p2, q2, rfl, rfl, rfl, h2, r2⟩ := trodAll_cons r1
  obtain ⟨rfl, rfl, rfl⟩ := trodAll_nil r2
  obtain rfl : args = #[v0, v1, v2] := by cases args; simp_all
  obtain ⟨rfl, rfl⟩ := trodVars_none hV
  obtain ⟨x0, hx0⟩ := open_sl (A := (such (Rp.int .i64) fun n => (Lit.int .i64 n).wf = true)) Try.underlying22 cov22 (hval 0 22 v0 rfl rfl) h0
  obtain ⟨x1, hx1⟩ := open_sl (A := (such (Rp.int .u8) fun n => (Lit.int .u8 n).wf = true)) Try.underlying23 cov23 (hval 1 23 v1 rfl rfl) h1
  obtain ⟨x2, rfl, rfl, rfl, hx2⟩ := open_int Try.underlying37 (hval 2 37 v2 rfl rfl) h2
  refine Calls.mono (law6 (such_slice hx0).1 (such_slice hx1).1 (fun x h => wf_i64 ((such_slice hx0).2 x h)) (fun x h => wf_u8 ((such_slice hx1).2 x h)) (wf_u16 hx2)) fun e W' ⟨v, he, hb, hv⟩ => ?_
  subst he; subst hv
  exact ⟨_, rfl, law_post laidOut hW' hb rfl (by rw [Try.params8]; simp only [List.mem_cons, List.not_mem_nil, or_false]; rintro t (rfl | rfl | rfl) <;> first | exact rr22 | exact rr23 | exact rr37) rfl Try.underlying4 rfl rfl rfl⟩
set_option maxRecDepth 100000 in
theorem codecPrefixes_lifted (os : Os) (started : os.Started) (H : Type) (enc : TypeId × Value → H) :
    ReturnsInHanded {} Try.checked os 8 .any (Rows.codecPrefixesSpec.pre6 enc Try.prog Try.f8 Rows.codecPrefixesRow.domain false) (Rows.codecPrefixesSpec.post enc Try.prog Try.f8 false true false false) := by
  refine returnsInHanded_of_change (C := Try.checked) ownNone started (by kernel_rfl) Try.func8
    (ChangeSpec.witness6 (enc := enc) (C := Try.checked) false ⟨#[], #[.slice none 0 0, .slice none 0 0, .int .u16 0], []⟩ 8 (by kernel_rfl) (by kernel_rfl) (by kernel_rfl) (by kernel_rfl)) ?_
  intro W base args ds gs before hval hW _ _
  exact codecPrefixes_contract H enc W base args ds gs before hval hW
theorem codecPrefixes_holds : Rows.CodecPrefixesSaid :=
  OpenClaim.holds_of_wide 8 Try.f8 rfl rfl rfl rfl rfl rfl rfl ⟨rfl, rfl, rfl, rfl, rfl⟩ rfl rfl rfl rfl rfl (by kernel_rfl) Try.func8 (by kernel_rfl)
    (of_decide_eq_true (by kernel_rfl)) (by unfold Func.isWrapper; first | (rw [if_pos (by decide +kernel)]; kernel_rfl) | (rw [if_neg (by decide +kernel)]; exact ⟨rfl, rfl⟩))
    (fun os started H enc _ => codecPrefixes_lifted os started H enc)

end Go.Proofs.Ytnbfdncmlbegmaa
