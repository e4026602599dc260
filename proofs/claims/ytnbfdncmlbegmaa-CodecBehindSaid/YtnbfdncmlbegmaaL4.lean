/-
  CodecBehind, for any lists and bytes. The law answers true, and the arguments read as they did.
-/
import Derived.Test.YtnbfdncmlbegmaaC20
import Derived.Test.YtnbfdncmlbegmaaRows
import Derived.Test.YtnbfdncmlbegmaaSxArg
import Derived.ProofKit
set_option linter.unusedVariables false
namespace Go.Proofs.Ytnbfdncmlbegmaa
open Go Go.SX Go.ChangeShapes Go.WideShapes Go.ChangeAt Go.RowKit Go.Deep

theorem ownNone : ownKnob Try.prog.godebug = none := by kernel_rfl
theorem laidOut : laidOutB Try.prog = true := by kernel_rfl
theorem rr23 : Try.prog.readableRec 23 = true ∧ 23 < Try.prog.types.size := ⟨by kernel_rfl, of_decide_eq_true (by kernel_rfl)⟩
theorem rr32 : Try.prog.readableRec 32 = true ∧ 32 < Try.prog.types.size := ⟨by kernel_rfl, of_decide_eq_true (by kernel_rfl)⟩
theorem cov3 : Cov Try.prog 3 (such (Rp.int .i64) fun n => (Lit.int .i64 n).wf = true) := such_cov Try.underlying3 (by kernel_rfl)
theorem cov22 : Cov Try.prog 22 (Rp.slice (such (Rp.int .i64) fun n => (Lit.int .i64 n).wf = true)) := Cov.slice Try.underlying22 (by kernel_rfl) cov3 (by decide)
theorem cov32 : Cov Try.prog 32 (Rp.slice (Rp.slice (such (Rp.int .i64) fun n => (Lit.int .i64 n).wf = true))) := Cov.slice Try.underlying32 (by kernel_rfl) cov22 (by decide)
theorem cov5 : Cov Try.prog 5 (such (Rp.int .u8) fun n => (Lit.int .u8 n).wf = true) := such_cov Try.underlying5 (by kernel_rfl)
theorem cov23 : Cov Try.prog 23 (Rp.slice (such (Rp.int .u8) fun n => (Lit.int .u8 n).wf = true)) := Cov.slice Try.underlying23 (by kernel_rfl) cov5 (by decide)
theorem codecBehind_contract (H : Type) (enc : TypeId × Value → H) (W : World) (base : Nat) (args : Array Value) (ds gs : List (DataW H)) (before : List MemPlace)
    (hval : ∀ (j : Nat) t v, Try.f6.params[j]? = some t → args[j]? = some v → Value.okWide Try.prog W .any base t v)
    (hW : DataW.Whole enc Try.prog Try.f6.params.toList Rows.codecBehindSpec.vars false W args.toList ds gs before) :
    Calls Try.prog 6 args W fun e W' => ∃ v, e = .returned v ∧ Rows.codecBehindSpec.post enc Try.prog Try.f6 false true false false W args v W' := by
  have hW' := hW
  obtain ⟨p, q, hA0, hV, rfl, hfz, hnd⟩ := hW
  have hA : DataW.TrodAll enc Try.prog W 0 (fun _ => true) true Try.f6.params.toList args.toList ds p := hA0
  rw [Try.params6] at hA hval
  obtain ⟨v0, vs0, d0, ds0, p0, q0, hargs, rfl, rfl, h0, r0⟩ := trodAll_cons hA
  obtain ⟨v1, vs1, d1, ds1, p1, q1, rfl, rfl, rfl, h1, r1⟩ := trodAll_cons r0
  obtain ⟨rfl, rfl, rfl⟩ := trodAll_nil r1
  obtain rfl : args = #[v0, v1] := by cases args; simp_all
  obtain ⟨rfl, rfl⟩ := trodVars_none hV
  obtain ⟨x0, hx0⟩ := open_sl (A := (Rp.slice (such (Rp.int .i64) fun n => (Lit.int .i64 n).wf = true))) Try.underlying32 cov32 (hval 0 32 v0 rfl rfl) h0
  obtain ⟨x1, hx1⟩ := open_sl (A := (such (Rp.int .u8) fun n => (Lit.int .u8 n).wf = true)) Try.underlying23 cov23 (hval 1 23 v1 rfl rfl) h1
  refine Calls.mono (law4 (such_slice2 hx0).1 (such_slice hx1).1 (fun y h x h2 => wf_i64 ((such_slice2 hx0).2 y h x h2)) (fun x h => wf_u8 ((such_slice hx1).2 x h))) fun e W' ⟨v, he, hb, hv⟩ => ?_
  subst he; subst hv
  exact ⟨_, rfl, law_post laidOut hW' hb rfl (by rw [Try.params6]; simp only [List.mem_cons, List.not_mem_nil, or_false]; rintro t (rfl | rfl) <;> first | exact rr32 | exact rr23) rfl Try.underlying4 rfl rfl rfl⟩
set_option maxRecDepth 100000 in
theorem codecBehind_lifted (os : Os) (started : os.Started) (H : Type) (enc : TypeId × Value → H) :
    ReturnsInHanded {} Try.checked os 6 .any (Rows.codecBehindSpec.pre6 enc Try.prog Try.f6 Rows.codecBehindRow.domain false) (Rows.codecBehindSpec.post enc Try.prog Try.f6 false true false false) := by
  refine returnsInHanded_of_change (C := Try.checked) ownNone started (by kernel_rfl) Try.func6
    (ChangeSpec.witness6 (enc := enc) (C := Try.checked) false ⟨#[], #[.slice none 0 0, .slice none 0 0], []⟩ 8 (by kernel_rfl) (by kernel_rfl) (by kernel_rfl) (by kernel_rfl)) ?_
  intro W base args ds gs before hval hW _ _
  exact codecBehind_contract H enc W base args ds gs before hval hW
theorem codecBehind_holds : Rows.CodecBehindSaid :=
  OpenClaim.holds_of_wide 6 Try.f6 rfl rfl rfl rfl rfl rfl rfl ⟨rfl, rfl, rfl, rfl, rfl⟩ rfl rfl rfl rfl rfl (by kernel_rfl) Try.func6 (by kernel_rfl)
    (of_decide_eq_true (by kernel_rfl)) (by unfold Func.isWrapper; first | (rw [if_pos (by decide +kernel)]; kernel_rfl) | (rw [if_neg (by decide +kernel)]; exact ⟨rfl, rfl⟩))
    (fun os started H enc _ => codecBehind_lifted os started H enc)

end Go.Proofs.Ytnbfdncmlbegmaa
