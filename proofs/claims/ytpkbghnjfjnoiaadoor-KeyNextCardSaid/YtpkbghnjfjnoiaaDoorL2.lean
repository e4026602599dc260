/-
  KeyNext, for any key. The law answers true, and the arguments read as they did. The package's tables hold what the program's text lays in them (tied).
-/
import Derived.Test.YtpkbghnjfjnoiaaDoorK8
import Derived.Test.YtpkbghnjfjnoiaaDoorRows
import Derived.Test.YtpkbghnjfjnoiaaDoorSxArg
import Derived.ProofKit
import Derived.Test.YtpkbghnjfjnoiaaDoorSxLaid
import Derived.Test.YtpkbghnjfjnoiaaDoorTie
import Derived.Test.YtpkbghnjfjnoiaaDoorCards
import Derived.SevenTiedAt
import Derived.LaidMore
import Derived.Stop.Joined
set_option linter.unusedVariables false
namespace Go.Proofs.YtpkbghnjfjnoiaaDoor
open Go Go.SX Go.ChangeShapes Go.WideShapes Go.ChangeAt Go.RowKit Go.Deep

theorem ownNone : ownKnob Tryd.prog.godebug = none := by kernel_rfl
theorem laidOut : laidOutB Tryd.prog = true := by kernel_rfl
theorem rr3 : Tryd.prog.readableRec 3 = true ∧ 3 < Tryd.prog.types.size := ⟨by kernel_rfl, of_decide_eq_true (by kernel_rfl)⟩
def laid_keyNext : List (String × DataW Unit) := [("partbook/key.sharps", Rows.laid_partbook_key_sharps)]
set_option maxRecDepth 100000 in
theorem keyNext_met (os : Os) (args : Array Value) : laidMetH Tryd.prog laid_keyNext ((World.doorLaid Tryd.prog 19 os).forCall (fun _ _ => 0) ⟨#[], args, []⟩).memory :=
  laidMetH_of_parts3 (fuel := 8) (laidMet_of_run' 8 (by kernel_rfl) (by kernel_rfl)) (by kernel_rfl) (by kernel_rfl)
set_option maxRecDepth 100000 in
theorem keyNext_facts {W : World} (hL : laidMetH Tryd.prog laid_keyNext W) : GS W := tab_at (tab_first (P := Tryd.prog) (name := "partbook/key.sharps") (k := .i64) (zs := sharps) (n := 7) (g := 0) (by kernel_rfl) (by kernel_rfl) Tryd.underlying70 Tryd.underlying3 (by kernel_rfl) (by kernel_rfl) rfl hL) (by kernel_rfl) (by decide)
theorem keyNext_contract (H : Type) (enc : TypeId × Value → H) (W : World) (base : Nat) (args : Array Value) (ds gs : List (DataW H)) (before : List MemPlace)
    (hval : ∀ (j : Nat) t v, Tryd.f4.params[j]? = some t → args[j]? = some v → Value.okWide Tryd.prog W .any base t v)
    (hW : DataW.Whole enc Tryd.prog Tryd.f4.params.toList Rows.keyNextSpec.vars false W args.toList ds gs before) (hL : laidMetH Tryd.prog laid_keyNext W) :
    Calls Tryd.prog 4 args W fun e W' => ∃ v, e = .returned v ∧ Rows.keyNextSpec.post enc Tryd.prog Tryd.f4 false true false false W args v W' := by
  have hW' := hW
  obtain ⟨p, q, hA0, hV, rfl, hfz, hnd⟩ := hW
  have hA : DataW.TrodAll enc Tryd.prog W 0 (fun _ => true) true Tryd.f4.params.toList args.toList ds p := hA0
  rw [Tryd.params4] at hA hval
  obtain ⟨v0, vs0, d0, ds0, p0, q0, hargs, rfl, rfl, h0, r0⟩ := trodAll_cons hA
  obtain ⟨rfl, rfl, rfl⟩ := trodAll_nil r0
  obtain rfl : args = #[v0] := by cases args; simp_all
  obtain ⟨rfl, rfl⟩ := trodVars_none hV
  obtain ⟨x0, rfl, rfl, rfl, hx0⟩ := open_int Tryd.underlying3 (hval 0 3 v0 rfl rfl) h0
  have hG := keyNext_facts hL
  refine Calls.mono (law2 hG x0) fun e W' ⟨v, he, hb, hv⟩ => ?_
  subst he; subst hv
  exact ⟨_, rfl, law_post laidOut hW' hb rfl (by rw [Tryd.params4]; simp only [List.mem_cons, List.not_mem_nil, or_false]; rintro t (rfl) <;> first | exact rr3) rfl Tryd.underlying4 rfl rfl rfl⟩
set_option maxRecDepth 100000 in
theorem keyNext_lifted (os : Os) (started : os.Started) (H : Type) (enc : TypeId × Value → H) :
    ReturnsInHanded {} Tryd.checked os 4 .any (fun w args => (Rows.keyNextSpec.pre enc Tryd.prog Tryd.f4 [] false w args ∧ laidMetH Tryd.prog laid_keyNext w) ∧ sizedMet enc Tryd.prog Tryd.f4 (OpenSpec.ofChange Rows.keyNextSpec) false w args)
      (Rows.keyNextSpec.post enc Tryd.prog Tryd.f4 false true false false) := by
  refine returnsInHanded_of_change_and (C := Tryd.checked) (X := fun w _ => laidMetH Tryd.prog laid_keyNext w) (fun _ _ _ hh h => h.of_heap hh) ownNone started (by kernel_rfl) Tryd.func4
    (ChangeSpec.witness_shaped (enc := enc) (C := Tryd.checked) (os := os) (X := fun w _ => laidMetH Tryd.prog laid_keyNext w) false (World.doorLaid Tryd.prog 19 os) #[.int .i64 0] 8 rfl (World.shaped_of_RefB (by kernel_rfl) (by kernel_rfl)) (by kernel_rfl) (by kernel_rfl) (by kernel_rfl) (keyNext_met os _)) ?_
  intro W base args ds gs before hval hW _ _ hL _
  exact keyNext_contract H enc W base args ds gs before hval hW hL
theorem keyNext_holds : Rows.KeyNextSaid :=
  OpenClaim.holds_of_wide 4 Tryd.f4 rfl rfl rfl rfl rfl rfl rfl ⟨rfl, rfl, rfl, rfl, rfl⟩ rfl rfl rfl rfl rfl (by kernel_rfl) Tryd.func4 (by kernel_rfl)
    (of_decide_eq_true (by kernel_rfl)) (by unfold Func.isWrapper; first | (rw [if_pos (by decide +kernel)]; kernel_rfl) | (rw [if_neg (by decide +kernel)]; exact ⟨rfl, rfl⟩))
    (fun os started H enc _ => keyNext_lifted os started H enc)

set_option maxRecDepth 100000 in
theorem keyNext_card : Rows.KeyNextCardSaid :=
  Claim7.holds_tied_plain_at .later [] [.widerDeep] true (true, "a6eb40b6e3a5aabde20ae0844d87add579ea35fc0820b595d773fc7012380601") false
    keyNext_holds (fun _ h => by cases h) (by kernel_rfl) (fun _ h => by cases h) keyNext_row_tie rfl ⟨rfl, rfl⟩ (by kernel_rfl) rfl
    (fun f fn hf hfn => by
      obtain rfl : f = 4 := Option.some.inj ((show Tryd.prog.funcNamed "partbook/partbooklaw03.KeyNext" = some 4 by kernel_rfl).symm.trans hf) |>.symm
      obtain rfl : fn = Tryd.f4 := (Option.some.inj (Tryd.func4.symm.trans hfn)).symm
      exact ⟨by kernel_rfl, fun j t ht => by
        rw [Tryd.params4] at ht
        have hm : t ∈ [3] := by simpa using Array.mem_of_getElem? ht
        have hall : ([3].all fun u => !Tryd.prog.wantsStandIn u) = true := by kernel_rfl
        exact (show Tryd.prog.wantsStandIn t = false by simpa using List.all_eq_true.1 hall t hm)⟩)
    (by kernel_rfl)

end Go.Proofs.YtpkbghnjfjnoiaaDoor
