/-
  InstrumentClefs, for any pitches and number. The law answers true, and the arguments read as they did. The package's tables hold what the program's text lays in them (tied).
-/
import Derived.Test.YtpbohhfpbjofaaaDoorI7
import Derived.Test.YtpbohhfpbjofaaaDoorRows
import Derived.Test.YtpbohhfpbjofaaaDoorSxArg
import Derived.ProofKit
import Derived.Test.YtpbohhfpbjofaaaDoorSxLaid
import Derived.Test.YtpbohhfpbjofaaaDoorTie
import Derived.Test.YtpbohhfpbjofaaaDoorCards
import Derived.SevenTiedAt
import Derived.LaidMore
import Derived.Stop.Joined
set_option linter.unusedVariables false
namespace Go.Proofs.YtpbohhfpbjofaaaDoor
open Go Go.SX Go.ChangeShapes Go.WideShapes Go.ChangeAt Go.RowKit Go.Deep

theorem ownNone : ownKnob Tryd.prog.godebug = none := by kernel_rfl
theorem laidOut : laidOutB Tryd.prog = true := by kernel_rfl
theorem rr5 : Tryd.prog.readableRec 5 = true ∧ 5 < Tryd.prog.types.size := ⟨by kernel_rfl, of_decide_eq_true (by kernel_rfl)⟩
theorem rr28 : Tryd.prog.readableRec 28 = true ∧ 28 < Tryd.prog.types.size := ⟨by kernel_rfl, of_decide_eq_true (by kernel_rfl)⟩
theorem cov3 : Cov Tryd.prog 3 (Rp.int .i64) := Cov.int Tryd.underlying3 (by kernel_rfl)
theorem cov25 : Cov Tryd.prog 25 (Rp.pair (Rp.int .i64) (Rp.pair (Rp.int .i64) (Rp.int .i64))) := Cov.struct (fs := _) Tryd.underlying25 (by kernel_rfl) (CovF.cons rfl cov3 (CovF.cons rfl cov3 (CovF.one rfl cov3)))
theorem cov28 : Cov Tryd.prog 28 (Rp.slice (Rp.pair (Rp.int .i64) (Rp.pair (Rp.int .i64) (Rp.int .i64)))) := Cov.slice Tryd.underlying28 (by kernel_rfl) cov25 (by decide)
def laid_instrumentClefs : List (String × DataW Unit) := [("partbook/pitch.naturals", Rows.laid_partbook_pitch_naturals)]
set_option maxRecDepth 100000 in
theorem instrumentClefs_met (os : Os) (args : Array Value) : laidMetH Tryd.prog laid_instrumentClefs ((World.doorLaid Tryd.prog 19 os).forCall (fun _ _ => 0) ⟨#[], args, []⟩).memory :=
  laidMetH_of_parts3 (fuel := 8) (laidMet_of_run' 8 (by kernel_rfl) (by kernel_rfl)) (by kernel_rfl) (by kernel_rfl)
set_option maxRecDepth 100000 in
theorem instrumentClefs_facts {W : World} (hL : laidMetH Tryd.prog laid_instrumentClefs W) : GN W := tab_at (tab_first (P := Tryd.prog) (name := "partbook/pitch.naturals") (k := .i64) (zs := naturals) (n := 7) (g := 0) (by kernel_rfl) (by kernel_rfl) Tryd.underlying82 Tryd.underlying3 (by kernel_rfl) (by kernel_rfl) rfl hL) (by kernel_rfl) (by decide)
theorem instrumentClefs_contract (H : Type) (enc : TypeId × Value → H) (W : World) (base : Nat) (args : Array Value) (ds gs : List (DataW H)) (before : List MemPlace)
    (hval : ∀ (j : Nat) t v, Tryd.f7.params[j]? = some t → args[j]? = some v → Value.okWide Tryd.prog W .any base t v)
    (hW : DataW.Whole enc Tryd.prog Tryd.f7.params.toList Rows.instrumentClefsSpec.vars false W args.toList ds gs before) (hL : laidMetH Tryd.prog laid_instrumentClefs W) :
    Calls Tryd.prog 7 args W fun e W' => ∃ v, e = .returned v ∧ Rows.instrumentClefsSpec.post enc Tryd.prog Tryd.f7 false true false false W args v W' := by
  have hW' := hW
  obtain ⟨p, q, hA0, hV, rfl, hfz, hnd⟩ := hW
  have hA : DataW.TrodAll enc Tryd.prog W 0 (fun _ => true) true Tryd.f7.params.toList args.toList ds p := hA0
  rw [Tryd.params7] at hA hval
  obtain ⟨v0, vs0, d0, ds0, p0, q0, hargs, rfl, rfl, h0, r0⟩ := trodAll_cons hA
  obtain ⟨v1, vs1, d1, ds1, p1, q1, rfl, rfl, rfl, h1, r1⟩ := trodAll_cons r0
  obtain ⟨rfl, rfl, rfl⟩ := trodAll_nil r1
  obtain rfl : args = #[v0, v1] := by cases args; simp_all
  obtain ⟨rfl, rfl⟩ := trodVars_none hV
  obtain ⟨x0, hx0⟩ := open_sl (A := (Rp.pair (Rp.int .i64) (Rp.pair (Rp.int .i64) (Rp.int .i64)))) Tryd.underlying28 cov28 (hval 0 28 v0 rfl rfl) h0
  obtain ⟨x1, rfl, rfl, rfl, hx1⟩ := open_int Tryd.underlying5 (hval 1 5 v1 rfl rfl) h1
  have hN := instrumentClefs_facts hL
  refine Calls.mono (law5 hN hx0 x1 (u8_range hx1)) fun e W' ⟨v, he, hb, hv⟩ => ?_
  subst he; subst hv
  exact ⟨_, rfl, law_post laidOut hW' hb rfl (by rw [Tryd.params7]; simp only [List.mem_cons, List.not_mem_nil, or_false]; rintro t (rfl | rfl) <;> first | exact rr28 | exact rr5) rfl Tryd.underlying4 rfl rfl rfl⟩
set_option maxRecDepth 100000 in
theorem instrumentClefs_lifted (os : Os) (started : os.Started) (H : Type) (enc : TypeId × Value → H) :
    ReturnsInHanded {} Tryd.checked os 7 .any (fun w args => (Rows.instrumentClefsSpec.pre enc Tryd.prog Tryd.f7 [] false w args ∧ laidMetH Tryd.prog laid_instrumentClefs w) ∧ sizedMet enc Tryd.prog Tryd.f7 (OpenSpec.ofChange Rows.instrumentClefsSpec) false w args)
      (Rows.instrumentClefsSpec.post enc Tryd.prog Tryd.f7 false true false false) := by
  refine returnsInHanded_of_change_and (C := Tryd.checked) (X := fun w _ => laidMetH Tryd.prog laid_instrumentClefs w) (fun _ _ _ hh h => h.of_heap hh) ownNone started (by kernel_rfl) Tryd.func7
    (ChangeSpec.witness_shaped (enc := enc) (C := Tryd.checked) (os := os) (X := fun w _ => laidMetH Tryd.prog laid_instrumentClefs w) false (World.doorLaid Tryd.prog 19 os) #[.slice none 0 0, .int .u8 0] 8 rfl (World.shaped_of_RefB (by kernel_rfl) (by kernel_rfl)) (by kernel_rfl) (by kernel_rfl) (by kernel_rfl) (instrumentClefs_met os _)) ?_
  intro W base args ds gs before hval hW _ _ hL _
  exact instrumentClefs_contract H enc W base args ds gs before hval hW hL
theorem instrumentClefs_holds : Rows.InstrumentClefsSaid :=
  OpenClaim.holds_of_wide 7 Tryd.f7 rfl rfl rfl rfl rfl rfl rfl ⟨rfl, rfl, rfl, rfl, rfl⟩ rfl rfl rfl rfl rfl (by kernel_rfl) Tryd.func7 (by kernel_rfl)
    (of_decide_eq_true (by kernel_rfl)) (by unfold Func.isWrapper; first | (rw [if_pos (by decide +kernel)]; kernel_rfl) | (rw [if_neg (by decide +kernel)]; exact ⟨rfl, rfl⟩))
    (fun os started H enc _ => instrumentClefs_lifted os started H enc)

set_option maxRecDepth 100000 in
theorem instrumentClefs_card : Rows.InstrumentClefsCardSaid :=
  Claim7.holds_tied_plain_at .later [] [.data] true (true, "19689292bf0540093b6932ef81374c213f8e5d873c309d71f8f410faed3d5643") false
    instrumentClefs_holds (fun _ h => by cases h) (by kernel_rfl) (fun _ h => by cases h) instrumentClefs_row_tie rfl ⟨rfl, rfl⟩ (by kernel_rfl) rfl
    (fun f fn hf hfn => by
      obtain rfl : f = 7 := Option.some.inj ((show Tryd.prog.funcNamed "partbook/partbooklaw13.InstrumentClefs" = some 7 by kernel_rfl).symm.trans hf) |>.symm
      obtain rfl : fn = Tryd.f7 := (Option.some.inj (Tryd.func7.symm.trans hfn)).symm
      exact ⟨by kernel_rfl, fun j t ht => by
        rw [Tryd.params7] at ht
        have hm : t ∈ [28, 5] := by simpa using Array.mem_of_getElem? ht
        have hall : ([28, 5].all fun u => !Tryd.prog.wantsStandIn u) = true := by kernel_rfl
        exact (show Tryd.prog.wantsStandIn t = false by simpa using List.all_eq_true.1 hall t hm)⟩)
    (by kernel_rfl)

end Go.Proofs.YtpbohhfpbjofaaaDoor
