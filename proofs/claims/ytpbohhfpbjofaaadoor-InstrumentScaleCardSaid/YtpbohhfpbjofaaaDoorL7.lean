/-
  InstrumentScale, for any part, key, step and octave. The law answers true, and the arguments read as they did. The package's tables hold what the program's text lays in them (tied).
-/
import Derived.Test.YtpbohhfpbjofaaaDoorI6
import Derived.Test.YtpbohhfpbjofaaaDoorRows
import Derived.Test.YtpbohhfpbjofaaaDoorSxArg
import Derived.ProofKit
import Derived.Test.YtpbohhfpbjofaaaDoorSxLaid
import Derived.Test.YtpbohhfpbjofaaaDoorTie
import Derived.Test.YtpbohhfpbjofaaaDoorCards
import Derived.SevenTiedAt
import Derived.LaidMore
import Derived.Stop.Joined
set_option linter.unusedVariables false
namespace Go.Proofs.YtpbohhfpbjofaaaDoor
open Go Go.SX Go.ChangeShapes Go.WideShapes Go.ChangeAt Go.RowKit Go.Deep

theorem ownNone : ownKnob Tryd.prog.godebug = none := by kernel_rfl
theorem laidOut : laidOutB Tryd.prog = true := by kernel_rfl
theorem rr3 : Tryd.prog.readableRec 3 = true ∧ 3 < Tryd.prog.types.size := ⟨by kernel_rfl, of_decide_eq_true (by kernel_rfl)⟩
theorem rr5 : Tryd.prog.readableRec 5 = true ∧ 5 < Tryd.prog.types.size := ⟨by kernel_rfl, of_decide_eq_true (by kernel_rfl)⟩
theorem rr27 : Tryd.prog.readableRec 27 = true ∧ 27 < Tryd.prog.types.size := ⟨by kernel_rfl, of_decide_eq_true (by kernel_rfl)⟩
theorem cov3 : Cov Tryd.prog 3 (Rp.int .i64) := Cov.int Tryd.underlying3 (by kernel_rfl)
theorem cov23 : Cov Tryd.prog 23 (Rp.pair (Rp.int .i64) (Rp.int .i64)) := Cov.struct (fs := _) Tryd.underlying23 (by kernel_rfl) (CovF.cons rfl cov3 (CovF.one rfl cov3))
theorem cov25 : Cov Tryd.prog 25 (Rp.pair (Rp.int .i64) (Rp.pair (Rp.int .i64) (Rp.int .i64))) := Cov.struct (fs := _) Tryd.underlying25 (by kernel_rfl) (CovF.cons rfl cov3 (CovF.cons rfl cov3 (CovF.one rfl cov3)))
theorem cov27 : Cov Tryd.prog 27 (Rp.pair (Rp.int .i64) (Rp.pair (Rp.int .i64) (Rp.pair (Rp.int .i64) (Rp.pair (Rp.int .i64) (Rp.pair (Rp.int .i64) (Rp.pair (Rp.pair (Rp.int .i64) (Rp.int .i64)) (Rp.pair (Rp.pair (Rp.int .i64) (Rp.pair (Rp.int .i64) (Rp.int .i64))) (Rp.pair (Rp.int .i64) (Rp.pair (Rp.int .i64) (Rp.int .i64)))))))))) := Cov.struct (fs := _) Tryd.underlying27 (by kernel_rfl) (CovF.cons rfl cov3 (CovF.cons rfl cov3 (CovF.cons rfl cov3 (CovF.cons rfl cov3 (CovF.cons rfl cov3 (CovF.cons rfl cov23 (CovF.cons rfl cov25 (CovF.one rfl cov25))))))))
def laid_instrumentScale : List (String × DataW Unit) := [("partbook/pitch.naturals", Rows.laid_partbook_pitch_naturals), ("partbook/key.sharps", Rows.laid_partbook_key_sharps)]
set_option maxRecDepth 100000 in
theorem instrumentScale_met (os : Os) (args : Array Value) : laidMetH Tryd.prog laid_instrumentScale ((World.doorLaid Tryd.prog 19 os).forCall (fun _ _ => 0) ⟨#[], args, []⟩).memory :=
  laidMetH_of_parts3 (fuel := 8) (laidMet_of_run' 8 (by kernel_rfl) (by kernel_rfl)) (by kernel_rfl) (by kernel_rfl)
set_option maxRecDepth 100000 in
theorem instrumentScale_facts {W : World} (hL : laidMetH Tryd.prog laid_instrumentScale W) : GN W ∧ GS W := ⟨tab_at (tab_first (P := Tryd.prog) (name := "partbook/pitch.naturals") (k := .i64) (zs := naturals) (n := 7) (g := 0) (by kernel_rfl) (by kernel_rfl) Tryd.underlying82 Tryd.underlying3 (by kernel_rfl) (by kernel_rfl) rfl hL) (by kernel_rfl) (by decide),
  tab_at (tab_second (P := Tryd.prog) (name := "partbook/key.sharps") (k := .i64) (zs := sharps) (n := 7) (g := 1) (by kernel_rfl) (by kernel_rfl) Tryd.underlying82 Tryd.underlying3 (by kernel_rfl) (by kernel_rfl) rfl hL) (by kernel_rfl) (by decide)⟩
theorem instrumentScale_contract (H : Type) (enc : TypeId × Value → H) (W : World) (base : Nat) (args : Array Value) (ds gs : List (DataW H)) (before : List MemPlace)
    (hval : ∀ (j : Nat) t v, Tryd.f9.params[j]? = some t → args[j]? = some v → Value.okWide Tryd.prog W .any base t v)
    (hW : DataW.Whole enc Tryd.prog Tryd.f9.params.toList Rows.instrumentScaleSpec.vars false W args.toList ds gs before) (hL : laidMetH Tryd.prog laid_instrumentScale W) :
    Calls Tryd.prog 9 args W fun e W' => ∃ v, e = .returned v ∧ Rows.instrumentScaleSpec.post enc Tryd.prog Tryd.f9 false true false false W args v W' := by
  have hW' := hW
  obtain ⟨p, q, hA0, hV, rfl, hfz, hnd⟩ := hW
  have hA : DataW.TrodAll enc Tryd.prog W 0 (fun _ => true) true Tryd.f9.params.toList args.toList ds p := hA0
  rw [Tryd.params9] at hA hval
  obtain ⟨v0, vs0, d0, ds0, p0, q0, hargs, rfl, rfl, h0, r0⟩ := trodAll_cons hA
  obtain ⟨v1, vs1, d1, ds1, p1, q1, rfl, rfl, rfl, h1, r1⟩ := trodAll_cons r0
  obtain ⟨v2, vs2, d2, ds2, p2, q2, rfl, rfl, rfl, h2, r2⟩ := trodAll_cons r1
  obtain ⟨v3, vs3, d3, ds3, p3, q3, rfl, rfl, rfl, h3, r3⟩ := trodAll_cons r2
  obtain ⟨rfl, rfl, rfl⟩ := trodAll_nil r3
  obtain rfl : args = #[v0, v1, v2, v3] := by cases args; simp_all
  obtain ⟨rfl, rfl⟩ := trodVars_none hV
  obtain ⟨c0, x0, rfl, hx0⟩ := open_agg Tryd.underlying27 cov27 (hval 0 27 v0 rfl rfl) h0
  obtain ⟨x1, rfl, rfl, rfl, hx1⟩ := open_int Tryd.underlying3 (hval 1 3 v1 rfl rfl) h1
  obtain ⟨x2, rfl, rfl, rfl, hx2⟩ := open_int Tryd.underlying5 (hval 2 5 v2 rfl rfl) h2
  obtain ⟨x3, rfl, rfl, rfl, hx3⟩ := open_int Tryd.underlying5 (hval 3 5 v3 rfl rfl) h3
  obtain ⟨hN, hG⟩ := instrumentScale_facts hL
  obtain rfl := part_openA hx0
  refine Calls.mono (law7 hN hG (qOf x0) x0.2.2.2.2.2.1.1 x0.2.2.2.2.2.1.2 x0.2.2.2.2.2.2.1 x0.2.2.2.2.2.2.2 x1 x2 x3 (u8_range hx2) (u8_range hx3)) fun e W' ⟨v, he, hb, hv⟩ => ?_
  subst he; subst hv
  exact ⟨_, rfl, law_post laidOut hW' hb rfl (by rw [Tryd.params9]; simp only [List.mem_cons, List.not_mem_nil, or_false]; rintro t (rfl | rfl | rfl | rfl) <;> first | exact rr27 | exact rr3 | exact rr5) rfl Tryd.underlying4 rfl rfl rfl⟩
set_option maxRecDepth 100000 in
theorem instrumentScale_lifted (os : Os) (started : os.Started) (H : Type) (enc : TypeId × Value → H) :
    ReturnsInHanded {} Tryd.checked os 9 .any (fun w args => (Rows.instrumentScaleSpec.pre enc Tryd.prog Tryd.f9 [] false w args ∧ laidMetH Tryd.prog laid_instrumentScale w) ∧ sizedMet enc Tryd.prog Tryd.f9 (OpenSpec.ofChange Rows.instrumentScaleSpec) false w args)
      (Rows.instrumentScaleSpec.post enc Tryd.prog Tryd.f9 false true false false) := by
  refine returnsInHanded_of_change_and (C := Tryd.checked) (X := fun w _ => laidMetH Tryd.prog laid_instrumentScale w) (fun _ _ _ hh h => h.of_heap hh) ownNone started (by kernel_rfl) Tryd.func9
    (ChangeSpec.witness_shaped (enc := enc) (C := Tryd.checked) (os := os) (X := fun w _ => laidMetH Tryd.prog laid_instrumentScale w) false (World.doorLaid Tryd.prog 19 os) #[.agg #[.int .i64 0, .int .i64 0, .int .i64 0, .int .i64 0, .int .i64 0, .int .i64 0, .int .i64 0, .int .i64 0, .int .i64 0, .int .i64 0, .int .i64 0, .int .i64 0, .int .i64 0], .int .i64 0, .int .u8 0, .int .u8 0] 8 rfl (World.shaped_of_RefB (by kernel_rfl) (by kernel_rfl)) (by kernel_rfl) (by kernel_rfl) (by kernel_rfl) (instrumentScale_met os _)) ?_
  intro W base args ds gs before hval hW _ _ hL _
  exact instrumentScale_contract H enc W base args ds gs before hval hW hL
theorem instrumentScale_holds : Rows.InstrumentScaleSaid :=
  OpenClaim.holds_of_wide 9 Tryd.f9 rfl rfl rfl rfl rfl rfl rfl ⟨rfl, rfl, rfl, rfl, rfl⟩ rfl rfl rfl rfl rfl (by kernel_rfl) Tryd.func9 (by kernel_rfl)
    (of_decide_eq_true (by kernel_rfl)) (by unfold Func.isWrapper; first | (rw [if_pos (by decide +kernel)]; kernel_rfl) | (rw [if_neg (by decide +kernel)]; exact ⟨rfl, rfl⟩))
    (fun os started H enc _ => instrumentScale_lifted os started H enc)

set_option maxRecDepth 100000 in
theorem instrumentScale_card : Rows.InstrumentScaleCardSaid :=
  Claim7.holds_tied_plain_at .later [] [.data, .widerDeep] true (true, "19689292bf0540093b6932ef81374c213f8e5d873c309d71f8f410faed3d5643") false
    instrumentScale_holds (fun _ h => by cases h) (by kernel_rfl) (fun _ h => by cases h) instrumentScale_row_tie rfl ⟨rfl, rfl⟩ (by kernel_rfl) rfl
    (fun f fn hf hfn => by
      obtain rfl : f = 9 := Option.some.inj ((show Tryd.prog.funcNamed "partbook/partbooklaw13.InstrumentScale" = some 9 by kernel_rfl).symm.trans hf) |>.symm
      obtain rfl : fn = Tryd.f9 := (Option.some.inj (Tryd.func9.symm.trans hfn)).symm
      exact ⟨by kernel_rfl, fun j t ht => by
        rw [Tryd.params9] at ht
        have hm : t ∈ [27, 3, 5, 5] := by simpa using Array.mem_of_getElem? ht
        have hall : ([27, 3, 5, 5].all fun u => !Tryd.prog.wantsStandIn u) = true := by kernel_rfl
        exact (show Tryd.prog.wantsStandIn t = false by simpa using List.all_eq_true.1 hall t hm)⟩)
    (by kernel_rfl)

end Go.Proofs.YtpbohhfpbjofaaaDoor
