/-
  KeyReads, for any key, pitches and number. The law answers true, and the arguments read as they did. The package's tables hold what the program's text lays in them (tied).
-/
import Derived.Test.YtpkbghnjfjnoiaaDoorK10
import Derived.Test.YtpkbghnjfjnoiaaDoorRows
import Derived.Test.YtpkbghnjfjnoiaaDoorSxArg
import Derived.ProofKit
import Derived.Test.YtpkbghnjfjnoiaaDoorSxLaid
import Derived.Test.YtpkbghnjfjnoiaaDoorTie
import Derived.Test.YtpkbghnjfjnoiaaDoorCards
import Derived.SevenTiedAt
import Derived.LaidMore
import Derived.Stop.Joined
set_option linter.unusedVariables false
namespace Go.Proofs.YtpkbghnjfjnoiaaDoor
open Go Go.SX Go.ChangeShapes Go.WideShapes Go.ChangeAt Go.RowKit Go.Deep

theorem ownNone : ownKnob Tryd.prog.godebug = none := by kernel_rfl
theorem laidOut : laidOutB Tryd.prog = true := by kernel_rfl
theorem rr3 : Tryd.prog.readableRec 3 = true ∧ 3 < Tryd.prog.types.size := ⟨by kernel_rfl, of_decide_eq_true (by kernel_rfl)⟩
theorem rr24 : Tryd.prog.readableRec 24 = true ∧ 24 < Tryd.prog.types.size := ⟨by kernel_rfl, of_decide_eq_true (by kernel_rfl)⟩
theorem rr43 : Tryd.prog.readableRec 43 = true ∧ 43 < Tryd.prog.types.size := ⟨by kernel_rfl, of_decide_eq_true (by kernel_rfl)⟩
theorem cov3 : Cov Tryd.prog 3 (Rp.int .i64) := Cov.int Tryd.underlying3 (by kernel_rfl)
theorem cov46 : Cov Tryd.prog 46 (Rp.pair (Rp.int .i64) (Rp.pair (Rp.int .i64) (Rp.int .i64))) := Cov.struct (fs := _) Tryd.underlying46 (by kernel_rfl) (CovF.cons rfl cov3 (CovF.cons rfl cov3 (CovF.one rfl cov3)))
theorem cov24 : Cov Tryd.prog 24 (Rp.slice (Rp.pair (Rp.int .i64) (Rp.pair (Rp.int .i64) (Rp.int .i64)))) := Cov.slice Tryd.underlying24 (by kernel_rfl) cov46 (by decide)
def laid_keyReads : List (String × DataW Unit) := [("partbook/key.sharps", Rows.laid_partbook_key_sharps)]
set_option maxRecDepth 100000 in
theorem keyReads_met (os : Os) (args : Array Value) : laidMetH Tryd.prog laid_keyReads ((World.doorLaid Tryd.prog 19 os).forCall (fun _ _ => 0) ⟨#[], args, []⟩).memory :=
  laidMetH_of_parts3 (fuel := 8) (laidMet_of_run' 8 (by kernel_rfl) (by kernel_rfl)) (by kernel_rfl) (by kernel_rfl)
set_option maxRecDepth 100000 in
theorem keyReads_facts {W : World} (hL : laidMetH Tryd.prog laid_keyReads W) : GS W := tab_at (tab_first (P := Tryd.prog) (name := "partbook/key.sharps") (k := .i64) (zs := sharps) (n := 7) (g := 0) (by kernel_rfl) (by kernel_rfl) Tryd.underlying70 Tryd.underlying3 (by kernel_rfl) (by kernel_rfl) rfl hL) (by kernel_rfl) (by decide)
theorem keyReads_contract (H : Type) (enc : TypeId × Value → H) (W : World) (base : Nat) (args : Array Value) (ds gs : List (DataW H)) (before : List MemPlace)
    (hval : ∀ (j : Nat) t v, Tryd.f6.params[j]? = some t → args[j]? = some v → Value.okWide Tryd.prog W .any base t v)
    (hW : DataW.Whole enc Tryd.prog Tryd.f6.params.toList Rows.keyReadsSpec.vars false W args.toList ds gs before) (hL : laidMetH Tryd.prog laid_keyReads W) :
    Calls Tryd.prog 6 args W fun e W' => ∃ v, e = .returned v ∧ Rows.keyReadsSpec.post enc Tryd.prog Tryd.f6 false true false false W args v W' := by
  have hW' := hW
  obtain ⟨p, q, hA0, hV, rfl, hfz, hnd⟩ := hW
  have hA : DataW.TrodAll enc Tryd.prog W 0 (fun _ => true) true Tryd.f6.params.toList args.toList ds p := hA0
  rw [Tryd.params6] at hA hval
  obtain ⟨v0, vs0, d0, ds0, p0, q0, hargs, rfl, rfl, h0, r0⟩ := trodAll_cons hA
  obtain ⟨v1, vs1, d1, ds1, p1, q1, rfl, rfl, rfl, h1, r1⟩ := trodAll_cons r0
  obtain ⟨v2, vs2, d2, ds2, p2, q2, rfl, rfl, rfl, h2, r2⟩ := trodAll_cons r1
  obtain ⟨rfl, rfl, rfl⟩ := trodAll_nil r2
  obtain rfl : args = #[v0, v1, v2] := by cases args; simp_all
  obtain ⟨rfl, rfl⟩ := trodVars_none hV
  obtain ⟨x0, rfl, rfl, rfl, hx0⟩ := open_int Tryd.underlying3 (hval 0 3 v0 rfl rfl) h0
  obtain ⟨x1, hx1⟩ := open_sl (A := (Rp.pair (Rp.int .i64) (Rp.pair (Rp.int .i64) (Rp.int .i64)))) Tryd.underlying24 cov24 (hval 1 24 v1 rfl rfl) h1
  obtain ⟨x2, rfl, rfl, rfl, hx2⟩ := open_int Tryd.underlying43 (hval 2 43 v2 rfl rfl) h2
  have hG := keyReads_facts hL
  refine Calls.mono (law4 hG x0 hx1 x2 (u16_range hx2)) fun e W' ⟨v, he, hb, hv⟩ => ?_
  subst he; subst hv
  exact ⟨_, rfl, law_post laidOut hW' hb rfl (by rw [Tryd.params6]; simp only [List.mem_cons, List.not_mem_nil, or_false]; rintro t (rfl | rfl | rfl) <;> first | exact rr3 | exact rr24 | exact rr43) rfl Tryd.underlying4 rfl rfl rfl⟩
set_option maxRecDepth 100000 in
theorem keyReads_lifted (os : Os) (started : os.Started) (H : Type) (enc : TypeId × Value → H) :
    ReturnsInHanded {} Tryd.checked os 6 .any (fun w args => (Rows.keyReadsSpec.pre enc Tryd.prog Tryd.f6 [] false w args ∧ laidMetH Tryd.prog laid_keyReads w) ∧ sizedMet enc Tryd.prog Tryd.f6 (OpenSpec.ofChange Rows.keyReadsSpec) false w args)
      (Rows.keyReadsSpec.post enc Tryd.prog Tryd.f6 false true false false) := by
  refine returnsInHanded_of_change_and (C := Tryd.checked) (X := fun w _ => laidMetH Tryd.prog laid_keyReads w) (fun _ _ _ hh h => h.of_heap hh) ownNone started (by kernel_rfl) Tryd.func6
    (ChangeSpec.witness_shaped (enc := enc) (C := Tryd.checked) (os := os) (X := fun w _ => laidMetH Tryd.prog laid_keyReads w) false (World.doorLaid Tryd.prog 19 os) #[.int .i64 0, .slice none 0 0, .int .u16 0] 8 rfl (World.shaped_of_RefB (by kernel_rfl) (by kernel_rfl)) (by kernel_rfl) (by kernel_rfl) (by kernel_rfl) (keyReads_met os _)) ?_
  intro W base args ds gs before hval hW _ _ hL _
  exact keyReads_contract H enc W base args ds gs before hval hW hL
theorem keyReads_holds : Rows.KeyReadsSaid :=
  OpenClaim.holds_of_wide 6 Tryd.f6 rfl rfl rfl rfl rfl rfl rfl ⟨rfl, rfl, rfl, rfl, rfl⟩ rfl rfl rfl rfl rfl (by kernel_rfl) Tryd.func6 (by kernel_rfl)
    (of_decide_eq_true (by kernel_rfl)) (by unfold Func.isWrapper; first | (rw [if_pos (by decide +kernel)]; kernel_rfl) | (rw [if_neg (by decide +kernel)]; exact ⟨rfl, rfl⟩))
    (fun os started H enc _ => keyReads_lifted os started H enc)

set_option maxRecDepth 100000 in
theorem keyReads_card : Rows.KeyReadsCardSaid :=
  Claim7.holds_tied_plain_at .later [] [.widerDeep] true (true, "a6eb40b6e3a5aabde20ae0844d87add579ea35fc0820b595d773fc7012380601") false
    keyReads_holds (fun _ h => by cases h) (by kernel_rfl) (fun _ h => by cases h) keyReads_row_tie rfl ⟨rfl, rfl⟩ (by kernel_rfl) rfl
    (fun f fn hf hfn => by
      obtain rfl : f = 6 := Option.some.inj ((show Tryd.prog.funcNamed "partbook/partbooklaw03.KeyReads" = some 6 by kernel_rfl).symm.trans hf) |>.symm
      obtain rfl : fn = Tryd.f6 := (Option.some.inj (Tryd.func6.symm.trans hfn)).symm
      exact ⟨by kernel_rfl, fun j t ht => by
        rw [Tryd.params6] at ht
        have hm : t ∈ [3, 24, 43] := by simpa using Array.mem_of_getElem? ht
        have hall : ([3, 24, 43].all fun u => !Tryd.prog.wantsStandIn u) = true := by kernel_rfl
        exact (show Tryd.prog.wantsStandIn t = false by simpa using List.all_eq_true.1 hall t hm)⟩)
    (by kernel_rfl)

end Go.Proofs.YtpkbghnjfjnoiaaDoor
