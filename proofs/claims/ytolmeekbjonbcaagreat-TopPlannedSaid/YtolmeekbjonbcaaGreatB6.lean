/-
  TopPlanned, for any demands, copies, halls and further copy. The law answers true, and the arguments read as they did. No condition.
-/
import Derived.Test.YtolmeekbjonbcaaGreatB5
import Derived.ProofKit
import Derived.Deep.Slices
import Derived.Deep.Fields
import Derived.OpenShut
import Derived.Test.YtolmeekbjonbcaaGreatRows
import Derived.SizedLaws
import Derived.ChangeArms
set_option linter.unusedVariables false
set_option linter.unusedSimpArgs false
set_option maxHeartbeats 4000000
namespace Go.Proofs.YtolmeekbjonbcaaGreat
open Int renaming reduceEq → q1, reduceLT → q2, reduceBEq → q3, reduceBNe → q4
open Nat renaming reduceAdd → q5, reduceSub → q6, reduceMul → q7, reduceLT → q8, reduceLeDiff → q9, reduceEqDiff → qa
open List renaming reduceReplicate → qb
open Go Go.SX Go.RowKit
/-- function 4 -/
theorem planned_yes {S S2 S3 : Nat → Prop} {w : World} {v u : Value} {ces : Array Value} {ds : List Dem} {cs : List Cop} {fu : Cop} (hl : rDems.rd S w [v] ds) (hl2 : rCops.rd S2 w [u] cs) (hall which : Int) (hfu : rCop.rd S3 w ces.toList fu) (hrc : cs.length * 32 ≤ 140737488351232) (hh : 0 ≤ hall ∧ hall ≤ 255) (hw9 : 0 ≤ which ∧ which ≤ 255) (hm : MeetL ds cs) : Gives Tryz.prog 4 #[v, u, .int .u8 hall, .agg ces, .int .u8 which] w fun r _ => r = .bool true := by
  obtain ⟨xs, hxm, hxr, hxe⟩ := open_des hl
  obtain ⟨p, c, rfl, hc1, hc2⟩ := Rp.slice_val hl
  obtain ⟨p2, c2, rfl, hc3, hc4⟩ := Rp.slice_val hl2
  have hl : (Rp.slice rDem).rd (fun _ => True) w _ ds := Rp.any hl
  have hl2 : (Rp.slice rCop).rd (fun _ => True) w _ cs := Rp.any hl2
  have hxr : (Rp.slice rDE).rd (fun _ => True) w _ xs := Rp.any hxr
  obtain rfl : ces = #[.int .i64 fu.1, .int .i64 fu.2.1, .int .i64 fu.2.2.1, .int .i64 fu.2.2.2] := Array.toList_inj.1 (rCop_open hfu)
  have hxl : xs.length = ds.length := by rw [← hxm]; simp
  have hhr := hall_rng hh
  obtain ⟨h, hhe⟩ : ∃ h, (IntKind.i64.wrap hall).tmod 100 = h := ⟨_, rfl⟩
  rw [hhe] at hhr
  have e0 : ∀ n : Nat, ((n : Int) == 0) = decide (n = 0) := fun n => by by_cases h : n = 0 <;> simp [h]
  obtain ⟨_, _, hcap9, hcp1, hcp2⟩ := Rp.slice_val hl2
  obtain ⟨rfl, _, rfl⟩ := (Value.slice.injEq _ _ _ _ _ _).mp hcap9
  refine gives_of [.val (.slice p ds.length c), .val (.slice p2 cs.length c2), .val (.int .u8 hall), .val (.agg #[.int .i64 fu.1, .int .i64 fu.2.1, .int .i64 fu.2.2.1, .int .i64 fu.2.2.2]), .val (.int .u8 which)] 251 [.tmp 10] Tryz.func4 rfl rfl rfl (by simp) rfl rfl ?_
  refine W.pure (ds := []) rfl fun K1 hK1 => ?_
  simp only [sx, ty, q1, q2, q5, q6, q7, q8, q9, qa, qb, reduceIte, sy, q3, q4]; with_reducible refine hK1 _ ?_; clear hK1
  refine W.seqK fun K2 hK2 => W.region ?_
  refine WO.call (.bool true) (ds := []) rfl rfl rfl rfl co5 (fun ρ w1 hb => planned_spec w1) ?_
  refine WO.go 1 (ds := []) rfl ?_
  simp only [sx, ty, q1, q2, q5, q6, q7, q8, q9, qa, qb, reduceIte, sy, q3, q4]
  with_reducible refine WO.nil ?_
  refine hK2 _ ?_; clear hK2
  refine W.pinA (by simp [smallO]) fun β => ?_
  obtain ⟨b0, hb0⟩ : ∃ b0, β 0 = b0 := ⟨_, rfl⟩
  simp only [pinEn, pinOw, den, denL, Nat.zero_add, Nat.reduceAdd, hb0]
  refine W.seqFreeze 12 [(0, .val (.slice p ds.length c)), (1, .val (.slice p2 cs.length c2)), (2, .val (.int .u8 hall)), (4, .val (.int .u8 which)), (11, .val (.bool true))] [((fun _ => True), w)] (fun S s v => ∃ q c, v = .slice q (cs.length + 1) c ∧ rCops.rd S s [v] (cs ++ [fu])) ?_ ?_
  · by_cases hc0 : cs.length = 0
    · obtain rfl : cs = [] := List.length_eq_zero_iff.1 hc0
      simp only [List.length_nil]
      refine W.regionV [1, 3] 5 ([boxO 45 b0 [.int .i64 fu.1, .int .i64 fu.2.1, .int .i64 fu.2.2.1, .int .i64 fu.2.2.2]]) mixed (by kernel_rfl) rfl (by simp [keptL, boxO]) rfl (fun _ _ h => h) ?_
      simp only [sx, ty, q1, q2, q5, q6, q7, q8, q9, qa, qb, reduceIte, sxt, List.toList_toArray, RunP, sy, q3, q4]
      refine WF.go rfl rfl rfl ?_
      simp only [sx, ty, q1, q2, q5, q6, q7, q8, q9, qa, qb, reduceIte, sxt, List.toList_toArray, RunP, sy, q3, q4]
      refine WF.q rfl rfl (QR.load [.int .i64 fu.1, .int .i64 fu.2.1, .int .i64 fu.2.2.1, .int .i64 fu.2.2.2] true rfl rfl agg45 sz45 (.inl rfl) (fun ρ w1 hb => box_at (k := 0) hb rfl)) ?_
      simp only [List.drop_succ_cons, List.drop_zero, List.take_succ_cons, List.take_zero, ofCells, Bool.false_eq_true, if_false, List.headD_cons, if_true, List.toList_toArray]
      simp only [sx, ty, q1, q2, q5, q6, q7, q8, q9, qa, qb, reduceIte, sxt, List.toList_toArray, RunP, sy, q3, q4]
      refine WF.nil ?_
      simp only [sx, ty, q1, q2, q5, q6, q7, q8, q9, qa, qb, reduceIte, sxt, List.toList_toArray, sy, q3, q4]
      refine WV.two 0 4 (by kernel_rfl) rfl rfl ?_ ?_
      · skip
        simp only [List.getElem_toArray, List.getElem_cons_succ, List.getElem_cons_zero]
        refine WO.go 1 (ds := []) rfl ?_
        simp only [sx, ty, q1, q2, q5, q6, q7, q8, q9, qa, qb, reduceIte, List.append_assoc, List.cons_append, List.nil_append, sy, q3, q4]
        with_reducible refine WV.next (by simp [keptL, boxO]) (by simp) ?_
        refine WV.two 2 4 (by kernel_rfl) rfl rfl ?_ ?_
        · skip
          simp only [List.getElem_toArray, List.getElem_cons_succ, List.getElem_cons_zero]
          refine WO.q (ds := []) rfl rfl rfl (QR.appendZ rfl rfl (fun ρ w1 hb => ⟨_, _, _, rfl, Nat.le_refl _⟩) (fun ρ ρ' h => den_agree h _ rfl) rfl ek23) ?_
          simp only [sx, ty, q1, q2, q5, q6, q7, q8, q9, qa, qb, reduceIte, List.append_assoc, List.cons_append, List.nil_append, sy, q3, q4]
          with_reducible refine WV.next (by simp [keptL, boxO]) (by simp) ?_
          refine WV.one 4 (by kernel_rfl) rfl ?_
          simp only [List.getElem_toArray, List.getElem_cons_succ, List.getElem_cons_zero]
          refine WO.go 1 (ds := []) rfl ?_
          simp only [sx, ty, q1, q2, q5, q6, q7, q8, q9, qa, qb, reduceIte, List.append_assoc, List.cons_append, List.nil_append, sy, q3, q4]
          with_reducible refine WV.next (by simp [keptL, boxO]) (by simp) ?_
          refine WV.one 5 (by kernel_rfl) rfl ?_
          simp only [List.getElem_toArray, List.getElem_cons_succ, List.getElem_cons_zero]
          first
          | refine WO.appendFull (n := 0) (m := 1) [] (coV fu) (ds := []) rfl rfl rfl rfl ⟨_, rfl, fun ρ w1 hb => ⟨_, rfl, fun j v h => by simp at h⟩⟩ rfl ek23 (by simp) (by omega) (news_own (k2 := 2) rfl fun _ => rfl) rfl (by rw [maxLen_eq]; omega) (by omega) fun p7 c7 => ?_
          | refine WO.appendFull (n := 0) (m := 1) [] (coV fu) (ds := []) rfl rfl rfl rfl ⟨_, rfl, fun ρ w1 hb => ⟨_, rfl, fun j v h => by simp at h⟩⟩ rfl ek23 (by simp) (by omega) (news_own (k2 := 1) rfl fun _ => rfl) rfl (by rw [maxLen_eq]; omega) (by omega) fun p7 c7 => ?_
          simp only [sx, ty, q1, q2, q5, q6, q7, q8, q9, qa, qb, reduceIte, List.append_assoc, List.cons_append, List.nil_append, sy, q3, q4]
          with_reducible refine WV.next (by simp [keptL, boxO]) (by simp) ?_
          refine WV.one 6 (by kernel_rfl) rfl ?_
          simp only [List.getElem_toArray, List.getElem_cons_succ, List.getElem_cons_zero]
          refine WO.go 1 (ds := []) rfl ?_
          simp only [sx, ty, q1, q2, q5, q6, q7, q8, q9, qa, qb, reduceIte, List.append_assoc, List.cons_append, List.nil_append, sy, q3, q4]
          with_reducible refine WV.next (by simp [keptL, boxO]) (by simp) ?_
          refine WV.nil (by kernel_rfl) ?_
          refine ⟨rfl, by simp [getE, bnd], by simp, _, rfl, fun ρ w1 hb => ⟨fun _ => True, _, _, rfl, ?_⟩⟩
          first
          | exact own_slice (A := rCop) (S := fun _ => True) (k := 3) (xs := ([] ++ coV fu)) hb rfl (by simp) (fun _ _ => trivial) (cos_read1 [] fu)
        · skip
          simp only [List.getElem_toArray, List.getElem_cons_succ, List.getElem_cons_zero]
          refine WO.go 1 (ds := []) rfl ?_
          simp only [sx, ty, q1, q2, q5, q6, q7, q8, q9, qa, qb, reduceIte, List.append_assoc, List.cons_append, List.nil_append, sy, q3, q4]
          with_reducible refine WV.next (by simp [keptL, boxO]) (by simp) ?_
          refine WV.one 2 (by kernel_rfl) rfl ?_
          simp only [List.getElem_toArray, List.getElem_cons_succ, List.getElem_cons_zero]
          refine WO.q (ds := []) rfl rfl rfl (QR.appendZ rfl rfl (fun ρ w1 hb => ⟨_, _, _, rfl, Nat.le_refl _⟩) (fun ρ ρ' h => den_agree h _ rfl) rfl ek23) ?_
          simp only [sx, ty, q1, q2, q5, q6, q7, q8, q9, qa, qb, reduceIte, List.append_assoc, List.cons_append, List.nil_append, sy, q3, q4]
          with_reducible refine WV.next (by simp [keptL, boxO]) (by simp) ?_
          refine WV.one 5 (by kernel_rfl) rfl ?_
          simp only [List.getElem_toArray, List.getElem_cons_succ, List.getElem_cons_zero]
          first
          | refine WO.appendFull (n := 0) (m := 1) [] (coV fu) (ds := []) rfl rfl rfl rfl ⟨_, rfl, fun ρ w1 hb => ⟨_, rfl, fun j v h => by simp at h⟩⟩ rfl ek23 (by simp) (by omega) (news_own (k2 := 2) rfl fun _ => rfl) rfl (by rw [maxLen_eq]; omega) (by omega) fun p7 c7 => ?_
          | refine WO.appendFull (n := 0) (m := 1) [] (coV fu) (ds := []) rfl rfl rfl rfl ⟨_, rfl, fun ρ w1 hb => ⟨_, rfl, fun j v h => by simp at h⟩⟩ rfl ek23 (by simp) (by omega) (news_own (k2 := 1) rfl fun _ => rfl) rfl (by rw [maxLen_eq]; omega) (by omega) fun p7 c7 => ?_
          simp only [sx, ty, q1, q2, q5, q6, q7, q8, q9, qa, qb, reduceIte, List.append_assoc, List.cons_append, List.nil_append, sy, q3, q4]
          with_reducible refine WV.next (by simp [keptL, boxO]) (by simp) ?_
          refine WV.one 6 (by kernel_rfl) rfl ?_
          simp only [List.getElem_toArray, List.getElem_cons_succ, List.getElem_cons_zero]
          refine WO.go 1 (ds := []) rfl ?_
          simp only [sx, ty, q1, q2, q5, q6, q7, q8, q9, qa, qb, reduceIte, List.append_assoc, List.cons_append, List.nil_append, sy, q3, q4]
          with_reducible refine WV.next (by simp [keptL, boxO]) (by simp) ?_
          refine WV.nil (by kernel_rfl) ?_
          refine ⟨rfl, by simp [getE, bnd], by simp, _, rfl, fun ρ w1 hb => ⟨fun _ => True, _, _, rfl, ?_⟩⟩
          first
          | exact own_slice (A := rCop) (S := fun _ => True) (k := 3) (xs := ([] ++ coV fu)) hb rfl (by simp) (fun _ _ => trivial) (cos_read1 [] fu)
      · skip
        simp only [List.getElem_toArray, List.getElem_cons_succ, List.getElem_cons_zero]
        refine WO.go 1 (ds := []) rfl ?_
        simp only [sx, ty, q1, q2, q5, q6, q7, q8, q9, qa, qb, reduceIte, List.append_assoc, List.cons_append, List.nil_append, sy, q3, q4]
        with_reducible refine WV.next (by simp [keptL, boxO]) (by simp) ?_
        refine WV.one 0 (by kernel_rfl) rfl ?_
        simp only [List.getElem_toArray, List.getElem_cons_succ, List.getElem_cons_zero]
        refine WO.go 1 (ds := []) rfl ?_
        simp only [sx, ty, q1, q2, q5, q6, q7, q8, q9, qa, qb, reduceIte, List.append_assoc, List.cons_append, List.nil_append, sy, q3, q4]
        with_reducible refine WV.next (by simp [keptL, boxO]) (by simp) ?_
        refine WV.one 2 (by kernel_rfl) rfl ?_
        simp only [List.getElem_toArray, List.getElem_cons_succ, List.getElem_cons_zero]
        refine WO.q (ds := []) rfl rfl rfl (QR.appendZ rfl rfl (fun ρ w1 hb => ⟨_, _, _, rfl, Nat.le_refl _⟩) (fun ρ ρ' h => den_agree h _ rfl) rfl ek23) ?_
        simp only [sx, ty, q1, q2, q5, q6, q7, q8, q9, qa, qb, reduceIte, List.append_assoc, List.cons_append, List.nil_append, sy, q3, q4]
        with_reducible refine WV.next (by simp [keptL, boxO]) (by simp) ?_
        refine WV.one 5 (by kernel_rfl) rfl ?_
        simp only [List.getElem_toArray, List.getElem_cons_succ, List.getElem_cons_zero]
        first
        | refine WO.appendFull (n := 0) (m := 1) [] (coV fu) (ds := []) rfl rfl rfl rfl ⟨_, rfl, fun ρ w1 hb => ⟨_, rfl, fun j v h => by simp at h⟩⟩ rfl ek23 (by simp) (by omega) (news_own (k2 := 2) rfl fun _ => rfl) rfl (by rw [maxLen_eq]; omega) (by omega) fun p7 c7 => ?_
        | refine WO.appendFull (n := 0) (m := 1) [] (coV fu) (ds := []) rfl rfl rfl rfl ⟨_, rfl, fun ρ w1 hb => ⟨_, rfl, fun j v h => by simp at h⟩⟩ rfl ek23 (by simp) (by omega) (news_own (k2 := 1) rfl fun _ => rfl) rfl (by rw [maxLen_eq]; omega) (by omega) fun p7 c7 => ?_
        simp only [sx, ty, q1, q2, q5, q6, q7, q8, q9, qa, qb, reduceIte, List.append_assoc, List.cons_append, List.nil_append, sy, q3, q4]
        with_reducible refine WV.next (by simp [keptL, boxO]) (by simp) ?_
        refine WV.one 6 (by kernel_rfl) rfl ?_
        simp only [List.getElem_toArray, List.getElem_cons_succ, List.getElem_cons_zero]
        refine WO.go 1 (ds := []) rfl ?_
        simp only [sx, ty, q1, q2, q5, q6, q7, q8, q9, qa, qb, reduceIte, List.append_assoc, List.cons_append, List.nil_append, sy, q3, q4]
        with_reducible refine WV.next (by simp [keptL, boxO]) (by simp) ?_
        refine WV.nil (by kernel_rfl) ?_
        refine ⟨rfl, by simp [getE, bnd], by simp, _, rfl, fun ρ w1 hb => ⟨fun _ => True, _, _, rfl, ?_⟩⟩
        first
        | exact own_slice (A := rCop) (S := fun _ => True) (k := 3) (xs := ([] ++ coV fu)) hb rfl (by simp) (fun _ _ => trivial) (cos_read1 [] fu)
    · skip
      refine W.regionV [1, 3] 5 ([boxO 45 b0 [.int .i64 fu.1, .int .i64 fu.2.1, .int .i64 fu.2.2.1, .int .i64 fu.2.2.2]]) mixed (by kernel_rfl) rfl (by simp [keptL, boxO]) rfl (fun _ _ h => h) ?_
      simp only [sx, ty, q1, q2, q5, q6, q7, q8, q9, qa, qb, reduceIte, sxt, List.toList_toArray, RunP, sy, q3, q4]
      refine WF.go rfl rfl rfl ?_
      simp only [sx, ty, q1, q2, q5, q6, q7, q8, q9, qa, qb, reduceIte, sxt, List.toList_toArray, RunP, sy, q3, q4]
      refine WF.q rfl rfl (QR.load [.int .i64 fu.1, .int .i64 fu.2.1, .int .i64 fu.2.2.1, .int .i64 fu.2.2.2] true rfl rfl agg45 sz45 (.inl rfl) (fun ρ w1 hb => box_at (k := 0) hb rfl)) ?_
      simp only [List.drop_succ_cons, List.drop_zero, List.take_succ_cons, List.take_zero, ofCells, Bool.false_eq_true, if_false, List.headD_cons, if_true, List.toList_toArray]
      simp only [sx, ty, q1, q2, q5, q6, q7, q8, q9, qa, qb, reduceIte, sxt, List.toList_toArray, RunP, sy, q3, q4]
      refine WF.nil ?_
      simp only [sx, ty, q1, q2, q5, q6, q7, q8, q9, qa, qb, reduceIte, sxt, List.toList_toArray, sy, q3, q4]
      refine WV.two 0 4 (by kernel_rfl) rfl rfl ?_ ?_
      · skip
        simp only [List.getElem_toArray, List.getElem_cons_succ, List.getElem_cons_zero]
        refine WO.go 1 (ds := []) rfl ?_
        simp only [sx, ty, q1, q2, q5, q6, q7, q8, q9, qa, qb, reduceIte, List.append_assoc, List.cons_append, List.nil_append, sy, q3, q4]
        with_reducible refine WV.next (by simp [keptL, boxO]) (by simp) ?_
        refine WV.two 2 4 (by kernel_rfl) rfl rfl ?_ ?_
        · skip
          simp only [List.getElem_toArray, List.getElem_cons_succ, List.getElem_cons_zero]
          refine WO.appendFull (n := 0) (m := cs.length) [] (cosV cs) (ds := []) rfl rfl rfl rfl ⟨_, rfl, fun ρ w1 hb => ⟨_, rfl, fun j v h => by simp at h⟩⟩ rfl ek23 (by simp) (by omega) (fun ρ w1 hb => by
              obtain ⟨a9, g1, _, g2⟩ := cos_cells (Rp.now hl2 (hb.first (by simp [St.put]))) (by omega)
              exact ⟨a9, c2, by simp only [den, g1], g2⟩) (by rw [cosV_len]) (by rw [maxLen_eq]; omega) (by omega) fun p6 c6 => ?_
          rw [Nat.zero_add, List.nil_append]
          simp only [sx, ty, q1, q2, q5, q6, q7, q8, q9, qa, qb, reduceIte, List.append_assoc, List.cons_append, List.nil_append, sy, q3, q4]
          with_reducible refine WV.next (by simp [keptL, boxO]) (by simp) ?_
          refine WV.one 4 (by kernel_rfl) rfl ?_
          simp only [List.getElem_toArray, List.getElem_cons_succ, List.getElem_cons_zero]
          refine WO.go 1 (ds := []) rfl ?_
          simp only [sx, ty, q1, q2, q5, q6, q7, q8, q9, qa, qb, reduceIte, List.append_assoc, List.cons_append, List.nil_append, sy, q3, q4]
          with_reducible refine WV.next (by simp [keptL, boxO]) (by simp) ?_
          refine WV.one 5 (by kernel_rfl) rfl ?_
          simp only [List.getElem_toArray, List.getElem_cons_succ, List.getElem_cons_zero]
          first
          | refine WO.append (k := 2) (m := 1) (coV fu) (ds := []) rfl rfl rfl rfl rfl rfl rfl ek23 (news_own (k2 := 3) rfl fun _ => rfl) rfl (by simp [coV, Value.oneCell']) (by rw [maxLen_eq]; omega) (by omega) fun p7 c7 => ?_
          | refine WO.append (k := 3) (m := 1) (coV fu) (ds := []) rfl rfl rfl rfl rfl rfl rfl ek23 (news_own (k2 := 2) rfl fun _ => rfl) rfl (by simp [coV, Value.oneCell']) (by rw [maxLen_eq]; omega) (by omega) fun p7 c7 => ?_
          | refine WO.append (k := 3) (m := 1) (coV fu) (ds := []) rfl rfl rfl rfl rfl rfl rfl ek23 (news_own (k2 := 1) rfl fun _ => rfl) rfl (by simp [coV, Value.oneCell']) (by rw [maxLen_eq]; omega) (by omega) fun p7 c7 => ?_
          simp only [sx, ty, q1, q2, q5, q6, q7, q8, q9, qa, qb, reduceIte, List.append_assoc, List.cons_append, List.nil_append, sy, q3, q4]
          with_reducible refine WV.next (by simp [keptL, boxO]) (by simp) ?_
          refine WV.one 6 (by kernel_rfl) rfl ?_
          simp only [List.getElem_toArray, List.getElem_cons_succ, List.getElem_cons_zero]
          refine WO.go 1 (ds := []) rfl ?_
          simp only [sx, ty, q1, q2, q5, q6, q7, q8, q9, qa, qb, reduceIte, List.append_assoc, List.cons_append, List.nil_append, sy, q3, q4]
          with_reducible refine WV.next (by simp [keptL, boxO]) (by simp) ?_
          refine WV.nil (by kernel_rfl) ?_
          refine ⟨rfl, by simp [getE, bnd], by simp, _, rfl, fun ρ w1 hb => ⟨fun _ => True, _, _, rfl, ?_⟩⟩
          first
          | exact own_slice (A := rCop) (S := fun _ => True) (k := 2) (xs := (cosV cs ++ coV fu)) hb rfl (by simp) (fun _ _ => trivial) (cos_read1 cs fu)
          | exact own_slice (A := rCop) (S := fun _ => True) (k := 3) (xs := (cosV cs ++ coV fu)) hb rfl (by simp) (fun _ _ => trivial) (cos_read1 cs fu)
        · skip
          simp only [List.getElem_toArray, List.getElem_cons_succ, List.getElem_cons_zero]
          refine WO.go 1 (ds := []) rfl ?_
          simp only [sx, ty, q1, q2, q5, q6, q7, q8, q9, qa, qb, reduceIte, List.append_assoc, List.cons_append, List.nil_append, sy, q3, q4]
          with_reducible refine WV.next (by simp [keptL, boxO]) (by simp) ?_
          refine WV.one 2 (by kernel_rfl) rfl ?_
          simp only [List.getElem_toArray, List.getElem_cons_succ, List.getElem_cons_zero]
          refine WO.appendFull (n := 0) (m := cs.length) [] (cosV cs) (ds := []) rfl rfl rfl rfl ⟨_, rfl, fun ρ w1 hb => ⟨_, rfl, fun j v h => by simp at h⟩⟩ rfl ek23 (by simp) (by omega) (fun ρ w1 hb => by
              obtain ⟨a9, g1, _, g2⟩ := cos_cells (Rp.now hl2 (hb.first (by simp [St.put]))) (by omega)
              exact ⟨a9, c2, by simp only [den, g1], g2⟩) (by rw [cosV_len]) (by rw [maxLen_eq]; omega) (by omega) fun p6 c6 => ?_
          rw [Nat.zero_add, List.nil_append]
          simp only [sx, ty, q1, q2, q5, q6, q7, q8, q9, qa, qb, reduceIte, List.append_assoc, List.cons_append, List.nil_append, sy, q3, q4]
          with_reducible refine WV.next (by simp [keptL, boxO]) (by simp) ?_
          refine WV.one 5 (by kernel_rfl) rfl ?_
          simp only [List.getElem_toArray, List.getElem_cons_succ, List.getElem_cons_zero]
          first
          | refine WO.append (k := 2) (m := 1) (coV fu) (ds := []) rfl rfl rfl rfl rfl rfl rfl ek23 (news_own (k2 := 3) rfl fun _ => rfl) rfl (by simp [coV, Value.oneCell']) (by rw [maxLen_eq]; omega) (by omega) fun p7 c7 => ?_
          | refine WO.append (k := 3) (m := 1) (coV fu) (ds := []) rfl rfl rfl rfl rfl rfl rfl ek23 (news_own (k2 := 2) rfl fun _ => rfl) rfl (by simp [coV, Value.oneCell']) (by rw [maxLen_eq]; omega) (by omega) fun p7 c7 => ?_
          | refine WO.append (k := 3) (m := 1) (coV fu) (ds := []) rfl rfl rfl rfl rfl rfl rfl ek23 (news_own (k2 := 1) rfl fun _ => rfl) rfl (by simp [coV, Value.oneCell']) (by rw [maxLen_eq]; omega) (by omega) fun p7 c7 => ?_
          simp only [sx, ty, q1, q2, q5, q6, q7, q8, q9, qa, qb, reduceIte, List.append_assoc, List.cons_append, List.nil_append, sy, q3, q4]
          with_reducible refine WV.next (by simp [keptL, boxO]) (by simp) ?_
          refine WV.one 6 (by kernel_rfl) rfl ?_
          simp only [List.getElem_toArray, List.getElem_cons_succ, List.getElem_cons_zero]
          refine WO.go 1 (ds := []) rfl ?_
          simp only [sx, ty, q1, q2, q5, q6, q7, q8, q9, qa, qb, reduceIte, List.append_assoc, List.cons_append, List.nil_append, sy, q3, q4]
          with_reducible refine WV.next (by simp [keptL, boxO]) (by simp) ?_
          refine WV.nil (by kernel_rfl) ?_
          refine ⟨rfl, by simp [getE, bnd], by simp, _, rfl, fun ρ w1 hb => ⟨fun _ => True, _, _, rfl, ?_⟩⟩
          first
          | exact own_slice (A := rCop) (S := fun _ => True) (k := 2) (xs := (cosV cs ++ coV fu)) hb rfl (by simp) (fun _ _ => trivial) (cos_read1 cs fu)
          | exact own_slice (A := rCop) (S := fun _ => True) (k := 3) (xs := (cosV cs ++ coV fu)) hb rfl (by simp) (fun _ _ => trivial) (cos_read1 cs fu)
      · skip
        simp only [List.getElem_toArray, List.getElem_cons_succ, List.getElem_cons_zero]
        refine WO.go 1 (ds := []) rfl ?_
        simp only [sx, ty, q1, q2, q5, q6, q7, q8, q9, qa, qb, reduceIte, List.append_assoc, List.cons_append, List.nil_append, sy, q3, q4]
        with_reducible refine WV.next (by simp [keptL, boxO]) (by simp) ?_
        refine WV.one 0 (by kernel_rfl) rfl ?_
        simp only [List.getElem_toArray, List.getElem_cons_succ, List.getElem_cons_zero]
        refine WO.go 1 (ds := []) rfl ?_
        simp only [sx, ty, q1, q2, q5, q6, q7, q8, q9, qa, qb, reduceIte, List.append_assoc, List.cons_append, List.nil_append, sy, q3, q4]
        with_reducible refine WV.next (by simp [keptL, boxO]) (by simp) ?_
        refine WV.one 2 (by kernel_rfl) rfl ?_
        simp only [List.getElem_toArray, List.getElem_cons_succ, List.getElem_cons_zero]
        refine WO.appendFull (n := 0) (m := cs.length) [] (cosV cs) (ds := []) rfl rfl rfl rfl ⟨_, rfl, fun ρ w1 hb => ⟨_, rfl, fun j v h => by simp at h⟩⟩ rfl ek23 (by simp) (by omega) (fun ρ w1 hb => by
            obtain ⟨a9, g1, _, g2⟩ := cos_cells (Rp.now hl2 (hb.first (by simp [St.put]))) (by omega)
            exact ⟨a9, c2, by simp only [den, g1], g2⟩) (by rw [cosV_len]) (by rw [maxLen_eq]; omega) (by omega) fun p6 c6 => ?_
        rw [Nat.zero_add, List.nil_append]
        simp only [sx, ty, q1, q2, q5, q6, q7, q8, q9, qa, qb, reduceIte, List.append_assoc, List.cons_append, List.nil_append, sy, q3, q4]
        with_reducible refine WV.next (by simp [keptL, boxO]) (by simp) ?_
        refine WV.one 5 (by kernel_rfl) rfl ?_
        simp only [List.getElem_toArray, List.getElem_cons_succ, List.getElem_cons_zero]
        first
        | refine WO.append (k := 2) (m := 1) (coV fu) (ds := []) rfl rfl rfl rfl rfl rfl rfl ek23 (news_own (k2 := 3) rfl fun _ => rfl) rfl (by simp [coV, Value.oneCell']) (by rw [maxLen_eq]; omega) (by omega) fun p7 c7 => ?_
        | refine WO.append (k := 3) (m := 1) (coV fu) (ds := []) rfl rfl rfl rfl rfl rfl rfl ek23 (news_own (k2 := 2) rfl fun _ => rfl) rfl (by simp [coV, Value.oneCell']) (by rw [maxLen_eq]; omega) (by omega) fun p7 c7 => ?_
        | refine WO.append (k := 3) (m := 1) (coV fu) (ds := []) rfl rfl rfl rfl rfl rfl rfl ek23 (news_own (k2 := 1) rfl fun _ => rfl) rfl (by simp [coV, Value.oneCell']) (by rw [maxLen_eq]; omega) (by omega) fun p7 c7 => ?_
        simp only [sx, ty, q1, q2, q5, q6, q7, q8, q9, qa, qb, reduceIte, List.append_assoc, List.cons_append, List.nil_append, sy, q3, q4]
        with_reducible refine WV.next (by simp [keptL, boxO]) (by simp) ?_
        refine WV.one 6 (by kernel_rfl) rfl ?_
        simp only [List.getElem_toArray, List.getElem_cons_succ, List.getElem_cons_zero]
        refine WO.go 1 (ds := []) rfl ?_
        simp only [sx, ty, q1, q2, q5, q6, q7, q8, q9, qa, qb, reduceIte, List.append_assoc, List.cons_append, List.nil_append, sy, q3, q4]
        with_reducible refine WV.next (by simp [keptL, boxO]) (by simp) ?_
        refine WV.nil (by kernel_rfl) ?_
        refine ⟨rfl, by simp [getE, bnd], by simp, _, rfl, fun ρ w1 hb => ⟨fun _ => True, _, _, rfl, ?_⟩⟩
        first
        | exact own_slice (A := rCop) (S := fun _ => True) (k := 2) (xs := (cosV cs ++ coV fu)) hb rfl (by simp) (fun _ _ => trivial) (cos_read1 cs fu)
        | exact own_slice (A := rCop) (S := fun _ => True) (k := 3) (xs := (cosV cs ++ coV fu)) hb rfl (by simp) (fun _ _ => trivial) (cos_read1 cs fu)
  · rintro S8 s8 _ ⟨qm, cm, rfl, hmr⟩
    refine W.seqK fun K4 hK4 => ?_
    refine W.join 62 (.val (.bool (!use4 ds cs fu))) [0, 1, 2, 4, 11, 12] (W.region ?_) ?_
    · skip
      refine WO.go 2 (ds := [some 48, some 49, some 50, some 51, some 52, some 53, some 54, some 55, some 56, some 57, some 58, some 59, some 60, some 61, some 62]) rfl ?_
      simp only [sx, ty, q1, q2, q5, q6, q7, q8, q9, qa, qb, reduceIte, sy, q3, q4, e0]
      refine WO.call (.bool (few36 ds (cs ++ [fu]))) (ds := [some 48, some 49, some 50, some 51, some 52, some 53, some 54, some 55, some 56, some 57, some 58, some 59, some 60, some 61, some 62]) rfl rfl rfl rfl co6 (fun ρ w1 hb => few36_spec (Rp.now hl (hb.first (by simp))) (Rp.keep hmr (hb.at (S := S8) (s := s8) (by simp [St.put])))) ?_
      refine WO.go 2 (ds := [some 48, some 49, some 50, some 51, some 52, some 53, some 54, some 55, some 56, some 57, some 58, some 59, some 60, some 61, some 62]) rfl ?_
      simp only [sx, ty, q1, q2, q5, q6, q7, q8, q9, qa, qb, reduceIte, sy, q3, q4, e0]
      refine WO.cases 52 _ rfl (fun hg52 => ?_) (fun hg52 => ?_)
      · skip
        have hf9 : few36 ds (cs ++ [fu]) = false := by simpa using hg52
        refine WO.go 10 (ds := [some 48, some 49, some 50, some 51, some 52, some 53, some 54, some 55, some 56, some 57, some 58, some 59, some 60, some 61, some 62]) rfl ?_
        simp only [sx, ty, q1, q2, q5, q6, q7, q8, q9, qa, qb, reduceIte, sy, q3, q4, e0]
        with_reducible refine WO.nil ?_
        refine ⟨rfl, ?_, ⟨_, rfl⟩, by simp [Own.bnd, bndL, bnd, boxO], by simp⟩
        try simp [getE, bnd, keepE, use4, hg52]
        try simp [getE, bnd, keepE, use4, hg52, hg58]
        try simp_all [getE, bnd, keepE, use4]
      · skip
        have hf9 : few36 ds (cs ++ [fu]) = true := by simpa using hg52
        refine WO.go 2 (ds := [some 48, some 49, some 50, some 51, some 52, some 53, some 54, some 55, some 56, some 57, some 58, some 59, some 60, some 61, some 62]) rfl ?_
        simp only [sx, ty, q1, q2, q5, q6, q7, q8, q9, qa, qb, reduceIte, sy, q3, q4, e0]
        refine WO.call (.bool (valid ds cs)) (ds := [some 48, some 49, some 50, some 51, some 52, some 53, some 54, some 55, some 56, some 57, some 58, some 59, some 60, some 61, some 62]) rfl rfl rfl rfl co7 (fun ρ w1 hb => rvalid_spec (Rp.now hl (hb.first (by simp))) (Rp.now hl2 (hb.first (by simp)))) ?_
        refine WO.go 3 (ds := [some 48, some 49, some 50, some 51, some 52, some 53, some 54, some 55, some 56, some 57, some 58, some 59, some 60, some 61, some 62]) rfl ?_
        simp only [sx, ty, q1, q2, q5, q6, q7, q8, q9, qa, qb, reduceIte, sy, q3, q4, e0]
        refine WO.cases 58 _ rfl (fun hg58 => ?_) (fun hg58 => ?_)
        · skip
          have hv9 : valid ds cs = false := by simpa [hf9] using hg58
          refine WO.go 4 (ds := [some 48, some 49, some 50, some 51, some 52, some 53, some 54, some 55, some 56, some 57, some 58, some 59, some 60, some 61, some 62]) rfl ?_
          simp only [sx, ty, q1, q2, q5, q6, q7, q8, q9, qa, qb, reduceIte, sy, q3, q4, e0]
          with_reducible refine WO.nil ?_
          refine ⟨rfl, ?_, ⟨_, rfl⟩, by simp [Own.bnd, bndL, bnd, boxO], by simp⟩
          try simp [getE, bnd, keepE, use4, hg52]
          try simp [getE, bnd, keepE, use4, hg52, hg58]
          try simp_all [getE, bnd, keepE, use4]
        · skip
          have hv9 : valid ds cs = true := by simpa [hf9] using hg58
          refine WO.go 4 (ds := [some 48, some 49, some 50, some 51, some 52, some 53, some 54, some 55, some 56, some 57, some 58, some 59, some 60, some 61, some 62]) rfl ?_
          simp only [sx, ty, q1, q2, q5, q6, q7, q8, q9, qa, qb, reduceIte, sy, q3, q4, e0]
          with_reducible refine WO.nil ?_
          refine ⟨rfl, ?_, ⟨_, rfl⟩, by simp [Own.bnd, bndL, bnd, boxO], by simp⟩
          try simp [getE, bnd, keepE, use4, hg52]
          try simp [getE, bnd, keepE, use4, hg52, hg58]
          try simp_all [getE, bnd, keepE, use4]
    · simp only [sx, ty, q1, q2, q5, q6, q7, q8, q9, qa, qb, reduceIte, sxk, sy, q3, q4, e0]
      refine W.cond rfl rfl (fun hc => ?_) (fun hc => ?_)
      · skip
        refine W.pure (ds := []) rfl fun K6 hK6 => ?_
        simp only [sx, ty, q1, q2, q5, q6, q7, q8, q9, qa, qb, reduceIte, sy, q3, q4, e0]; with_reducible refine hK6 _ ?_; clear hK6
        refine W.ret ⟨by simp, _, rfl, fun ρ w1 hb => ?_⟩
        rfl
      · skip
        have hu : use4 ds cs fu = true := by simpa using hc
        obtain ⟨h7, h8, hv, hpos⟩ := use4_spec hu
        refine W.skip (hK4 _ ?_)
        refine W.pure (ds := []) rfl fun K7 hK7 => ?_
        simp only [sx, ty, q1, q2, q5, q6, q7, q8, q9, qa, qb, reduceIte, sy, q3, q4, e0, hhe]; with_reducible refine hK7 _ ?_; clear hK7
        refine W.seqK fun K8 hK8 => W.region ?_
        refine WO.go 3 (ds := []) rfl ?_
        simp only [sx, ty, q1, q2, q5, q6, q7, q8, q9, qa, qb, reduceIte, sy, q3, q4, e0, hhe]
        refine WO.callM (fun x : List Nat × Option Addr × Nat => .tuple #[.slice x.2.1 ds.length x.2.2, .slice none 0 0, .bool true, .int .i64 0]) (fun lo x s => w.heap.size ≤ lo ∧ BP ds cs h x.1 ∧ rGivs.rd (fun b => lo ≤ b) s [.slice x.2.1 ds.length x.2.2] (planL ds cs h x.1 ds.length)) (ds := []) rfl rfl rfl rfl co8 (fun ρ w1 hb => Gives.mono (plan_yes (Rp.now hl (hb.first (by simp [St.put]))) (Rp.now hl2 (hb.first (by simp [St.put]))) hv hhr (by omega) (by omega) hm) fun r w9 _ ⟨x, h1, h2, h3⟩ => ⟨x, h1, (hb.at (S := fun _ => True) (s := w) (by simp [St.put])).size, h2, h3⟩) fun x lo1 s1 hx => ?_
        obtain ⟨at9, pg, cg⟩ := x
        obtain ⟨hlo1, hBP, hgr⟩ := hx
        simp only at hBP hgr
        refine WO.go 9 (ds := []) rfl ?_
        simp only [sx, ty, q1, q2, q5, q6, q7, q8, q9, qa, qb, reduceIte, sy, q3, q4, e0, hhe]
        with_reducible refine WO.nil ?_
        refine hK8 _ ?_; clear hK8
        refine W.seqK fun K9 hK9 => ?_
        refine W.pure (ds := []) rfl fun K10 hK10 => ?_
        simp only [sx, ty, q1, q2, q5, q6, q7, q8, q9, qa, qb, reduceIte, sy, q3, q4, e0, hhe]; with_reducible refine hK10 _ ?_; clear hK10
        refine W.cond rfl rfl (fun hc => ?_) (fun hc => ?_)
        · skip
          simp at hc
        · skip
          refine W.skip (hK9 _ ?_)
          refine W.seqK fun K11 hK11 => ?_
          refine W.pure (ds := []) rfl fun K12 hK12 => ?_
          simp only [sx, ty, q1, q2, q5, q6, q7, q8, q9, qa, qb, reduceIte, sy, q3, q4, e0, hhe]; with_reducible refine hK12 _ ?_; clear hK12
          refine W.cond rfl rfl (fun hc => ?_) (fun hc => ?_)
          · skip
            simp at hc
          · skip
            refine W.skip (hK11 _ ?_)
            refine W.seqK fun K13 hK13 => W.region ?_
            refine WO.go 3 (ds := []) rfl ?_
            simp only [sx, ty, q1, q2, q5, q6, q7, q8, q9, qa, qb, reduceIte, sy, q3, q4, e0, hhe]
            refine WO.callM (fun x : Option Addr × Nat => .tuple #[.slice x.1 ds.length x.2, .int .i64 0]) (fun lo x s => w.heap.size ≤ lo ∧ rRows.rd (fun b => lo ≤ b) s [.slice x.1 ds.length x.2] (costsF ds cs h)) (ds := []) rfl rfl rfl rfl co13 (fun ρ w1 hb => Gives.mono (costs2_spec (Rp.now hl (hb.first (by simp [St.put]))) (Rp.now hl2 (hb.first (by simp [St.put]))) hv hhr) fun r w9 _ ⟨x, h1, h2⟩ => ⟨x, h1, (hb.at (S := fun _ => True) (s := w) (by simp [St.put])).size, h2⟩) fun x lo2 s2 hx => ?_
            obtain ⟨px, cx⟩ := x
            obtain ⟨hlo2, hxr2⟩ := hx
            simp only at hxr2
            refine WO.go 5 (ds := []) rfl ?_
            simp only [sx, ty, q1, q2, q5, q6, q7, q8, q9, qa, qb, reduceIte, sy, q3, q4, e0, hhe]
            with_reducible refine WO.nil ?_
            refine hK13 _ ?_; clear hK13
            refine W.seqK fun K14 hK14 => W.region ?_
            refine WO.go 1 (ds := []) rfl ?_
            simp only [sx, ty, q1, q2, q5, q6, q7, q8, q9, qa, qb, reduceIte, sy, q3, q4, e0, hhe]
            refine WO.callM (fun x : (Nat → Int) × (Nat → Int) × (Nat → Int) × Nat × Nat => .tuple #[.slice (some ⟨x.2.2.2.1, 0, none⟩) ds.length ds.length, .slice (some ⟨x.2.2.2.2, 0, none⟩) (wideF (costsF ds cs h) cs.length) (wideF (costsF ds cs h) cs.length), .int .i64 0]) (fun lo x s => w.heap.size ≤ lo ∧ RInv (CF ds cs h) ds.length (wideF (costsF ds cs h) cs.length) ds.length x.1 x.2.1 x.2.2.1 ∧
                rInts.rd (fun b => lo ≤ b) s [.slice (some ⟨x.2.2.2.1, 0, none⟩) ds.length ds.length] (tab ds.length x.1) ∧ rInts.rd (fun b => lo ≤ b) s [.slice (some ⟨x.2.2.2.2, 0, none⟩) (wideF (costsF ds cs h) cs.length) (wideF (costsF ds cs h) cs.length)] (tab (wideF (costsF ds cs h) cs.length) x.2.1)) (ds := []) rfl rfl rfl rfl co14 (fun ρ w1 hb => ?_) fun x lo3 s3 hx => ?_
            · have h9 := prices_spec (cost := costsF ds cs h) (n := cs.length) (m := (wideF (costsF ds cs h) cs.length)) (Rp.keep hxr2 (hb.at (S := fun b => lo2 ≤ b) (s := s2) (by simp [St.put]))) (wf_costs hv (by omega)) rfl
              refine h9.mono fun r w9 _ hp => ?_
              simp only [PriceR, costs_len] at hp
              rcases hp with ⟨hno, _⟩ | ⟨_, rows, cols, owner, bA, bB, g1, g2, g3, g4⟩
              · obtain ⟨f, hf⟩ := (mat_meet (h := h) (valid_mem hv).2.2.1).2 hm
                rw [costs_len] at hf
                exact absurd hf (hno f)
              · exact ⟨(rows, cols, owner, bA, bB), g1, (hb.at (S := fun _ => True) (s := w) (by simp [St.put])).size, g2, g3, g4⟩
            obtain ⟨rows, cols, owner, bA, bB⟩ := x
            obtain ⟨hlo3, hRI, hpr1, hpr2⟩ := hx
            simp only at hRI hpr1 hpr2
            refine WO.go 7 (ds := []) rfl ?_
            simp only [sx, ty, q1, q2, q5, q6, q7, q8, q9, qa, qb, reduceIte, sy, q3, q4, e0, hhe]
            with_reducible refine WO.nil ?_
            refine hK14 _ ?_; clear hK14
            refine W.seqK fun K15 hK15 => W.region ?_
            refine WO.go 1 (ds := []) rfl ?_
            simp only [sx, ty, q1, q2, q5, q6, q7, q8, q9, qa, qb, reduceIte, sy, q3, q4, e0, hhe]
            refine WO.callM (fun x : List Nat × Option Addr × Nat => .tuple #[.slice x.2.1 ds.length x.2.2, .int .i64 (totL ds cs h x.1), .bool true, .int .i64 0]) (fun lo x s => w.heap.size ≤ lo ∧ BP ds cs h x.1 ∧ rInts.rd (fun b => lo ≤ b) s [.slice x.2.1 ds.length x.2.2] (x.1.map Int.ofNat)) (ds := []) rfl rfl rfl rfl co15 (fun ρ w1 hb => Gives.mono (best2_some (Rp.keep hxr2 (hb.at (S := fun b => lo2 ≤ b) (s := s2) (by simp [St.put]))) hv (by omega) hm) fun r w9 _ ⟨x, h1, h2, h3⟩ => ⟨x, h1, (hb.at (S := fun _ => True) (s := w) (by simp [St.put])).size, h2, h3⟩) fun x lo4 s4 hx => ?_
            obtain ⟨at8, pb, cb⟩ := x
            obtain ⟨hlo4, hB8, hy8⟩ := hx
            simp only at hB8 hy8
            have hsame := hBP.uniq hB8
            subst at8
            refine WO.go 9 (ds := []) rfl ?_
            simp only [sx, ty, q1, q2, q5, q6, q7, q8, q9, qa, qb, reduceIte, sy, q3, q4, e0, hhe]
            with_reducible refine WO.nil ?_
            refine hK15 _ ?_; clear hK15
            refine W.seqK fun K16 hK16 => W.region ?_
            refine WO.go 4 (ds := []) rfl ?_
            simp only [sx, ty, q1, q2, q5, q6, q7, q8, q9, qa, qb, reduceIte, sy, q3, q4, e0, hhe]
            refine WO.callX (fun _ : Unit => .tuple #[.bool true, .int .i64 0]) (fun _ => True) (ds := []) rfl rfl rfl rfl co16 (fun ρ w1 hb => ?_) fun _ _ => ?_
            · have h9 := proves_spec (w := w1) (cost := costsF ds cs h) (n := cs.length) (m := (wideF (costsF ds cs h) cs.length)) (at9 := at9) (rows := rows) (cols := cols) (owner := owner) (p0 := px) (c0 := cx) (pa := pb) (ca := cb) (pr := some ⟨bA, 0, none⟩) (cr := ds.length) (pc := some ⟨bB, 0, none⟩) (cc := (wideF (costsF ds cs h) cs.length)) (S := fun _ => True) (wf_costs hv (by omega)) rfl (by rw [costs_len]; exact Rp.any (Rp.keep hxr2 (hb.at (S := fun b => lo2 ≤ b) (s := s2) (by simp [St.put])))) (by rw [costs_len]; exact Rp.any (Rp.keep hy8 (hb.at (S := fun b => lo4 ≤ b) (s := s4) (by simp [St.put])))) (by rw [costs_len]; exact Rp.any (Rp.keep hpr1 (hb.at (S := fun b => lo3 ≤ b) (s := s3) (by simp [St.put])))) (Rp.any (Rp.keep hpr2 (hb.at (S := fun b => lo3 ≤ b) (s := s3) (by simp [St.put])))) (by rw [costs_len]; exact hBP) (by rw [costs_len]; exact hRI)
              rw [costs_len] at h9
              exact h9.mono fun r w9 _ g => ⟨(), g, trivial⟩
            refine WO.go 5 (ds := []) rfl ?_
            simp only [sx, ty, q1, q2, q5, q6, q7, q8, q9, qa, qb, reduceIte, sy, q3, q4, e0, hhe]
            with_reducible refine WO.nil ?_
            refine hK16 _ ?_; clear hK16
            refine W.seqK fun K17 hK17 => ?_
            refine W.join 144 (.val (.bool false)) [0, 1, 4, 11, 12, 13, 14, 23, 24] (W.region ?_) ?_
            · skip
              refine WO.go 36 (ds := [some 109, some 110, some 111, some 112, some 113, some 114, some 115, some 116, some 117, some 118, some 119, some 120, some 121, some 122, some 123, some 124, some 125, some 126, some 127, some 128, some 129, some 130, some 131, some 132, some 133, some 134, some 135, some 136, some 137, some 138, some 139, some 140, some 141, some 142, some 143, some 144]) rfl ?_
              simp only [sx, ty, q1, q2, q5, q6, q7, q8, q9, qa, qb, reduceIte, sy, q3, q4, e0, hhe]
              with_reducible refine WO.nil ?_
              refine ⟨rfl, ?_, ⟨_, rfl⟩, by simp [Own.bnd, bndL, bnd, boxO], by simp⟩
              simp [getE, bnd, keepE]
            · simp only [sx, ty, q1, q2, q5, q6, q7, q8, q9, qa, qb, reduceIte, sxk, sy, q3, q4, e0, hhe]
              refine W.cond rfl rfl (fun hc => ?_) (fun hc => ?_)
              · skip
                simp at hc
              · skip
                refine W.skip (hK17 _ ?_)
                refine W.pure (ds := []) rfl fun K19 hK19 => ?_
                simp only [sx, ty, q1, q2, q5, q6, q7, q8, q9, qa, qb, reduceIte, sy, q3, q4, e0, hhe]; with_reducible refine hK19 _ ?_; clear hK19
                refine W.seqK fun K20 hK20 => ?_
                refine W.pure (ds := []) rfl fun K21 hK21 => ?_
                simp only [sx, ty, q1, q2, q5, q6, q7, q8, q9, qa, qb, reduceIte, sy, q3, q4, e0, hhe]; with_reducible refine hK21 _ ?_; clear hK21
                refine W.block ?_
                obtain ⟨A, hA⟩ : ∃ A : Nat → Int, A = fun i => CF ds cs h i (at9.getD i 0) := ⟨_, rfl⟩
                have htot : pS A ds.length = totL ds cs h at9 := by rw [hA]; rfl
                have hab : ∀ i, i < ds.length → ∃ d a cc, ds[i]? = some d ∧ at9.getD i 0 = a ∧ cs[a]? = some cc ∧ A i = costF d cc h ∧ 0 ≤ costF d cc h ∧ costF d cc h ≤ 1000000 := fun i hi => by
                  obtain ⟨d, hd⟩ := len_lt (rfl : ds.length = _) hi
                  have ham := hBP.mat.lt i hi
                  have hok := hBP.mat.ok i hi
                  rw [costs_wide (by rintro rfl; simp at hi)] at ham
                  obtain ⟨cc, hcc⟩ := len_lt (rfl : cs.length = _) ham
                  have hcf : CF ds cs h i (at9.getD i 0) = costF d cc h := cF_costs hd hcc
                  rw [hcf] at hok
                  exact ⟨d, _, cc, hd, rfl, hcc, by rw [hA]; exact hcf, hok, (costF_bound ((valid_mem hv).2.1 d (List.mem_of_getElem? hd)) cc h).2⟩
                have hsA : ∀ x, x ≤ ds.length → -1452000000 ≤ pS A x ∧ pS A x ≤ 1452000000 := fun x hx => pS_small (fun i hi => by obtain ⟨d, a, cc, _, _, _, g1, g2, g3⟩ := hab i hi; omega) hx (by omega)
                have hl8 := (valid_mem hv).2.2.2.1
                refine W.loopO (X := Nat) [0, 1, 4, 11, 12, 13, 23, 24, 145, 146] (fun x => [(29, .val (.int .i64 (pS A x))), (147, .val (.int .i64 (x : Int)))]) (fun x => []) (fun x => [((fun b => lo1 ≤ b), s1), ((fun b => lo4 ≤ b), s4), (S8, s8), ((fun _ => True), w)]) (fun x => x ≤ ds.length) (fun x => ds.length - x) 0 ?_ ?_ ?_
                · exact ⟨rfl, by simp [getE, bnd, keepE, pS_zero], ⟨[], by simp⟩, by simp [Own.bnd, bndL, bnd, boxO], by simp⟩
                · skip
                  exact Nat.zero_le _
                · rintro i hic
                  simp only [sx, ty, q1, q2, q5, q6, q7, q8, q9, qa, qb, reduceIte, sxk, sy, q3, q4, e0, hhe]
                  refine W.pure (ds := []) rfl fun K22 hK22 => ?_
                  simp only [sx, ty, q1, q2, q5, q6, q7, q8, q9, qa, qb, reduceIte, sy, q3, q4, e0, hhe]; with_reducible refine hK22 _ ?_; clear hK22
                  refine W.seqK fun K23 hK23 => ?_
                  refine W.cond rfl rfl (fun hc => ?_) (fun hc => ?_)
                  · skip
                    have hlt : i < ds.length := by simpa using hc
                    obtain ⟨d, a, cc, hd, ha, hcc, hAi, hok, hcb⟩ := hab i hlt
                    have hal := (List.getElem?_eq_some_iff.1 hcc).1
                    have hga := at_get hBP.len hlt
                    rw [ha] at hga
                    have hcf : CF ds cs h i a = costF d cc h := cF_costs hd hcc
                    have hgv : (planL ds cs h at9 ds.length)[i]? = some ((d.1, cc.1, costF d cc h) : Giv) := by
                      unfold planL
                      rw [List.getElem?_map, List.getElem?_range hlt]
                      simp only [Option.map_some, givF, ha, hcf, getD_some hd, getD_some hcc]
                    have hs1 := hsA i (by omega)
                    have hs2 : IntKind.i64.wrap (pS A i + costF d cc h) = pS A (i + 1) := by rw [pS_succ, hAi, wrap_id (by omega) (by omega)]
                    refine W.skip (hK23 _ ?_)
                    refine W.seqK fun K24 hK24 => ?_
                    refine W.block ?_
                    refine W.seqK fun K25 hK25 => W.region ?_
                    refine WO.go 1 (ds := []) rfl ?_
                    simp only [sx, ty, q1, q2, q5, q6, q7, q8, q9, qa, qb, reduceIte, sy, q3, q4, e0, hhe]
                    refine WO.elem (y := ((d.1, cc.1, costF d cc h) : Giv)) hgr (by simp [St.put]) (ds := []) rfl rfl rfl (by simp [St.put]) (fun _ => rfl) rfl rfl rfl rfl rfl el26 agg39 sz39 (.inl rfl) (by omega) (hgv) fun p ces hces => ?_
                    obtain rfl := rGiv_open hces
                    clear hces
                    simp only
                    refine WO.go 3 (ds := []) rfl ?_
                    simp only [sx, ty, q1, q2, q5, q6, q7, q8, q9, qa, qb, reduceIte, sy, q3, q4, e0, hhe]
                    with_reducible refine WO.nil ?_
                    refine hK25 _ ?_; clear hK25
                    refine W.seqK fun K26 hK26 => ?_
                    refine W.join 178 (.val (.bool false)) [0, 1, 4, 11, 12, 13, 23, 24, 29, 31, 145, 146, 147] (W.regionQ mixed (by kernel_rfl) ?_) ?_
                    · skip
                      refine WQ.go 2 (ds := [some 152, some 153, some 154, some 155, some 156, some 157, some 158, some 159, some 160, some 161, some 162, some 163, some 164, some 165, some 166, some 167, some 168, some 169, some 170, some 171, some 172, some 173, some 174, some 175, some 176, some 177, some 178]) rfl ?_
                      simp only [sx, ty, q1, q2, q5, q6, q7, q8, q9, qa, qb, reduceIte, sxq, sy, q3, q4, e0, hhe]
                      refine WQ.elem (y := (a : Int)) hy8 (by simp [St.put]) (ds := [some 152, some 153, some 154, some 155, some 156, some 157, some 158, some 159, some 160, some 161, some 162, some 163, some 164, some 165, some 166, some 167, some 168, some 169, some 170, some 171, some 172, some 173, some 174, some 175, some 176, some 177, some 178]) rfl rfl rfl (by simp [St.put]) (fun _ => rfl) rfl rfl rfl rfl rfl el27 agg3 sz3 (.inr rfl) (by omega) (hga) fun p ces hces => ?_
                      obtain rfl := rInt_open hces
                      clear hces
                      refine WQ.go 2 (ds := [some 152, some 153, some 154, some 155, some 156, some 157, some 158, some 159, some 160, some 161, some 162, some 163, some 164, some 165, some 166, some 167, some 168, some 169, some 170, some 171, some 172, some 173, some 174, some 175, some 176, some 177, some 178]) rfl ?_
                      simp only [sx, ty, q1, q2, q5, q6, q7, q8, q9, qa, qb, reduceIte, sxq, sy, q3, q4, e0, hhe]
                      refine WQ.cases 157 _ rfl (fun hg157 => ?_) (fun hg157 => ?_)
                      · skip
                        simp at hg157; omega
                      · skip
                        refine WQ.go 2 (ds := [some 152, some 153, some 154, some 155, some 156, some 157, some 158, some 159, some 160, some 161, some 162, some 163, some 164, some 165, some 166, some 167, some 168, some 169, some 170, some 171, some 172, some 173, some 174, some 175, some 176, some 177, some 178]) rfl ?_
                        simp only [sx, ty, q1, q2, q5, q6, q7, q8, q9, qa, qb, reduceIte, sxq, sy, q3, q4, e0, hhe]
                        refine WQ.elem (y := (a : Int)) hy8 (by simp [St.put]) (ds := [some 152, some 153, some 154, some 155, some 156, some 157, some 158, some 159, some 160, some 161, some 162, some 163, some 164, some 165, some 166, some 167, some 168, some 169, some 170, some 171, some 172, some 173, some 174, some 175, some 176, some 177, some 178]) rfl rfl rfl (by simp [St.put]) (fun _ => rfl) rfl rfl rfl rfl rfl el27 agg3 sz3 (.inr rfl) (by omega) (hga) fun p ces hces => ?_
                        obtain rfl := rInt_open hces
                        clear hces
                        refine WQ.go 5 (ds := [some 152, some 153, some 154, some 155, some 156, some 157, some 158, some 159, some 160, some 161, some 162, some 163, some 164, some 165, some 166, some 167, some 168, some 169, some 170, some 171, some 172, some 173, some 174, some 175, some 176, some 177, some 178]) rfl ?_
                        simp only [sx, ty, q1, q2, q5, q6, q7, q8, q9, qa, qb, reduceIte, sxq, sy, q3, q4, e0, hhe]
                        refine WQ.cases 166 _ rfl (fun hg166 => ?_) (fun hg166 => ?_)
                        · skip
                          simp at hg166; omega
                        · skip
                          refine WQ.go 5 (ds := [some 152, some 153, some 154, some 155, some 156, some 157, some 158, some 159, some 160, some 161, some 162, some 163, some 164, some 165, some 166, some 167, some 168, some 169, some 170, some 171, some 172, some 173, some 174, some 175, some 176, some 177, some 178]) rfl ?_
                          simp only [sx, ty, q1, q2, q5, q6, q7, q8, q9, qa, qb, reduceIte, sxq, sy, q3, q4, e0, hhe]
                          refine WQ.elem (y := (a : Int)) hy8 (by simp [St.put]) (ds := [some 152, some 153, some 154, some 155, some 156, some 157, some 158, some 159, some 160, some 161, some 162, some 163, some 164, some 165, some 166, some 167, some 168, some 169, some 170, some 171, some 172, some 173, some 174, some 175, some 176, some 177, some 178]) rfl rfl rfl (by simp [St.put]) (fun _ => rfl) rfl rfl rfl rfl rfl el27 agg3 sz3 (.inr rfl) (by omega) (hga) fun p ces hces => ?_
                          obtain rfl := rInt_open hces
                          clear hces
                          simp only [sx, ty, q1, q2, q5, q6, q7, q8, q9, qa, qb, reduceIte, sy, q3, q4, e0, hhe]
                          refine WQ.elemF (y := cc) hl2 (by simp [St.put]) (ds := [some 152, some 153, some 154, some 155, some 156, some 157, some 158, some 159, some 160, some 161, some 162, some 163, some 164, some 165, some 166, some 167, some 168, some 169, some 170, some 171, some 172, some 173, some 174, some 175, some 176, some 177, some 178]) rfl rfl rfl (by simp [St.put]) (fun _ => rfl) rfl (by simp [St.put]) (fun _ _ => rfl) rfl rfl rfl rfl rfl rfl el23 fo45_0 agg3 sz3 (by decide) (.inr rfl) (by omega) (hcc) fun p q ces hces => ?_
                          obtain rfl := rCop_open hces
                          clear hces
                          refine WQ.go 2 (ds := [some 152, some 153, some 154, some 155, some 156, some 157, some 158, some 159, some 160, some 161, some 162, some 163, some 164, some 165, some 166, some 167, some 168, some 169, some 170, some 171, some 172, some 173, some 174, some 175, some 176, some 177, some 178]) rfl ?_
                          simp only [sx, ty, q1, q2, q5, q6, q7, q8, q9, qa, qb, reduceIte, sxq, sy, q3, q4, e0, hhe]
                          with_reducible refine WQ.nil ?_
                          refine ⟨rfl, ?_, ⟨_, rfl⟩, by simp [Own.bnd, bndL, bnd, boxO], by simp⟩
                          simp [getE, bnd, keepE]
                    · simp only [sx, ty, q1, q2, q5, q6, q7, q8, q9, qa, qb, reduceIte, sxk, sy, q3, q4, e0, hhe]
                      refine W.cond rfl rfl (fun hc => ?_) (fun hc => ?_)
                      · skip
                        simp at hc
                      · skip
                        refine W.skip (hK26 _ ?_)
                        refine W.region ?_
                        refine WO.go 5 (ds := []) rfl ?_
                        simp only [sx, ty, q1, q2, q5, q6, q7, q8, q9, qa, qb, reduceIte, sy, q3, q4, e0, hhe]
                        with_reducible refine WO.nil ?_
                        refine hK24 _ ?_
                        refine W.region ?_
                        refine WO.go 2 (ds := []) rfl ?_
                        simp only [sx, ty, q1, q2, q5, q6, q7, q8, q9, qa, qb, reduceIte, sy, q3, q4, e0, hhe]
                        with_reducible refine WO.nil ?_
                        refine ⟨i + 1, hlt, by omega, rfl, by simp [getE, bnd, keepE, hs2, wrap_succ (show i + 1 ≤ 9223372036854775807 by omega)], ⟨_, by simp; rfl⟩, by simp [Own.bnd, bndL, bnd], by simp⟩
                  · skip
                    have him : i = ds.length := Nat.le_antisymm hic (by simpa using hc)
                    subst him
                    simp only [htot]
                    obtain ⟨n9, hn9e, hn9⟩ := rem_nat2 hw9 hpos
                    have hdn : ¬ ((ds.length : Int) = 0) := by omega
                    have hrl := less_len hn9
                    have hxrm : (xs.take n9 ++ xs.drop (n9 + 1)).map (fun z : DE => z.1) = (ds.take n9 ++ ds.drop (n9 + 1)) := by rw [List.map_append, List.map_take, List.map_drop, hxm]
                    have hxsub : ∀ z, z ∈ (xs.take n9 ++ xs.drop (n9 + 1)) → z ∈ xs := fun z hz => by
                      rcases List.mem_append.1 hz with h | h
                      · exact List.mem_of_mem_take h
                      · exact List.mem_of_mem_drop h
                    have hsub9 : (ds.take n9 ++ ds.drop (n9 + 1)).Sublist ds := by rw [← List.eraseIdx_eq_take_drop_succ]; exact List.eraseIdx_sublist ..
                    have hrv := valid_sub hv hsub9
                    have hrM : MeetL (ds.take n9 ++ ds.drop (n9 + 1)) cs := hm.mono fun z hz => hsub9.subset hz
                    refine W.exit (hK20 _ ?_)
                    refine W.seqK fun K28 hK28 => W.region ?_
                    refine WO.go 4 (ds := []) rfl ?_
                    simp only [sx, ty, q1, q2, q5, q6, q7, q8, q9, qa, qb, reduceIte, sy, q3, q4, e0, hhe]
                    refine WO.go 1 (ds := []) rfl ?_
                    simp only [sx, ty, q1, q2, q5, q6, q7, q8, q9, qa, qb, reduceIte, sy, q3, q4, e0, hhe, if_neg hdn, hn9e]
                    refine WO.go 1 (ds := []) rfl ?_
                    simp only [sx, ty, q1, q2, q5, q6, q7, q8, q9, qa, qb, reduceIte, sy, q3, q4, e0, hhe]
                    with_reducible refine WO.nil ?_
                    refine hK28 _ ?_; clear hK28
                    refine W.seqFreeze 33 [(0, .val (.slice p ds.length c)), (11, .val (.bool true)), (12, .val (.slice qm (cs.length + 1) cm)), (13, .val (.int .i64 h)), (24, .val (.int .i64 (totL ds cs h at9))), (29, .val (.int .i64 (totL ds cs h at9))), (35, .val (.bool true)), (36, .val (.int .i64 0))] [(S8, s8), ((fun _ => True), w)] (fun S s v => ∃ at8 q c, v = .slice q (ds.length - 1) c ∧ BP (ds.take n9 ++ ds.drop (n9 + 1)) cs h at8 ∧ rGivs.rd S s [v] (planL (ds.take n9 ++ ds.drop (n9 + 1)) cs h at8 (ds.length - 1))) ?_ ?_
                    · skip
                      have hwi : IntKind.i64.wrap ((n9 : Int) + 1) = ((n9 + 1 : Nat) : Int) := by rw [wrap_id (by omega) (by omega)]; omega
                      by_cases hi0 : n9 = 0 <;> by_cases hil : n9 + 1 = ds.length
                      · skip
                        obtain ⟨a1, c1, hv1⟩ : ∃ a c', slcV 4 p c 0 n9 = .slice a 0 c' := by rw [hi0]; exact slc_none
                        obtain ⟨a2, c2', hv2⟩ : ∃ a c', slcV 4 p c (n9 + 1) ds.length = .slice a 0 c' := by rw [hil]; exact slc_none
                        refine W.regionFT [1, 2, 3, 5, 6, 7, 8, 10, 11] [0, 4, 9, 12] 13 ([]) mixed (by kernel_rfl) rfl (by simp [keptL, boxO]) rfl (fun _ _ h => h) ?_
                        simp only [sx, ty, q1, q2, q5, q6, q7, q8, q9, qa, qb, reduceIte, sxt, List.toList_toArray, RunP, sy, q3, q4, e0, hhe, hwi]
                        refine WF.go rfl rfl rfl ?_
                        simp only [sx, ty, q1, q2, q5, q6, q7, q8, q9, qa, qb, reduceIte, sxt, List.toList_toArray, RunP, sy, q3, q4, e0, hhe, hwi]
                        refine WF.go rfl rfl rfl ?_
                        simp only [sx, ty, q1, q2, q5, q6, q7, q8, q9, qa, qb, reduceIte, sxt, List.toList_toArray, RunP, sy, q3, q4, e0, hhe, hwi]
                        refine WF.q rfl rfl (QR.slc rfl rfl el22 rfl rfl (by simp [loS]) (by simp [loS, hiS]) (by simp [hiS] <;> omega)) ?_
                        rw [show (loS none).toNat = 0 from rfl, show (hiS ds.length (some (IntKind.i64, (n9 : Int)))).toNat = n9 from by simp [hiS], hv1]
                        simp only [sx, ty, q1, q2, q5, q6, q7, q8, q9, qa, qb, reduceIte, sxt, List.toList_toArray, RunP, sy, q3, q4, e0, hhe, hwi]
                        refine WF.go rfl rfl rfl ?_
                        simp only [sx, ty, q1, q2, q5, q6, q7, q8, q9, qa, qb, reduceIte, sxt, List.toList_toArray, RunP, sy, q3, q4, e0, hhe, hwi]
                        refine WF.go rfl rfl rfl ?_
                        simp only [sx, ty, q1, q2, q5, q6, q7, q8, q9, qa, qb, reduceIte, sxt, List.toList_toArray, RunP, sy, q3, q4, e0, hhe, hwi]
                        refine WF.go rfl rfl rfl ?_
                        simp only [sx, ty, q1, q2, q5, q6, q7, q8, q9, qa, qb, reduceIte, sxt, List.toList_toArray, RunP, sy, q3, q4, e0, hhe, hwi]
                        refine WF.q rfl rfl (QR.slc rfl rfl el22 rfl rfl (by simp [loS] <;> omega) (by simp [loS, hiS] <;> omega) (by simp [hiS] <;> omega)) ?_
                        rw [show (loS (some (IntKind.i64, ((n9 + 1 : Nat) : Int)))).toNat = n9 + 1 from by simp [loS] <;> omega, show (hiS ds.length none).toNat = ds.length from by simp [hiS], hv2]
                        simp only [sx, ty, q1, q2, q5, q6, q7, q8, q9, qa, qb, reduceIte, sxt, List.toList_toArray, RunP, sy, q3, q4, e0, hhe, hwi]
                        refine WF.go rfl rfl rfl ?_
                        simp only [sx, ty, q1, q2, q5, q6, q7, q8, q9, qa, qb, reduceIte, sxt, List.toList_toArray, RunP, sy, q3, q4, e0, hhe, hwi]
                        refine WF.go rfl rfl rfl ?_
                        simp only [sx, ty, q1, q2, q5, q6, q7, q8, q9, qa, qb, reduceIte, sxt, List.toList_toArray, RunP, sy, q3, q4, e0, hhe, hwi]
                        refine WF.nil ?_
                        simp only [sx, ty, q1, q2, q5, q6, q7, q8, q9, qa, qb, reduceIte, sxt, List.toList_toArray, RunP, sy, q3, q4, e0, hhe, hwi]
                        refine WC.one ?_
                        refine WO.go 1 (ds := []) rfl ?_
                        simp only [sx, ty, q1, q2, q5, q6, q7, q8, q9, qa, qb, reduceIte, List.append_assoc, List.cons_append, List.nil_append, sy, q3, q4, e0, hhe, hwi]
                        with_reducible refine WC.next (by simp [keptL, boxO]) (by simp) ?_
                        refine WC.one ?_
                        refine WO.q (ds := []) rfl rfl rfl (QR.appendZ rfl rfl (fun ρ w1 hb => ⟨_, _, _, rfl, Nat.le_refl _⟩) (fun ρ ρ' h => den_agree h _ rfl) rfl ek22) ?_
                        simp only [sx, ty, q1, q2, q5, q6, q7, q8, q9, qa, qb, reduceIte, List.append_assoc, List.cons_append, List.nil_append, sy, q3, q4, e0, hhe, hwi]
                        with_reducible refine WC.next (by simp [keptL, boxO]) (by simp) ?_
                        refine WC.one ?_
                        refine WO.q (ds := []) rfl rfl rfl (QR.appendZ rfl rfl (fun ρ w1 hb => ⟨_, _, _, rfl, Nat.le_refl _⟩) (fun ρ ρ' h => den_agree h _ rfl) rfl ek22) ?_
                        simp only [sx, ty, q1, q2, q5, q6, q7, q8, q9, qa, qb, reduceIte, List.append_assoc, List.cons_append, List.nil_append, sy, q3, q4, e0, hhe, hwi]
                        with_reducible refine WC.next (by simp [keptL, boxO]) (by simp) ?_
                        refine WC.one ?_
                        refine WO.callM (fun x : List Nat × Option Addr × Nat => .tuple #[.slice x.2.1 (ds.length - 1) x.2.2, .slice none 0 0, .bool true, .int .i64 0]) (fun lo x s => w.heap.size ≤ lo ∧ BP (ds.take n9 ++ ds.drop (n9 + 1)) cs h x.1 ∧ rGivs.rd (fun b => lo ≤ b) s [.slice x.2.1 (ds.length - 1) x.2.2] (planL (ds.take n9 ++ ds.drop (n9 + 1)) cs h x.1 (ds.length - 1))) (ds := []) rfl rfl rfl rfl co8 (fun ρ w1 hb => ?_) fun x lo5 s5 hx => ?_
                        · have hm9 : (ds.take n9 ++ ds.drop (n9 + 1)).length = 0 := by rw [hrl]; omega
                          have e9 : Value.slice (some ⟨ρ 0, 0, none⟩) (0) 0 = Value.slice (some ⟨ρ 0, 0, none⟩) (ds.take n9 ++ ds.drop (n9 + 1)).length 0 := by rw [hm9]
                          have hrd : rDEs.rd (fun _ => True) w1 [.slice (some ⟨ρ 0, 0, none⟩) (0) 0] (xs.take n9 ++ xs.drop (n9 + 1)) := by
                            have hz : (xs.take n9 ++ xs.drop (n9 + 1)) = [] := List.length_eq_zero_iff.1 (by have := congrArg List.length hxrm; simp only [List.length_map] at this; rw [this, hrl]; omega)
                            rw [hz]
                            exact Rp.slice_nil (by omega)
                          have hq : rDems.rd (fun _ => True) w1 [.slice (some ⟨ρ 0, 0, none⟩) (0) 0] (ds.take n9 ++ ds.drop (n9 + 1)) := by
                            have h8 := Rp.any (close_des hrd (fun z hz => (hxe z (hxsub z hz)).now (hb.first (w0 := w) (by simp [St.put]))))
                            rwa [hxrm] at h8
                          have h9 := plan_yes (p0 := (some ⟨ρ 0, 0, none⟩)) (c0 := 0) (ds := (ds.take n9 ++ ds.drop (n9 + 1))) (hall := h) (by rw [hm9]; exact hq) (Rp.now hl2 (hb.first (by simp [St.put]))) hrv hhr (by omega) (by rw [hrl]; omega) hrM
                          show Gives _ _ #[.slice (some ⟨ρ 0, 0, none⟩) (0) 0, .slice p2 cs.length c2, .int .i64 h] _ _
                          rw [e9]
                          exact h9.mono fun r w9 _ ⟨x, g1, g2, g3⟩ => ⟨x, by rw [← hrl]; exact g1, (hb.at (S := fun _ => True) (s := w) (by simp [St.put])).size, g2, by rw [← hrl]; exact g3⟩
                        obtain ⟨at8, pf, cf⟩ := x
                        obtain ⟨hlo5, hB5, hg5⟩ := hx
                        simp only at hB5 hg5
                        simp only [sx, ty, q1, q2, q5, q6, q7, q8, q9, qa, qb, reduceIte, List.append_assoc, List.cons_append, List.nil_append, sy, q3, q4, e0, hhe, hwi]
                        with_reducible refine WC.next (by simp [keptL, boxO]) (by simp) ?_
                        with_reducible refine WC.nilT ?_
                        simp only [sx, ty, q1, q2, q5, q6, q7, q8, q9, qa, qb, reduceIte, sxt, List.toList_toArray, List.drop_succ_cons, List.drop_zero, sy, q3, q4, e0, hhe, hwi]
                        refine WQ.go 9 (ds := []) rfl ?_
                        simp only [sx, ty, q1, q2, q5, q6, q7, q8, q9, qa, qb, reduceIte, sxq, sy, q3, q4, e0, hhe, hwi]
                        with_reducible refine WQ.nil ?_
                        refine ⟨rfl, by simp [getE, bnd], by simp, _, rfl, fun ρ w1 hb => ⟨_, at8, pf, cf, rfl, hB5, Rp.keep hg5 (hb.at (S := fun b => lo5 ≤ b) (s := s5) (by simp [St.put]))⟩⟩
                      · skip
                        obtain ⟨a1, c1, hv1⟩ : ∃ a c', slcV 4 p c 0 n9 = .slice a 0 c' := by rw [hi0]; exact slc_none
                        obtain ⟨a2, c2', hv2⟩ : ∃ a c', slcV 4 p c (n9 + 1) ds.length = .slice a (ds.length - (n9 + 1)) c' := ⟨_, _, rfl⟩
                        refine W.regionFT [1, 2, 3, 5, 6, 7, 8, 10, 11] [0, 4, 9, 12] 13 ([]) mixed (by kernel_rfl) rfl (by simp [keptL, boxO]) rfl (fun _ _ h => h) ?_
                        simp only [sx, ty, q1, q2, q5, q6, q7, q8, q9, qa, qb, reduceIte, sxt, List.toList_toArray, RunP, sy, q3, q4, e0, hhe, hwi]
                        refine WF.go rfl rfl rfl ?_
                        simp only [sx, ty, q1, q2, q5, q6, q7, q8, q9, qa, qb, reduceIte, sxt, List.toList_toArray, RunP, sy, q3, q4, e0, hhe, hwi]
                        refine WF.go rfl rfl rfl ?_
                        simp only [sx, ty, q1, q2, q5, q6, q7, q8, q9, qa, qb, reduceIte, sxt, List.toList_toArray, RunP, sy, q3, q4, e0, hhe, hwi]
                        refine WF.q rfl rfl (QR.slc rfl rfl el22 rfl rfl (by simp [loS]) (by simp [loS, hiS]) (by simp [hiS] <;> omega)) ?_
                        rw [show (loS none).toNat = 0 from rfl, show (hiS ds.length (some (IntKind.i64, (n9 : Int)))).toNat = n9 from by simp [hiS], hv1]
                        simp only [sx, ty, q1, q2, q5, q6, q7, q8, q9, qa, qb, reduceIte, sxt, List.toList_toArray, RunP, sy, q3, q4, e0, hhe, hwi]
                        refine WF.go rfl rfl rfl ?_
                        simp only [sx, ty, q1, q2, q5, q6, q7, q8, q9, qa, qb, reduceIte, sxt, List.toList_toArray, RunP, sy, q3, q4, e0, hhe, hwi]
                        refine WF.go rfl rfl rfl ?_
                        simp only [sx, ty, q1, q2, q5, q6, q7, q8, q9, qa, qb, reduceIte, sxt, List.toList_toArray, RunP, sy, q3, q4, e0, hhe, hwi]
                        refine WF.go rfl rfl rfl ?_
                        simp only [sx, ty, q1, q2, q5, q6, q7, q8, q9, qa, qb, reduceIte, sxt, List.toList_toArray, RunP, sy, q3, q4, e0, hhe, hwi]
                        refine WF.q rfl rfl (QR.slc rfl rfl el22 rfl rfl (by simp [loS] <;> omega) (by simp [loS, hiS] <;> omega) (by simp [hiS] <;> omega)) ?_
                        rw [show (loS (some (IntKind.i64, ((n9 + 1 : Nat) : Int)))).toNat = n9 + 1 from by simp [loS] <;> omega, show (hiS ds.length none).toNat = ds.length from by simp [hiS], hv2]
                        simp only [sx, ty, q1, q2, q5, q6, q7, q8, q9, qa, qb, reduceIte, sxt, List.toList_toArray, RunP, sy, q3, q4, e0, hhe, hwi]
                        refine WF.go rfl rfl rfl ?_
                        simp only [sx, ty, q1, q2, q5, q6, q7, q8, q9, qa, qb, reduceIte, sxt, List.toList_toArray, RunP, sy, q3, q4, e0, hhe, hwi]
                        refine WF.go rfl rfl rfl ?_
                        simp only [sx, ty, q1, q2, q5, q6, q7, q8, q9, qa, qb, reduceIte, sxt, List.toList_toArray, RunP, sy, q3, q4, e0, hhe, hwi]
                        refine WF.nil ?_
                        simp only [sx, ty, q1, q2, q5, q6, q7, q8, q9, qa, qb, reduceIte, sxt, List.toList_toArray, RunP, sy, q3, q4, e0, hhe, hwi]
                        refine WC.one ?_
                        refine WO.go 1 (ds := []) rfl ?_
                        simp only [sx, ty, q1, q2, q5, q6, q7, q8, q9, qa, qb, reduceIte, List.append_assoc, List.cons_append, List.nil_append, sy, q3, q4, e0, hhe, hwi]
                        with_reducible refine WC.next (by simp [keptL, boxO]) (by simp) ?_
                        refine WC.one ?_
                        refine WO.q (ds := []) rfl rfl rfl (QR.appendZ rfl rfl (fun ρ w1 hb => ⟨_, _, _, rfl, Nat.le_refl _⟩) (fun ρ ρ' h => den_agree h _ rfl) rfl ek22) ?_
                        simp only [sx, ty, q1, q2, q5, q6, q7, q8, q9, qa, qb, reduceIte, List.append_assoc, List.cons_append, List.nil_append, sy, q3, q4, e0, hhe, hwi]
                        with_reducible refine WC.next (by simp [keptL, boxO]) (by simp) ?_
                        refine WC.one ?_
                        refine WO.appendFull (n := 0) (m := (ds.length - (n9 + 1))) [] (desV (xs.drop (n9 + 1))) (ds := []) rfl rfl rfl rfl ⟨_, rfl, fun ρ w1 hb => ⟨_, rfl, fun j v h => by simp at h⟩⟩ rfl ek22 (by simp) (by omega) (fun ρ w1 hb => by
                            obtain ⟨a9, g1, g2⟩ := (slc_news (l := n9 + 1) (h := ds.length) (Rp.now hxr (hb.first (by simp [St.put]))) (by omega) (by omega))
                            rw [hv2] at g1
                            rw [List.take_of_length_le (by simp <;> omega)] at g2
                            exact ⟨a9, _, g1, g2⟩) (by rw [desV_len]; simp <;> omega) (by rw [maxLen_eq]; omega) (by omega) fun p6 c6 => ?_
                        rw [Nat.zero_add, List.nil_append]
                        simp only [sx, ty, q1, q2, q5, q6, q7, q8, q9, qa, qb, reduceIte, List.append_assoc, List.cons_append, List.nil_append, sy, q3, q4, e0, hhe, hwi]
                        with_reducible refine WC.next (by simp [keptL, boxO]) (by simp) ?_
                        refine WC.one ?_
                        refine WO.callM (fun x : List Nat × Option Addr × Nat => .tuple #[.slice x.2.1 (ds.length - 1) x.2.2, .slice none 0 0, .bool true, .int .i64 0]) (fun lo x s => w.heap.size ≤ lo ∧ BP (ds.take n9 ++ ds.drop (n9 + 1)) cs h x.1 ∧ rGivs.rd (fun b => lo ≤ b) s [.slice x.2.1 (ds.length - 1) x.2.2] (planL (ds.take n9 ++ ds.drop (n9 + 1)) cs h x.1 (ds.length - 1))) (ds := []) rfl rfl rfl rfl co8 (fun ρ w1 hb => ?_) fun x lo5 s5 hx => ?_
                        · have hm9 : (ds.take n9 ++ ds.drop (n9 + 1)).length = ds.length - (n9 + 1) := by rw [hrl]; omega
                          have e9 : Value.slice p6 (ds.length - (n9 + 1)) c6 = Value.slice p6 (ds.take n9 ++ ds.drop (n9 + 1)).length c6 := by rw [hm9]
                          have hrd : rDEs.rd (fun _ => True) w1 [.slice p6 (ds.length - (n9 + 1)) c6] (xs.take n9 ++ xs.drop (n9 + 1)) := by
                            exact part_read (S := fun _ => True) (m := (ds.length - (n9 + 1))) hb (k := 1) rfl (fs := (xs.take n9 ++ xs.drop (n9 + 1))) (by rw [List.take_of_length_le (by rw [desV_len]; simp <;> omega)] <;> first | done | (congr 1; rw [hi0]; simp)) (by have := congrArg List.length hxrm; simp only [List.length_map] at this; rw [this, hrl]; omega) (Nat.le_refl _) (fun _ _ => trivial)
                          have hq : rDems.rd (fun _ => True) w1 [.slice p6 (ds.length - (n9 + 1)) c6] (ds.take n9 ++ ds.drop (n9 + 1)) := by
                            have h8 := Rp.any (close_des hrd (fun z hz => (hxe z (hxsub z hz)).now (hb.first (w0 := w) (by simp [St.put]))))
                            rwa [hxrm] at h8
                          have h9 := plan_yes (p0 := p6) (c0 := c6) (ds := (ds.take n9 ++ ds.drop (n9 + 1))) (hall := h) (by rw [hm9]; exact hq) (Rp.now hl2 (hb.first (by simp [St.put]))) hrv hhr (by omega) (by rw [hrl]; omega) hrM
                          show Gives _ _ #[.slice p6 (ds.length - (n9 + 1)) c6, .slice p2 cs.length c2, .int .i64 h] _ _
                          rw [e9]
                          exact h9.mono fun r w9 _ ⟨x, g1, g2, g3⟩ => ⟨x, by rw [← hrl]; exact g1, (hb.at (S := fun _ => True) (s := w) (by simp [St.put])).size, g2, by rw [← hrl]; exact g3⟩
                        obtain ⟨at8, pf, cf⟩ := x
                        obtain ⟨hlo5, hB5, hg5⟩ := hx
                        simp only at hB5 hg5
                        simp only [sx, ty, q1, q2, q5, q6, q7, q8, q9, qa, qb, reduceIte, List.append_assoc, List.cons_append, List.nil_append, sy, q3, q4, e0, hhe, hwi]
                        with_reducible refine WC.next (by simp [keptL, boxO]) (by simp) ?_
                        with_reducible refine WC.nilT ?_
                        simp only [sx, ty, q1, q2, q5, q6, q7, q8, q9, qa, qb, reduceIte, sxt, List.toList_toArray, List.drop_succ_cons, List.drop_zero, sy, q3, q4, e0, hhe, hwi]
                        refine WQ.go 9 (ds := []) rfl ?_
                        simp only [sx, ty, q1, q2, q5, q6, q7, q8, q9, qa, qb, reduceIte, sxq, sy, q3, q4, e0, hhe, hwi]
                        with_reducible refine WQ.nil ?_
                        refine ⟨rfl, by simp [getE, bnd], by simp, _, rfl, fun ρ w1 hb => ⟨_, at8, pf, cf, rfl, hB5, Rp.keep hg5 (hb.at (S := fun b => lo5 ≤ b) (s := s5) (by simp [St.put]))⟩⟩
                      · skip
                        obtain ⟨a1, c1, hv1⟩ : ∃ a c', slcV 4 p c 0 n9 = .slice a n9 c' := ⟨_, _, rfl⟩
                        obtain ⟨a2, c2', hv2⟩ : ∃ a c', slcV 4 p c (n9 + 1) ds.length = .slice a 0 c' := by rw [hil]; exact slc_none
                        refine W.regionFT [1, 2, 3, 5, 6, 7, 8, 10, 11] [0, 4, 9, 12] 13 ([]) mixed (by kernel_rfl) rfl (by simp [keptL, boxO]) rfl (fun _ _ h => h) ?_
                        simp only [sx, ty, q1, q2, q5, q6, q7, q8, q9, qa, qb, reduceIte, sxt, List.toList_toArray, RunP, sy, q3, q4, e0, hhe, hwi]
                        refine WF.go rfl rfl rfl ?_
                        simp only [sx, ty, q1, q2, q5, q6, q7, q8, q9, qa, qb, reduceIte, sxt, List.toList_toArray, RunP, sy, q3, q4, e0, hhe, hwi]
                        refine WF.go rfl rfl rfl ?_
                        simp only [sx, ty, q1, q2, q5, q6, q7, q8, q9, qa, qb, reduceIte, sxt, List.toList_toArray, RunP, sy, q3, q4, e0, hhe, hwi]
                        refine WF.q rfl rfl (QR.slc rfl rfl el22 rfl rfl (by simp [loS]) (by simp [loS, hiS]) (by simp [hiS] <;> omega)) ?_
                        rw [show (loS none).toNat = 0 from rfl, show (hiS ds.length (some (IntKind.i64, (n9 : Int)))).toNat = n9 from by simp [hiS], hv1]
                        simp only [sx, ty, q1, q2, q5, q6, q7, q8, q9, qa, qb, reduceIte, sxt, List.toList_toArray, RunP, sy, q3, q4, e0, hhe, hwi]
                        refine WF.go rfl rfl rfl ?_
                        simp only [sx, ty, q1, q2, q5, q6, q7, q8, q9, qa, qb, reduceIte, sxt, List.toList_toArray, RunP, sy, q3, q4, e0, hhe, hwi]
                        refine WF.go rfl rfl rfl ?_
                        simp only [sx, ty, q1, q2, q5, q6, q7, q8, q9, qa, qb, reduceIte, sxt, List.toList_toArray, RunP, sy, q3, q4, e0, hhe, hwi]
                        refine WF.go rfl rfl rfl ?_
                        simp only [sx, ty, q1, q2, q5, q6, q7, q8, q9, qa, qb, reduceIte, sxt, List.toList_toArray, RunP, sy, q3, q4, e0, hhe, hwi]
                        refine WF.q rfl rfl (QR.slc rfl rfl el22 rfl rfl (by simp [loS] <;> omega) (by simp [loS, hiS] <;> omega) (by simp [hiS] <;> omega)) ?_
                        rw [show (loS (some (IntKind.i64, ((n9 + 1 : Nat) : Int)))).toNat = n9 + 1 from by simp [loS] <;> omega, show (hiS ds.length none).toNat = ds.length from by simp [hiS], hv2]
                        simp only [sx, ty, q1, q2, q5, q6, q7, q8, q9, qa, qb, reduceIte, sxt, List.toList_toArray, RunP, sy, q3, q4, e0, hhe, hwi]
                        refine WF.go rfl rfl rfl ?_
                        simp only [sx, ty, q1, q2, q5, q6, q7, q8, q9, qa, qb, reduceIte, sxt, List.toList_toArray, RunP, sy, q3, q4, e0, hhe, hwi]
                        refine WF.go rfl rfl rfl ?_
                        simp only [sx, ty, q1, q2, q5, q6, q7, q8, q9, qa, qb, reduceIte, sxt, List.toList_toArray, RunP, sy, q3, q4, e0, hhe, hwi]
                        refine WF.nil ?_
                        simp only [sx, ty, q1, q2, q5, q6, q7, q8, q9, qa, qb, reduceIte, sxt, List.toList_toArray, RunP, sy, q3, q4, e0, hhe, hwi]
                        refine WC.one ?_
                        refine WO.go 1 (ds := []) rfl ?_
                        simp only [sx, ty, q1, q2, q5, q6, q7, q8, q9, qa, qb, reduceIte, List.append_assoc, List.cons_append, List.nil_append, sy, q3, q4, e0, hhe, hwi]
                        with_reducible refine WC.next (by simp [keptL, boxO]) (by simp) ?_
                        refine WC.one ?_
                        refine WO.appendFull (n := 0) (m := n9) [] (desV (xs.take n9)) (ds := []) rfl rfl rfl rfl ⟨_, rfl, fun ρ w1 hb => ⟨_, rfl, fun j v h => by simp at h⟩⟩ rfl ek22 (by simp) (by omega) (fun ρ w1 hb => by
                            obtain ⟨a9, g1, g2⟩ := (slc_news (l := 0) (h := n9) (Rp.now hxr (hb.first (by simp [St.put]))) (by omega) (by omega))
                            rw [hv1] at g1
                            exact ⟨a9, _, g1, g2⟩) (by rw [desV_len]; simp <;> omega) (by rw [maxLen_eq]; omega) (by omega) fun p6 c6 => ?_
                        rw [Nat.zero_add, List.nil_append]
                        simp only [sx, ty, q1, q2, q5, q6, q7, q8, q9, qa, qb, reduceIte, List.append_assoc, List.cons_append, List.nil_append, sy, q3, q4, e0, hhe, hwi]
                        with_reducible refine WC.next (by simp [keptL, boxO]) (by simp) ?_
                        refine WC.one ?_
                        refine WO.q (ds := []) rfl rfl rfl (QR.appendZ rfl rfl (fun ρ w1 hb => ⟨_, _, _, rfl, own_cap (k := 1) hb rfl⟩) (fun ρ ρ' h => den_agree h _ rfl) rfl ek22) ?_
                        simp only [sx, ty, q1, q2, q5, q6, q7, q8, q9, qa, qb, reduceIte, List.append_assoc, List.cons_append, List.nil_append, sy, q3, q4, e0, hhe, hwi]
                        with_reducible refine WC.next (by simp [keptL, boxO]) (by simp) ?_
                        refine WC.one ?_
                        refine WO.callM (fun x : List Nat × Option Addr × Nat => .tuple #[.slice x.2.1 (ds.length - 1) x.2.2, .slice none 0 0, .bool true, .int .i64 0]) (fun lo x s => w.heap.size ≤ lo ∧ BP (ds.take n9 ++ ds.drop (n9 + 1)) cs h x.1 ∧ rGivs.rd (fun b => lo ≤ b) s [.slice x.2.1 (ds.length - 1) x.2.2] (planL (ds.take n9 ++ ds.drop (n9 + 1)) cs h x.1 (ds.length - 1))) (ds := []) rfl rfl rfl rfl co8 (fun ρ w1 hb => ?_) fun x lo5 s5 hx => ?_
                        · have hm9 : (ds.take n9 ++ ds.drop (n9 + 1)).length = n9 := by rw [hrl]; omega
                          have e9 : Value.slice p6 (n9) c6 = Value.slice p6 (ds.take n9 ++ ds.drop (n9 + 1)).length c6 := by rw [hm9]
                          have hrd : rDEs.rd (fun _ => True) w1 [.slice p6 (n9) c6] (xs.take n9 ++ xs.drop (n9 + 1)) := by
                            exact part_read (S := fun _ => True) (m := n9) hb (k := 1) rfl (fs := (xs.take n9 ++ xs.drop (n9 + 1))) (by rw [List.take_of_length_le (by rw [desV_len]; simp <;> omega)] <;> first | done | (congr 1; rw [hil, ← hxl]; simp)) (by have := congrArg List.length hxrm; simp only [List.length_map] at this; rw [this, hrl]; omega) (Nat.le_refl _) (fun _ _ => trivial)
                          have hq : rDems.rd (fun _ => True) w1 [.slice p6 (n9) c6] (ds.take n9 ++ ds.drop (n9 + 1)) := by
                            have h8 := Rp.any (close_des hrd (fun z hz => (hxe z (hxsub z hz)).now (hb.first (w0 := w) (by simp [St.put]))))
                            rwa [hxrm] at h8
                          have h9 := plan_yes (p0 := p6) (c0 := c6) (ds := (ds.take n9 ++ ds.drop (n9 + 1))) (hall := h) (by rw [hm9]; exact hq) (Rp.now hl2 (hb.first (by simp [St.put]))) hrv hhr (by omega) (by rw [hrl]; omega) hrM
                          show Gives _ _ #[.slice p6 (n9) c6, .slice p2 cs.length c2, .int .i64 h] _ _
                          rw [e9]
                          exact h9.mono fun r w9 _ ⟨x, g1, g2, g3⟩ => ⟨x, by rw [← hrl]; exact g1, (hb.at (S := fun _ => True) (s := w) (by simp [St.put])).size, g2, by rw [← hrl]; exact g3⟩
                        obtain ⟨at8, pf, cf⟩ := x
                        obtain ⟨hlo5, hB5, hg5⟩ := hx
                        simp only at hB5 hg5
                        simp only [sx, ty, q1, q2, q5, q6, q7, q8, q9, qa, qb, reduceIte, List.append_assoc, List.cons_append, List.nil_append, sy, q3, q4, e0, hhe, hwi]
                        with_reducible refine WC.next (by simp [keptL, boxO]) (by simp) ?_
                        with_reducible refine WC.nilT ?_
                        simp only [sx, ty, q1, q2, q5, q6, q7, q8, q9, qa, qb, reduceIte, sxt, List.toList_toArray, List.drop_succ_cons, List.drop_zero, sy, q3, q4, e0, hhe, hwi]
                        refine WQ.go 9 (ds := []) rfl ?_
                        simp only [sx, ty, q1, q2, q5, q6, q7, q8, q9, qa, qb, reduceIte, sxq, sy, q3, q4, e0, hhe, hwi]
                        with_reducible refine WQ.nil ?_
                        refine ⟨rfl, by simp [getE, bnd], by simp, _, rfl, fun ρ w1 hb => ⟨_, at8, pf, cf, rfl, hB5, Rp.keep hg5 (hb.at (S := fun b => lo5 ≤ b) (s := s5) (by simp [St.put]))⟩⟩
                      · skip
                        obtain ⟨a1, c1, hv1⟩ : ∃ a c', slcV 4 p c 0 n9 = .slice a n9 c' := ⟨_, _, rfl⟩
                        obtain ⟨a2, c2', hv2⟩ : ∃ a c', slcV 4 p c (n9 + 1) ds.length = .slice a (ds.length - (n9 + 1)) c' := ⟨_, _, rfl⟩
                        refine W.regionFT [1, 2, 3, 5, 6, 7, 8, 10, 11] [0, 4, 9, 12] 13 ([]) mixed (by kernel_rfl) rfl (by simp [keptL, boxO]) rfl (fun _ _ h => h) ?_
                        simp only [sx, ty, q1, q2, q5, q6, q7, q8, q9, qa, qb, reduceIte, sxt, List.toList_toArray, RunP, sy, q3, q4, e0, hhe, hwi]
                        refine WF.go rfl rfl rfl ?_
                        simp only [sx, ty, q1, q2, q5, q6, q7, q8, q9, qa, qb, reduceIte, sxt, List.toList_toArray, RunP, sy, q3, q4, e0, hhe, hwi]
                        refine WF.go rfl rfl rfl ?_
                        simp only [sx, ty, q1, q2, q5, q6, q7, q8, q9, qa, qb, reduceIte, sxt, List.toList_toArray, RunP, sy, q3, q4, e0, hhe, hwi]
                        refine WF.q rfl rfl (QR.slc rfl rfl el22 rfl rfl (by simp [loS]) (by simp [loS, hiS]) (by simp [hiS] <;> omega)) ?_
                        rw [show (loS none).toNat = 0 from rfl, show (hiS ds.length (some (IntKind.i64, (n9 : Int)))).toNat = n9 from by simp [hiS], hv1]
                        simp only [sx, ty, q1, q2, q5, q6, q7, q8, q9, qa, qb, reduceIte, sxt, List.toList_toArray, RunP, sy, q3, q4, e0, hhe, hwi]
                        refine WF.go rfl rfl rfl ?_
                        simp only [sx, ty, q1, q2, q5, q6, q7, q8, q9, qa, qb, reduceIte, sxt, List.toList_toArray, RunP, sy, q3, q4, e0, hhe, hwi]
                        refine WF.go rfl rfl rfl ?_
                        simp only [sx, ty, q1, q2, q5, q6, q7, q8, q9, qa, qb, reduceIte, sxt, List.toList_toArray, RunP, sy, q3, q4, e0, hhe, hwi]
                        refine WF.go rfl rfl rfl ?_
                        simp only [sx, ty, q1, q2, q5, q6, q7, q8, q9, qa, qb, reduceIte, sxt, List.toList_toArray, RunP, sy, q3, q4, e0, hhe, hwi]
                        refine WF.q rfl rfl (QR.slc rfl rfl el22 rfl rfl (by simp [loS] <;> omega) (by simp [loS, hiS] <;> omega) (by simp [hiS] <;> omega)) ?_
                        rw [show (loS (some (IntKind.i64, ((n9 + 1 : Nat) : Int)))).toNat = n9 + 1 from by simp [loS] <;> omega, show (hiS ds.length none).toNat = ds.length from by simp [hiS], hv2]
                        simp only [sx, ty, q1, q2, q5, q6, q7, q8, q9, qa, qb, reduceIte, sxt, List.toList_toArray, RunP, sy, q3, q4, e0, hhe, hwi]
                        refine WF.go rfl rfl rfl ?_
                        simp only [sx, ty, q1, q2, q5, q6, q7, q8, q9, qa, qb, reduceIte, sxt, List.toList_toArray, RunP, sy, q3, q4, e0, hhe, hwi]
                        refine WF.go rfl rfl rfl ?_
                        simp only [sx, ty, q1, q2, q5, q6, q7, q8, q9, qa, qb, reduceIte, sxt, List.toList_toArray, RunP, sy, q3, q4, e0, hhe, hwi]
                        refine WF.nil ?_
                        simp only [sx, ty, q1, q2, q5, q6, q7, q8, q9, qa, qb, reduceIte, sxt, List.toList_toArray, RunP, sy, q3, q4, e0, hhe, hwi]
                        refine WC.one ?_
                        refine WO.go 1 (ds := []) rfl ?_
                        simp only [sx, ty, q1, q2, q5, q6, q7, q8, q9, qa, qb, reduceIte, List.append_assoc, List.cons_append, List.nil_append, sy, q3, q4, e0, hhe, hwi]
                        with_reducible refine WC.next (by simp [keptL, boxO]) (by simp) ?_
                        refine WC.one ?_
                        refine WO.appendFull (n := 0) (m := n9) [] (desV (xs.take n9)) (ds := []) rfl rfl rfl rfl ⟨_, rfl, fun ρ w1 hb => ⟨_, rfl, fun j v h => by simp at h⟩⟩ rfl ek22 (by simp) (by omega) (fun ρ w1 hb => by
                            obtain ⟨a9, g1, g2⟩ := (slc_news (l := 0) (h := n9) (Rp.now hxr (hb.first (by simp [St.put]))) (by omega) (by omega))
                            rw [hv1] at g1
                            exact ⟨a9, _, g1, g2⟩) (by rw [desV_len]; simp <;> omega) (by rw [maxLen_eq]; omega) (by omega) fun p6 c6 => ?_
                        rw [Nat.zero_add, List.nil_append]
                        simp only [sx, ty, q1, q2, q5, q6, q7, q8, q9, qa, qb, reduceIte, List.append_assoc, List.cons_append, List.nil_append, sy, q3, q4, e0, hhe, hwi]
                        with_reducible refine WC.next (by simp [keptL, boxO]) (by simp) ?_
                        refine WC.one ?_
                        refine WO.append (k := 1) (m := ds.length - (n9 + 1)) (desV (xs.drop (n9 + 1))) (ds := []) rfl rfl rfl rfl rfl rfl rfl ek22 (fun ρ w1 hb => by
                            obtain ⟨a9, g1, g2⟩ := (slc_news (l := n9 + 1) (h := ds.length) (Rp.now hxr (hb.first (by simp [St.put]))) (by omega) (by omega))
                            rw [hv2] at g1
                            rw [List.take_of_length_le (by simp <;> omega)] at g2
                            exact ⟨a9, _, g1, g2⟩) (by rw [desV_len]; simp <;> omega) (desV_one _) (by rw [maxLen_eq]; omega) (by omega) fun p7 c7 => ?_
                        rw [← desV_app]
                        simp only [sx, ty, q1, q2, q5, q6, q7, q8, q9, qa, qb, reduceIte, List.append_assoc, List.cons_append, List.nil_append, sy, q3, q4, e0, hhe, hwi]
                        with_reducible refine WC.next (by simp [keptL, boxO]) (by simp) ?_
                        refine WC.one ?_
                        refine WO.callM (fun x : List Nat × Option Addr × Nat => .tuple #[.slice x.2.1 (ds.length - 1) x.2.2, .slice none 0 0, .bool true, .int .i64 0]) (fun lo x s => w.heap.size ≤ lo ∧ BP (ds.take n9 ++ ds.drop (n9 + 1)) cs h x.1 ∧ rGivs.rd (fun b => lo ≤ b) s [.slice x.2.1 (ds.length - 1) x.2.2] (planL (ds.take n9 ++ ds.drop (n9 + 1)) cs h x.1 (ds.length - 1))) (ds := []) rfl rfl rfl rfl co8 (fun ρ w1 hb => ?_) fun x lo5 s5 hx => ?_
                        · have hm9 : (ds.take n9 ++ ds.drop (n9 + 1)).length = n9 + (ds.length - (n9 + 1)) := by rw [hrl]; omega
                          have e9 : Value.slice p7 (n9 + (ds.length - (n9 + 1))) c7 = Value.slice p7 (ds.take n9 ++ ds.drop (n9 + 1)).length c7 := by rw [hm9]
                          have hrd : rDEs.rd (fun _ => True) w1 [.slice p7 (n9 + (ds.length - (n9 + 1))) c7] (xs.take n9 ++ xs.drop (n9 + 1)) := by
                            exact part_read (S := fun _ => True) (m := (n9 + (ds.length - (n9 + 1)))) hb (k := 1) rfl (fs := (xs.take n9 ++ xs.drop (n9 + 1))) (by rw [List.take_of_length_le (by rw [desV_len]; simp <;> omega)] <;> first | done | (congr 1; rfl)) (by have := congrArg List.length hxrm; simp only [List.length_map] at this; rw [this, hrl]; omega) (Nat.le_refl _) (fun _ _ => trivial)
                          have hq : rDems.rd (fun _ => True) w1 [.slice p7 (n9 + (ds.length - (n9 + 1))) c7] (ds.take n9 ++ ds.drop (n9 + 1)) := by
                            have h8 := Rp.any (close_des hrd (fun z hz => (hxe z (hxsub z hz)).now (hb.first (w0 := w) (by simp [St.put]))))
                            rwa [hxrm] at h8
                          have h9 := plan_yes (p0 := p7) (c0 := c7) (ds := (ds.take n9 ++ ds.drop (n9 + 1))) (hall := h) (by rw [hm9]; exact hq) (Rp.now hl2 (hb.first (by simp [St.put]))) hrv hhr (by omega) (by rw [hrl]; omega) hrM
                          show Gives _ _ #[.slice p7 (n9 + (ds.length - (n9 + 1))) c7, .slice p2 cs.length c2, .int .i64 h] _ _
                          rw [e9]
                          exact h9.mono fun r w9 _ ⟨x, g1, g2, g3⟩ => ⟨x, by rw [← hrl]; exact g1, (hb.at (S := fun _ => True) (s := w) (by simp [St.put])).size, g2, by rw [← hrl]; exact g3⟩
                        obtain ⟨at8, pf, cf⟩ := x
                        obtain ⟨hlo5, hB5, hg5⟩ := hx
                        simp only at hB5 hg5
                        simp only [sx, ty, q1, q2, q5, q6, q7, q8, q9, qa, qb, reduceIte, List.append_assoc, List.cons_append, List.nil_append, sy, q3, q4, e0, hhe, hwi]
                        with_reducible refine WC.next (by simp [keptL, boxO]) (by simp) ?_
                        with_reducible refine WC.nilT ?_
                        simp only [sx, ty, q1, q2, q5, q6, q7, q8, q9, qa, qb, reduceIte, sxt, List.toList_toArray, List.drop_succ_cons, List.drop_zero, sy, q3, q4, e0, hhe, hwi]
                        refine WQ.go 9 (ds := []) rfl ?_
                        simp only [sx, ty, q1, q2, q5, q6, q7, q8, q9, qa, qb, reduceIte, sxq, sy, q3, q4, e0, hhe, hwi]
                        with_reducible refine WQ.nil ?_
                        refine ⟨rfl, by simp [getE, bnd], by simp, _, rfl, fun ρ w1 hb => ⟨_, at8, pf, cf, rfl, hB5, Rp.keep hg5 (hb.at (S := fun b => lo5 ≤ b) (s := s5) (by simp [St.put]))⟩⟩
                    · rintro S9 s9 _ ⟨at8, qg, cg2, rfl, hB5, hg5⟩
                      have hle9 := less_le hn9 hBP hB5
                      have hsg : sumG (planL (ds.take n9 ++ ds.drop (n9 + 1)) cs h at8 (ds.length - 1)) = totL (ds.take n9 ++ ds.drop (n9 + 1)) cs h at8 := by rw [← hrl]; exact sumG_plan _ _ _ _
                      have hgt9 : decide (totL ds cs h at9 < totL (ds.take n9 ++ ds.drop (n9 + 1)) cs h at8) = false := decide_eq_false (by omega)
                      refine W.seqK fun K30 hK30 => ?_
                      refine W.join 223 (.val (.bool false)) [0, 11, 12, 13, 29] (W.region ?_) ?_
                      · skip
                        refine WO.go 13 (ds := [some 207, some 208, some 209, some 210, some 211, some 212, some 213, some 214, some 215, some 216, some 217, some 218, some 219, some 220, some 221, some 222, some 223]) rfl ?_
                        simp only [sx, ty, q1, q2, q5, q6, q7, q8, q9, qa, qb, reduceIte, sy, q3, q4, e0, hhe]
                        refine WO.call (.int .i64 (totL (ds.take n9 ++ ds.drop (n9 + 1)) cs h at8)) (ds := [some 207, some 208, some 209, some 210, some 211, some 212, some 213, some 214, some 215, some 216, some 217, some 218, some 219, some 220, some 221, some 222, some 223]) rfl rfl rfl rfl co17 (fun ρ w1 hb => by
                                                            have h9 := wcost_spec (p := qg) (c := cg2) (gs := planL (ds.take n9 ++ ds.drop (n9 + 1)) cs h at8 (ds.length - 1)) (by rw [planL_len]; exact Rp.keep hg5 (hb.at (S := S9) (s := s9) (by simp [St.put]))) (plan_bound hrv hB5 hrl.symm) (by rw [planL_len]; omega)
                                                            rw [planL_len, hsg] at h9
                                                            exact h9) ?_
                        refine WO.go 3 (ds := [some 207, some 208, some 209, some 210, some 211, some 212, some 213, some 214, some 215, some 216, some 217, some 218, some 219, some 220, some 221, some 222, some 223]) rfl ?_
                        simp only [sx, ty, q1, q2, q5, q6, q7, q8, q9, qa, qb, reduceIte, sy, q3, q4, e0, hhe]
                        with_reducible refine WO.nil ?_
                        refine ⟨rfl, ?_, ⟨_, rfl⟩, by simp [Own.bnd, bndL, bnd, boxO], by simp⟩
                        simp [getE, bnd, keepE, hgt9]
                      · simp only [sx, ty, q1, q2, q5, q6, q7, q8, q9, qa, qb, reduceIte, sxk, sy, q3, q4, e0, hhe]
                        refine W.cond rfl rfl (fun hc => ?_) (fun hc => ?_)
                        · skip
                          simp at hc
                        · skip
                          refine W.skip (hK30 _ ?_)
                          refine W.seqK fun K32 hK32 => ?_
                          refine W.seqK fun K33 hK33 => W.region ?_
                          refine WO.go 1 (ds := []) rfl ?_
                          simp only [sx, ty, q1, q2, q5, q6, q7, q8, q9, qa, qb, reduceIte, sy, q3, q4, e0, hhe]
                          refine WO.call (.bool (validCs (cs ++ [fu]))) (ds := []) rfl rfl rfl rfl co18 (fun ρ w1 hb => rcopies_spec (Rp.keep hmr (hb.at (S := S8) (s := s8) (by simp [St.put])))) ?_
                          refine WO.go 1 (ds := []) rfl ?_
                          simp only [sx, ty, q1, q2, q5, q6, q7, q8, q9, qa, qb, reduceIte, sy, q3, q4, e0, hhe]
                          with_reducible refine WO.nil ?_
                          refine hK33 _ ?_; clear hK33
                          refine W.cond rfl rfl (fun hc => ?_) (fun hc => ?_)
                          · skip
                            refine W.pure (ds := []) rfl fun K34 hK34 => ?_
                            simp only [sx, ty, q1, q2, q5, q6, q7, q8, q9, qa, qb, reduceIte, sy, q3, q4, e0, hhe]; with_reducible refine hK34 _ ?_; clear hK34
                            refine W.ret ⟨by simp, _, rfl, fun ρ w1 hb => ?_⟩
                            rfl
                          · skip
                            have hvc : validCs (cs ++ [fu]) = true := by simpa using hc
                            have hvm := valid_more hv hvc
                            refine W.skip (hK32 _ ?_)
                            refine W.seqK fun K35 hK35 => W.region ?_
                            refine WO.go 3 (ds := []) rfl ?_
                            simp only [sx, ty, q1, q2, q5, q6, q7, q8, q9, qa, qb, reduceIte, sy, q3, q4, e0, hhe]
                            refine WO.callM (fun x : List Nat × Option Addr × Nat => .tuple #[.slice x.2.1 ds.length x.2.2, .slice none 0 0, .bool true, .int .i64 0]) (fun lo x s => w.heap.size ≤ lo ∧ BP ds (cs ++ [fu]) h x.1 ∧ rGivs.rd (fun b => lo ≤ b) s [.slice x.2.1 ds.length x.2.2] (planL ds (cs ++ [fu]) h x.1 ds.length)) (ds := []) rfl rfl rfl rfl co8 (fun ρ w1 hb => ?_) fun x lo7 s7 hx => ?_
                            · have hml : (cs ++ [fu]).length = cs.length + 1 := by simp
                              have h9 := plan_yes (p2 := qm) (c2 := cm) (ds := ds) (cs := cs ++ [fu]) (hall := h) (Rp.now hl (hb.first (by simp [St.put]))) (by rw [hml]; exact (Rp.keep hmr (hb.at (S := S8) (s := s8) (by simp [St.put])))) hvm hhr (by rw [hml]; omega) (by omega) (hm.more fu)
                              have e8 : Value.slice qm (cs.length + 1) cm = Value.slice qm (cs ++ [fu]).length cm := by rw [hml]
                              show Gives _ _ #[.slice p ds.length c, .slice qm (cs.length + 1) cm, .int .i64 h] _ _
                              rw [e8]
                              exact h9.mono fun r w9 _ ⟨x, g1, g2, g3⟩ => ⟨x, g1, (hb.at (S := fun _ => True) (s := w) (by simp [St.put])).size, g2, g3⟩
                            obtain ⟨at7, pw, cw⟩ := x
                            obtain ⟨hlo7, hB7, hg7⟩ := hx
                            simp only at hB7 hg7
                            have hle7 : decide (totL ds (cs ++ [fu]) h at7 ≤ totL ds cs h at9) = true := decide_eq_true (wide_le hBP hB7)
                            refine WO.go 9 (ds := []) rfl ?_
                            simp only [sx, ty, q1, q2, q5, q6, q7, q8, q9, qa, qb, reduceIte, sy, q3, q4, e0, hhe]
                            with_reducible refine WO.nil ?_
                            refine hK35 _ ?_; clear hK35
                            refine W.join 10 (.val (.bool true)) [] (W.region ?_) ?_
                            · skip
                              refine WO.go 10 (ds := [some 237, some 238, some 239, some 240, some 241, some 242, some 243, some 244, some 245, some 246, some 247, some 248, some 249, some 250, some 10]) rfl ?_
                              simp only [sx, ty, q1, q2, q5, q6, q7, q8, q9, qa, qb, reduceIte, sy, q3, q4, e0, hhe]
                              refine WO.call (.int .i64 (totL ds (cs ++ [fu]) h at7)) (ds := [some 237, some 238, some 239, some 240, some 241, some 242, some 243, some 244, some 245, some 246, some 247, some 248, some 249, some 250, some 10]) rfl rfl rfl rfl co17 (fun ρ w1 hb => by
                                                            have h9 := wcost_spec (p := pw) (c := cw) (gs := planL ds (cs ++ [fu]) h at7 ds.length) (by rw [planL_len]; exact Rp.keep hg7 (hb.at (S := fun b => lo7 ≤ b) (s := s7) (by simp [St.put]))) (plan_bound hvm hB7 rfl) (by rw [planL_len]; omega)
                                                            rw [planL_len, sumG_plan] at h9
                                                            exact h9) ?_
                              refine WO.go 4 (ds := [some 237, some 238, some 239, some 240, some 241, some 242, some 243, some 244, some 245, some 246, some 247, some 248, some 249, some 250, some 10]) rfl ?_
                              simp only [sx, ty, q1, q2, q5, q6, q7, q8, q9, qa, qb, reduceIte, sy, q3, q4, e0, hhe]
                              with_reducible refine WO.nil ?_
                              refine ⟨rfl, ?_, ⟨_, rfl⟩, by simp [Own.bnd, bndL, bnd, boxO], by simp⟩
                              simp [getE, bnd, keepE, hle7]
                            · simp only [sx, ty, q1, q2, q5, q6, q7, q8, q9, qa, qb, reduceIte, sxk, sy, q3, q4, e0, hhe]
                              refine W.ret ⟨by simp, _, rfl, fun ρ w1 hb => ?_⟩
                              rfl
end Go.Proofs.YtolmeekbjonbcaaGreat
set_option linter.unusedVariables false
set_option linter.unusedSimpArgs false
set_option maxHeartbeats 400000
namespace Go.Proofs.YtolmeekbjonbcaaGreat
open Int renaming reduceEq → q1, reduceLT → q2, reduceBEq → q3, reduceBNe → q4
open Nat renaming reduceAdd → q5, reduceSub → q6, reduceMul → q7, reduceLT → q8, reduceLeDiff → q9, reduceEqDiff → qa
open List renaming reduceReplicate → qb
open Go Go.SX Go.RowKit
theorem planned_law {S S2 S3 : Nat → Prop} {w : World} {v u : Value} {ces : Array Value} {ds : List Dem} {cs : List Cop} {fu : Cop} (hl : rDems.rd S w [v] ds) (hl2 : rCops.rd S2 w [u] cs) (hall which : Int) (hfu : rCop.rd S3 w ces.toList fu) (hrc : cs.length * 32 ≤ 140737488351232) (hh : 0 ≤ hall ∧ hall ≤ 255) (hw9 : 0 ≤ which ∧ which ≤ 255) : Gives Tryz.prog 4 #[v, u, .int .u8 hall, .agg ces, .int .u8 which] w fun r _ => r = .bool true := by
  by_cases hm : MeetL ds cs
  · exact planned_yes hl hl2 hall which hfu hrc hh hw9 hm
  · exact planned_no hl hl2 hall which hfu hrc hh hw9 hm
end Go.Proofs.YtolmeekbjonbcaaGreat
set_option linter.unusedVariables false
namespace Go.SX
open Go Go.RowKit Go.ChangeShapes Go.WideShapes Go.Deep
section
variable {P : Program}
/-- What reads as type t reads as A. -/
def Cov (P : Program) (t : TypeId) {α : Type} (A : Rp α) : Prop :=
  P.cellsOf t = A.sz ∧ ∀ (H : Type) (enc : TypeId × Value → H) (w : World) (base : Nat) (spare : Nat → Bool) (held : Bool) (fuel : Nat) (cs : List Value) (x : DataW H × List MemPlace), DataW.trod enc P w base spare held fuel t cs = some x → ∃ y, A.rd (fun _ => True) w cs y
theorem Cov.int {t : TypeId} {k : IntKind} (ht : P.underlying t = some (.int k)) (hc : P.cellsOf t = 1) : Cov P t (Rp.int k) :=
  ⟨hc, fun H enc w base spare held fuel cs x h => by
    obtain ⟨n, rfl, _⟩ := DataW.trod_int ht h
    exact ⟨n, rfl⟩⟩
theorem Cov.bool {t : TypeId} (ht : P.underlying t = some .bool) (hc : P.cellsOf t = 1) : Cov P t Rp.bool :=
  ⟨hc, fun H enc w base spare held fuel cs x h => by
    obtain ⟨n, rfl, _⟩ := DataW.trod_bool ht h
    exact ⟨n, rfl⟩⟩
theorem list_of {α : Type} {R : Nat → α → Prop} : ∀ n, (∀ i, i < n → ∃ y, R i y) → ∃ ys : List α, ys.length = n ∧ ∀ i y, ys[i]? = some y → R i y
  | 0, _ => ⟨[], rfl, fun i y h => by simp at h⟩
  | n + 1, h => by
    obtain ⟨ys, h1, h2⟩ := list_of n fun i hi => h i (by omega)
    obtain ⟨y, hy⟩ := h n (by omega)
    refine ⟨ys ++ [y], by simp [h1], fun i z hz => ?_⟩
    rcases Nat.lt_trichotomy i n with hi | hi | hi
    · rw [List.getElem?_append_left (by omega)] at hz; exact h2 i z hz
    · subst hi
      rw [List.getElem?_append_right (by omega), h1] at hz
      simp at hz
      exact hz ▸ hy
    · rw [List.getElem?_eq_none (by simp; omega)] at hz; cases hz
theorem Cov.slice {t e : TypeId} {α : Type} {A : Rp α} (ht : P.underlying t = some (.slice e)) (hc : P.cellsOf t = 1) (hA : Cov P e A) (hpos : 0 < A.sz) : Cov P t (Rp.slice A) :=
  ⟨hc, fun H enc w base spare held fuel cs x h => by
    rcases open_slice ht h with ⟨rfl, _⟩ | ⟨a, len, cap, m, n, D, Pl, rfl, hb, hl, hm, hmm, hx, hi⟩
    · exact ⟨[], none, 0, 0, rfl, rfl, Nat.le_refl _, Nat.zero_le _, .inl rfl⟩
    · have hml : len ≤ m := by rw [hmm]; split <;> omega
      rw [hA.1] at hi
      have key : ∀ i, i < len → ∃ y, ∃ ces, At w (a.add (i * A.sz)) ces ∧ A.rd (fun _ => True) w ces y := fun i him => by
        obtain ⟨cs', hcs, ht'⟩ := hi i (by omega)
        obtain ⟨_, hlen, hat⟩ := World.cells?_some hcs
        obtain ⟨y, hy⟩ := hA.2 H enc w base spare held n cs' _ ht'
        refine ⟨y, cs', fun j v hv => ?_, hy⟩
        have hj := (List.getElem?_eq_some_iff.1 hv).1
        rw [hat j (by omega), hv]
      obtain ⟨ys, h1, h2⟩ := list_of len key
      refine ⟨ys, some a, len, cap, rfl, h1.symm, hl, hm, ?_⟩
      by_cases hz : len = 0
      · left; exact List.eq_nil_of_length_eq_zero (by omega)
      · right
        refine ⟨a, rfl, trivial, ?_, h2⟩
        obtain ⟨cs', hcs, _⟩ := hi 0 (by omega)
        obtain ⟨_, hlen, hat⟩ := World.cells?_some hcs
        have := hat 0 hpos
        rw [List.getElem?_eq_getElem (by omega)] at this
        have h3 := World.block_lt_of_cell? w _ this
        simpa [block_add] using h3⟩
/-- The fields of a struct, from cell o on. -/
def CovF (P : Program) (fs : List Field) (o : Nat) {α : Type} (A : Rp α) : Prop :=
  ∀ (H : Type) (enc : TypeId × Value → H) (w : World) (base : Nat) (spare : Nat → Bool) (held : Bool) (fuel : Nat) (cs : List Value), (∀ f, f ∈ fs → ∃ x, DataW.trod enc P w base spare held fuel f.type ((cs.drop f.offset).take (P.cellsOf f.type)) = some x) → cs.length = o + A.sz → ∃ y, A.rd (fun _ => True) w (cs.drop o) y
theorem CovF.one {f : Field} {o : Nat} {α : Type} {A : Rp α} (ho : f.offset = o) (hA : Cov P f.type A) : CovF P [f] o A := fun H enc w base spare held fuel cs h hl => by
  obtain ⟨x, hx⟩ := h f (by simp)
  rw [ho, hA.1, List.take_of_length_le (by simp; omega)] at hx
  exact hA.2 H enc w base spare held fuel _ x hx
theorem CovF.cons {f : Field} {fs : List Field} {o : Nat} {α β : Type} {A : Rp α} {B : Rp β} (ho : f.offset = o) (hA : Cov P f.type A) (hB : CovF P fs (o + A.sz) B) : CovF P (f :: fs) o (Rp.pair A B) := fun H enc w base spare held fuel cs h hl => by
  obtain ⟨x, hx⟩ := h f (by simp)
  rw [ho, hA.1] at hx
  obtain ⟨y, hy⟩ := hA.2 H enc w base spare held fuel _ x hx
  have hl' : cs.length = o + (A.sz + B.sz) := hl
  obtain ⟨z, hz⟩ := hB H enc w base spare held fuel cs (fun f' hf' => h f' (by simp [hf'])) (by omega)
  refine ⟨(y, z), _, _, ?_, hy, hz⟩
  rw [← List.drop_drop, List.take_append_drop]
theorem Cov.struct {t : TypeId} {fs : List Field} {α : Type} {A : Rp α} (ht : P.underlying t = some (.struct fs.toArray)) (hc : P.cellsOf t = A.sz) (hA : CovF P fs 0 A) : Cov P t A :=
  ⟨hc, fun H enc w base spare held fuel cs x h => by
    obtain ⟨xs, n, _, hx, hlen, hxl, hf⟩ := DataW.trod_struct ht h
    have := hA H enc w base spare held n cs (fun f hfm => ?_) (by omega)
    · simpa using this
    · obtain ⟨i, hi, hfi⟩ := List.getElem_of_mem hfm
      have h1 := hf i f (by simp [← hfi, hi])
      have h2 : i < xs.length := by rw [hxl]; simpa using hi
      rw [List.getElem?_eq_getElem h2] at h1
      exact ⟨_, h1⟩⟩
variable {H : Type} {enc : TypeId × Value → H} {w : World} {base b0 : Nat} {spare : Nat → Bool} {held : Bool} {r : Reach} {v : Value} {d : DataW H} {ps : List MemPlace}
theorem open_sl {t e : TypeId} {α : Type} {A : Rp α} (ht : P.underlying t = some (.slice e)) (hA : Cov P t (Rp.slice A)) (hval : Value.okWide P w r b0 t v) (hd : DataW.Trod enc P w base spare held t v d ps) : ∃ y, (Rp.slice A).rd (fun _ => True) w [v] y := by
  obtain ⟨a, len, cap, rfl⟩ := okWide_slice ht hval
  obtain ⟨fuel, hf⟩ := hd
  exact hA.2 H enc w base spare held fuel _ _ hf
theorem open_agg {t : TypeId} {fs : Array Field} {α : Type} {A : Rp α} (ht : P.underlying t = some (.struct fs)) (hA : Cov P t A) (hval : Value.okWide P w r b0 t v) (hd : DataW.Trod enc P w base spare held t v d ps) : ∃ cs y, v = .agg cs ∧ A.rd (fun _ => True) w cs.toList y := by
  obtain ⟨cs, rfl, _⟩ := okWide_struct ht hval
  obtain ⟨fuel, hf⟩ := hd
  obtain ⟨y, hy⟩ := hA.2 H enc w base spare held fuel _ _ hf
  exact ⟨cs, y, rfl, hy⟩
/-- All arguments read as they did. -/
theorem trodAll_below {W W' : World} (hl : laidOutB P = true) (hb : Below W.heap.size W W') : ∀ {ts : List TypeId} {vs : List Value} {ds : List (DataW H)} {ps : List MemPlace}, (∀ t, t ∈ ts → P.readableRec t = true ∧ t < P.types.size) → (∀ x, x ∈ ps → x.block < W.heap.size) →
    DataW.TrodAll enc P W 0 (fun _ => true) true ts vs ds ps → ∀ sp : Nat → Bool, (∀ p ∈ ps, sp p.block = true) → DataW.TrodAll enc P W' 0 sp true ts vs ds ps
  | [], [], [], ps, _, _, h, sp, hsp => h
  | [], _ :: _, _, _, _, _, h, _, _ => h.elim
  | [], [], _ :: _, _, _, _, h, _, _ => h.elim
  | _ :: _, [], _, _, _, _, h, _, _ => h.elim
  | _ :: _, _ :: _, [], _, _, _, h, _, _ => h.elim
  | t :: ts, v :: vs, d :: ds, ps, hr, hlt, h, sp, hsp => by
    obtain ⟨p, q, h1, h2, rfl⟩ := h
    exact ⟨p, q, WideElems.Trod_stays hl (hr t (by simp)).1 (hr t (by simp)).2 h1 (fun x hx => hb.same (hlt x (by simp [hx]))) (fun x hx => hsp x (by simp [hx])),
      trodAll_below hl hb (fun t' ht' => hr t' (by simp [ht'])) (fun x hx => hlt x (by simp [hx])) h2 sp (fun x hx => hsp x (by simp [hx])), rfl⟩
/-- The closing of a law that answers true and leaves old memory alone. -/
theorem law_post {f : Func} {s : ChangeSpec} {apart fresh handsOn : Bool} {W W' : World} {args : Array Value} {ds gs : List (DataW H)} {before : List MemPlace} {tb : TypeId} (hl : laidOutB P = true)
    (hW : DataW.Whole enc P f.params.toList s.vars apart W args.toList ds gs before) (hb : Below W.heap.size W W') (hvs : s.vars = []) (hts : ∀ t, t ∈ f.params.toList → P.readableRec t = true ∧ t < P.types.size)
    (hrt : f.resultTypes = #[tb]) (htb : P.underlying tb = some .bool) (hr : (s.fn H (ds ++ gs)).results = [.lit (.bool true)]) (ha : (s.fn H (ds ++ gs)).args = ds) (hv : (s.fn H (ds ++ gs)).vars = []) :
    s.post enc P f apart fresh handsOn false W args (.bool true) W' := by
  have hlt := hW.lt
  have hW' := hW
  obtain ⟨p, q, hA, hV, rfl, _, _⟩ := hW
  rw [hvs] at hV
  refine ⟨ds, gs, p ++ q, [], p, [], hW', ?_, ?_, ?_, hb.frame _, fun h => by cases h⟩
  · rw [hr, hrt]
    exact trodAll_cons_mk (shut_bool htb _) trodAll_mk0
  · rw [ha]
    exact trodAll_below hl hb hts (fun x hx => hlt x (by simp [hx])) hA _ fun x hx => by simpa using hlt x (by simp [hx])
  · rw [hv, hvs]; rfl
end
end Go.SX
set_option linter.unusedVariables false
namespace Go.Proofs.YtolmeekbjonbcaaGreat
open Go Go.SX Go.ChangeShapes Go.WideShapes Go.ChangeAt Go.RowKit Go.Deep
theorem ownNone : ownKnob Tryz.prog.godebug = none := by kernel_rfl
theorem laidOut : laidOutB Tryz.prog = true := by kernel_rfl
theorem rr5 : Tryz.prog.readableRec 5 = true ∧ 5 < Tryz.prog.types.size := ⟨by kernel_rfl, of_decide_eq_true (by kernel_rfl)⟩
theorem rr22 : Tryz.prog.readableRec 22 = true ∧ 22 < Tryz.prog.types.size := ⟨by kernel_rfl, of_decide_eq_true (by kernel_rfl)⟩
theorem rr23 : Tryz.prog.readableRec 23 = true ∧ 23 < Tryz.prog.types.size := ⟨by kernel_rfl, of_decide_eq_true (by kernel_rfl)⟩
theorem rr45 : Tryz.prog.readableRec 45 = true ∧ 45 < Tryz.prog.types.size := ⟨by kernel_rfl, of_decide_eq_true (by kernel_rfl)⟩
theorem cov3 : Go.SX.Cov Tryz.prog 3 (Rp.int .i64) := Go.SX.Cov.int Tryz.underlying3 (by kernel_rfl)
theorem cov27 : Go.SX.Cov Tryz.prog 27 (Rp.slice (Rp.int .i64)) := Go.SX.Cov.slice Tryz.underlying27 (by kernel_rfl) cov3 (by decide)
theorem cov41 : Go.SX.Cov Tryz.prog 41 (Rp.pair (Rp.int .i64) (Rp.pair (Rp.int .i64) (Rp.pair (Rp.int .i64) (Rp.slice (Rp.int .i64))))) := Go.SX.Cov.struct (fs := _) Tryz.underlying41 (by kernel_rfl) (CovF.cons rfl cov3 (CovF.cons rfl cov3 (CovF.cons rfl cov3 (CovF.one rfl cov27))))
theorem cov22 : Go.SX.Cov Tryz.prog 22 (Rp.slice (Rp.pair (Rp.int .i64) (Rp.pair (Rp.int .i64) (Rp.pair (Rp.int .i64) (Rp.slice (Rp.int .i64)))))) := Go.SX.Cov.slice Tryz.underlying22 (by kernel_rfl) cov41 (by decide)
theorem cov45 : Go.SX.Cov Tryz.prog 45 (Rp.pair (Rp.int .i64) (Rp.pair (Rp.int .i64) (Rp.pair (Rp.int .i64) (Rp.int .i64)))) := Go.SX.Cov.struct (fs := _) Tryz.underlying45 (by kernel_rfl) (CovF.cons rfl cov3 (CovF.cons rfl cov3 (CovF.cons rfl cov3 (CovF.one rfl cov3))))
theorem cov23 : Go.SX.Cov Tryz.prog 23 (Rp.slice (Rp.pair (Rp.int .i64) (Rp.pair (Rp.int .i64) (Rp.pair (Rp.int .i64) (Rp.int .i64))))) := Go.SX.Cov.slice Tryz.underlying23 (by kernel_rfl) cov45 (by decide)
set_option maxRecDepth 100000 in
theorem topPlanned_contract (H : Type) (enc : TypeId × Value → H) (W : World) (base : Nat) (args : Array Value) (ds gs : List (DataW H)) (before : List MemPlace)
    (hval : ∀ (j : Nat) t v, Tryz.f4.params[j]? = some t → args[j]? = some v → Value.okWide Tryz.prog W .any base t v)
    (hW : DataW.Whole enc Tryz.prog Tryz.f4.params.toList Rows.topPlannedSpec.vars false W args.toList ds gs before) (hsz : (DataW.weightsEach Tryz.prog (Tryz.f4.params.toList ++ Rows.topPlannedSpec.plain.varTypes Tryz.prog) (ds ++ gs)).all (· ≤ reachBytes) = true) :
    Calls Tryz.prog 4 args W fun e W' => ∃ v, e = .returned v ∧ Rows.topPlannedSpec.post enc Tryz.prog Tryz.f4 false true false false W args v W' := by
  have hW' := hW
  obtain ⟨p, q, hA0, hV, rfl, hfz, hnd⟩ := hW
  have hA : DataW.TrodAll enc Tryz.prog W 0 (fun _ => true) true Tryz.f4.params.toList args.toList ds p := hA0
  rw [Tryz.params4] at hA hval
  obtain ⟨v0, vs0, d0, ds0, p0, q0, hargs, rfl, rfl, h0, r0⟩ := trodAll_cons hA
  obtain ⟨v1, vs1, d1, ds1, p1, q1, rfl, rfl, rfl, h1, r1⟩ := trodAll_cons r0
  obtain ⟨v2, vs2, d2, ds2, p2, q2, rfl, rfl, rfl, h2, r2⟩ := trodAll_cons r1
  obtain ⟨v3, vs3, d3, ds3, p3, q3, rfl, rfl, rfl, h3, r3⟩ := trodAll_cons r2
  obtain ⟨v4, vs4, d4, ds4, p4, q4, rfl, rfl, rfl, h4, r4⟩ := trodAll_cons r3
  obtain ⟨rfl, rfl, rfl⟩ := trodAll_nil r4
  obtain rfl : args = #[v0, v1, v2, v3, v4] := by cases args; simp_all
  obtain ⟨rfl, rfl⟩ := trodVars_none hV
  obtain ⟨x0, hx0⟩ := open_sl (A := (Rp.pair (Rp.int .i64) (Rp.pair (Rp.int .i64) (Rp.pair (Rp.int .i64) (Rp.slice (Rp.int .i64)))))) Tryz.underlying22 cov22 (hval 0 22 v0 rfl rfl) h0
  obtain ⟨x1, hx1⟩ := open_sl (A := (Rp.pair (Rp.int .i64) (Rp.pair (Rp.int .i64) (Rp.pair (Rp.int .i64) (Rp.int .i64))))) Tryz.underlying23 cov23 (hval 1 23 v1 rfl rfl) h1
  obtain ⟨x2, rfl, rfl, rfl, hx2⟩ := open_int Tryz.underlying5 (hval 2 5 v2 rfl rfl) h2
  obtain ⟨c3, x3, rfl, hx3⟩ := open_agg Tryz.underlying45 cov45 (hval 3 45 v3 rfl rfl) h3
  obtain ⟨x4, rfl, rfl, rfl, hx4⟩ := open_int Tryz.underlying5 (hval 4 5 v4 rfl rfl) h4
  have hrc : x1.length * 32 ≤ 140737488351232 := by
    obtain ⟨fuel, hf⟩ := h1
    obtain ⟨a9, c9, rfl, _, _⟩ := Rp.slice_val hx1
    rcases DataW.trod_slice Tryz.underlying23 hf with ⟨g1, _⟩ | ⟨a, len, cap, elems, rest, n, _, g1, g2, _, _, _, g3, _⟩
    · simp [Value.cells] at g1
      rw [g1.2.1]; simp
    · simp [Value.cells] at g1
      simp only [Prod.mk.injEq] at g2
      obtain ⟨rfl, _⟩ := g2
      have g4 := sized_slice hsz (j := 1) (t := 23) (e := 45) (by kernel_rfl) rfl Tryz.underlying23
      rw [show Tryz.prog.bytesOf 45 = 32 by kernel_rfl, show reachBytes = 140737488351232 by decide, List.length_map, List.length_map, g3, ← g1.2.1, Nat.add_mul] at g4
      omega
  refine Calls.mono (planned_law hx0 hx1 x2 x4 hx3 hrc (u8_range hx2) (u8_range hx4)) fun e W' ⟨v, he, hb, hv⟩ => ?_
  subst he; subst hv
  exact ⟨_, rfl, law_post laidOut hW' hb rfl (by rw [Tryz.params4]; simp only [List.mem_cons, List.not_mem_nil, or_false]; rintro t (rfl | rfl | rfl | rfl | rfl) <;> first | exact rr22 | exact rr23 | exact rr5 | exact rr45) rfl Tryz.underlying4 rfl rfl rfl⟩
set_option maxRecDepth 100000 in
theorem topPlanned_lifted (os : Os) (started : os.Started) (H : Type) (enc : TypeId × Value → H) :
    ReturnsInHanded {} Tryz.checked os 4 .any (Rows.topPlannedSpec.pre6 enc Tryz.prog Tryz.f4 Rows.topPlannedRow.domain false) (Rows.topPlannedSpec.post enc Tryz.prog Tryz.f4 false true false false) := by
  refine returnsInHanded_of_change_sized (C := Tryz.checked) ownNone started (by kernel_rfl) Tryz.func4
    (ChangeSpec.witness6 (enc := enc) (C := Tryz.checked) false ⟨#[], #[.slice none 0 0, .slice none 0 0, .int .u8 0, .agg #[.int .i64 0, .int .i64 0, .int .i64 0, .int .i64 0], .int .u8 0], []⟩ 8 (by kernel_rfl) (by kernel_rfl) (by kernel_rfl) (by kernel_rfl)) ?_
  intro W base args ds gs before hval hW _ hsz _
  exact topPlanned_contract H enc W base args ds gs before hval hW hsz
theorem topPlanned_holds : Rows.TopPlannedSaid :=
  OpenClaim.holds_of_wide 4 Tryz.f4 rfl rfl rfl rfl rfl rfl rfl ⟨rfl, rfl, rfl, rfl, rfl⟩ rfl rfl rfl rfl rfl (by kernel_rfl) Tryz.func4 (by kernel_rfl)
    (of_decide_eq_true (by kernel_rfl)) (by unfold Func.isWrapper; first | (rw [if_pos (by decide +kernel)]; kernel_rfl) | (rw [if_neg (by decide +kernel)]; exact ⟨rfl, rfl⟩))
    (fun os started H enc _ => topPlanned_lifted os started H enc)
end Go.Proofs.YtolmeekbjonbcaaGreat
