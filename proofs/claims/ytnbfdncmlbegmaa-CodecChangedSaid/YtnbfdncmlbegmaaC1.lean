/-
  Codec: the bytes of integers, lists compared: walks.
-/
import Derived.Test.YtnbfdncmlbegmaaPlainB
set_option linter.unusedVariables false
set_option linter.unusedSimpArgs false
set_option maxHeartbeats 1000000
namespace Go.Proofs.Ytnbfdncmlbegmaa
open Go Go.SX Go.RowKit
/-- function 33 -/
theorem number_spec (w : World) {n : Int} (hn : isI n) : Gives Try.prog 33 #[.int .i64 n] w fun r _ => r = .int .u64 (zig n) := by
  refine gives_of [.val (.int .i64 n)] 10 [.tmp 2] Try.func33 rfl rfl rfl (by simp) rfl rfl ?_
  refine W.pure (ds := []) rfl fun K1 hK1 => ?_
  simp only [sx, ty, Bool.false_eq_true, Int.reduceEq, Int.reduceLT, Nat.reduceAdd, Nat.reduceSub, Nat.reduceMul, Nat.reduceLT, Nat.reduceLeDiff, Nat.reduceEqDiff, List.reduceReplicate, reduceIte, beq_self_eq_true, bne_self_eq_false, Int.reduceBEq, Int.reduceBNe, Bool.or_false, Bool.false_or, Bool.not_false, Bool.not_true, IntKind.bits, Int.reduceToNat, Nat.min_def, Int.reducePow, Int.toNat_natCast]; with_reducible refine hK1 _ ?_; clear hK1
  refine W.pure (ds := []) rfl fun K2 hK2 => ?_
  simp only [sx, ty, Bool.false_eq_true, Int.reduceEq, Int.reduceLT, Nat.reduceAdd, Nat.reduceSub, Nat.reduceMul, Nat.reduceLT, Nat.reduceLeDiff, Nat.reduceEqDiff, List.reduceReplicate, reduceIte, beq_self_eq_true, bne_self_eq_false, Int.reduceBEq, Int.reduceBNe, Bool.or_false, Bool.false_or, Bool.not_false, Bool.not_true, IntKind.bits, Int.reduceToNat, Nat.min_def, Int.reducePow, Int.toNat_natCast]; with_reducible refine hK2 _ ?_; clear hK2
  refine W.ret ⟨by simp, _, rfl, fun ρ w1 hb => ?_⟩
  simp only [den]
  exact congrArg (Value.int .u64) (zig_code hn)

theorem bytes_read {S : Nat → Prop} {w : World} (xs : List Int) : ∀ i y, xs[i]? = some y → rByte.rd S w (((xs.map (Value.int .u8)).drop (i * rByte.sz)).take rByte.sz) y := fun i y hy => by
  have h : i < xs.length := (List.getElem?_eq_some_iff.1 hy).1
  show ((xs.map (Value.int .u8)).drop (i * 1)).take 1 = [.int .u8 y]
  rw [Nat.mul_one, List.drop_eq_getElem_cons (by simpa using h), List.take_succ_cons, List.take_zero]
  simp only [List.getElem_map, List.cons.injEq, and_true, Value.int.injEq, true_and]
  rw [List.getElem?_eq_getElem h] at hy
  exact Option.some.inj hy
theorem ints_read {S : Nat → Prop} {w : World} (xs : List Int) : ∀ i y, xs[i]? = some y → rInt.rd S w (((xs.map (Value.int .i64)).drop (i * rInt.sz)).take rInt.sz) y := fun i y hy => by
  have h : i < xs.length := (List.getElem?_eq_some_iff.1 hy).1
  show ((xs.map (Value.int .i64)).drop (i * 1)).take 1 = [.int .i64 y]
  rw [Nat.mul_one, List.drop_eq_getElem_cons (by simpa using h), List.take_succ_cons, List.take_zero]
  simp only [List.getElem_map, List.cons.injEq, and_true, Value.int.injEq, true_and]
  rw [List.getElem?_eq_getElem h] at hy
  exact Option.some.inj hy
theorem mbits : (min 1 IntKind.u64.bits = 1) ∧ (min 7 IntKind.u64.bits = 7) ∧ (min 63 IntKind.i64.bits = 63) ∧ (min 16 IntKind.i64.bits = 16) ∧ (min 8 IntKind.i64.bits = 8) := ⟨rfl, rfl, rfl, rfl, rfl⟩
theorem leb_last {f : Nat} {u : Int} (h : u < 128) : leb f u = [u] := by cases f with
  | zero => rfl
  | succ f => rw [leb, if_pos h]
theorem leb_more {f : Nat} {u : Int} (h : ¬ u < 128) : leb (f + 1) u = (u % 128 + 128) :: leb f (u / 128) := by rw [leb, if_neg h]
/-- a loop that writes a number's bytes: so many more, at most -/
def LebI (n : Int) (f : Nat) (u : Int) (l : List Int) : Prop := oneF n = l ++ leb f u ∧ 0 ≤ u ∧ u < 2 * 128 ^ f ∧ l.length + f ≤ 9
theorem LebI.start {n : Int} (h : isI n) : LebI n 9 (zig n) [] := by
  have := zig_range h
  refine ⟨rfl, this.1, ?_, by simp⟩
  rw [show (2 : Int) * 128 ^ 9 = 18446744073709551616 by decide]; exact this.2
theorem LebI.small {n u : Int} {f : Nat} {l : List Int} (h : LebI n f u l) : u < 18446744073709551616 := by
  have h1 : (128 : Int) ^ f ≤ 128 ^ 9 := by
    have : (128 : Nat) ^ f ≤ 128 ^ 9 := Nat.pow_le_pow_right (by decide) (by have := h.2.2.2; omega)
    exact_mod_cast this
  have h2 := h.2.2.1
  have h3 : (128 : Int) ^ 9 = 9223372036854775808 := by decide
  omega
theorem LebI.more {n u : Int} {f : Nat} {l : List Int} (h : LebI n f u l) (hu : ¬ u < 128) : ∃ g, f = g + 1 ∧ LebI n g (u / 128) (l ++ [u % 128 + 128]) := by
  cases f with
  | zero => have := h.2.2.1; simp at this; omega
  | succ g =>
    refine ⟨g, rfl, ?_, by have := h.2.1; omega, ?_, by have := h.2.2.2; simp; omega⟩
    · rw [h.1, leb_more hu, List.append_assoc]; rfl
    · have := h.2.2.1
      rw [Int.pow_succ, ← Int.mul_assoc] at this
      exact Int.ediv_lt_of_lt_mul (by decide) this
theorem tmod_nn {a b : Int} (h : 0 ≤ a) : a.tmod b = a % b := Int.tmod_eq_emod_of_nonneg h
theorem tdiv_nn {a b : Int} (h : 0 ≤ a) : a.tdiv b = a / b := Int.tdiv_eq_ediv_of_nonneg h
theorem fdiv_nn {a b : Int} (h : 0 ≤ b) : a.fdiv b = a / b := Int.fdiv_eq_ediv_of_nonneg a h

def OB (l : List Int) (x : Option Addr × Nat) : SX.Own := .slice 5 1 (.slice x.1 l.length x.2) l.length (l.map (.int .u8))
def NewO (w w' : World) (o : SX.Own) : Prop := o.holds (fun _ => 0) 0 w' ∧ ∀ b, o.num (fun _ => 0) 0 = some b → w.heap.size ≤ b
theorem OB_rd {w w' : World} {l : List Int} {x : Option Addr × Nat} (h : NewO w w' (OB l x)) : rBytes.rd (fun b => w.heap.size ≤ b) w' [.slice x.1 l.length x.2] l := by
  have hb : Base (fun _ => 0) ⟨0, [], [OB l x], [], []⟩ w' := ⟨fun k o hk ρ' _ => by
      cases k with
      | zero => simp only [List.getElem?_cons_zero, Option.some.injEq] at hk; subst hk; exact freeO_holds rfl h.1
      | succ k => simp at hk, fun i j oi oj b hi hj _ _ => by
      have h1 := (List.getElem?_eq_some_iff.1 hi).1
      have h2 := (List.getElem?_eq_some_iff.1 hj).1
      simp at h1 h2; omega, fun p hp => by cases hp⟩
  exact own_slice (A := rByte) (k := 0) (xs := l.map (.int .u8)) hb rfl rfl (fun b hb' => h.2 b hb') (bytes_read l)
theorem new_own {ρ : Nat → Nat} {σ : St} {w w0 : World} {k : Nat} {o : SX.Own} (hb : Base ρ σ w) (hm : ((fun _ => True), w0) ∈ σ.snaps) (hk : nth σ.own k = some o) (hf : freeO o = true) : NewO w0 w o := by
  have hk' := hk
  rw [nth_eq] at hk'
  exact ⟨freeO_holds hf (hb.own k o hk' ρ (Agree.refl _ _)), fun b hn => own_new hb hm hk (by rw [freeO_num hf ρ (fun _ => 0) k 0]; exact hn)⟩
/-- function 24 -/
theorem one_spec (w : World) {n : Int} (hn : isI n) : Gives Try.prog 24 #[.int .i64 n] w fun r w' =>
    ∃ x : Option Addr × Nat, r = .slice x.1 (oneF n).length x.2 ∧ NewO w w' (OB (oneF n) x) := by
  refine gives_of [.val (.int .i64 n)] 32 [.tmp 2] Try.func24 rfl rfl rfl (by simp) rfl rfl ?_
  refine W.pure (ds := []) rfl fun K1 hK1 => ?_
  simp only [sx, ty, Bool.false_eq_true, Int.reduceEq, Int.reduceLT, Nat.reduceAdd, Nat.reduceSub, Nat.reduceMul, Nat.reduceLT, Nat.reduceLeDiff, Nat.reduceEqDiff, List.reduceReplicate, reduceIte, beq_self_eq_true, bne_self_eq_false, Int.reduceBEq, Int.reduceBNe, Bool.or_false, Bool.false_or, Bool.not_false, Bool.not_true, IntKind.bits, Int.reduceToNat, Nat.min_def, Int.reducePow, Int.toNat_natCast]; with_reducible refine hK1 _ ?_; clear hK1
  refine W.pure (ds := []) rfl fun K2 hK2 => ?_
  simp only [sx, ty, Bool.false_eq_true, Int.reduceEq, Int.reduceLT, Nat.reduceAdd, Nat.reduceSub, Nat.reduceMul, Nat.reduceLT, Nat.reduceLeDiff, Nat.reduceEqDiff, List.reduceReplicate, reduceIte, beq_self_eq_true, bne_self_eq_false, Int.reduceBEq, Int.reduceBNe, Bool.or_false, Bool.false_or, Bool.not_false, Bool.not_true, IntKind.bits, Int.reduceToNat, Nat.min_def, Int.reducePow, Int.toNat_natCast]; with_reducible refine hK2 _ ?_; clear hK2
  refine W.seqK fun K3 hK3 => ?_
  refine W.pure (ds := []) rfl fun K4 hK4 => ?_
  simp only [sx, ty, Bool.false_eq_true, Int.reduceEq, Int.reduceLT, Nat.reduceAdd, Nat.reduceSub, Nat.reduceMul, Nat.reduceLT, Nat.reduceLeDiff, Nat.reduceEqDiff, List.reduceReplicate, reduceIte, beq_self_eq_true, bne_self_eq_false, Int.reduceBEq, Int.reduceBNe, Bool.or_false, Bool.false_or, Bool.not_false, Bool.not_true, IntKind.bits, Int.reduceToNat, Nat.min_def, Int.reducePow, Int.toNat_natCast]; with_reducible refine hK4 _ ?_; clear hK4
  refine W.cond rfl rfl (fun hc => ?_) (fun hc => ?_)
  · skip
    have hz1 : IntKind.u64.wrap (IntKind.u64.wrap (2 * IntKind.u64.wrap (IntKind.i64.wrap (0 - IntKind.i64.wrap (n + 1)))) + 1) = zig n := by
      have hn0 : n < 0 := by simpa using hc
      unfold isI at hn
      rw [wrap_id (x := n + 1) (by omega) (by omega), wrap_id (x := 0 - (n + 1)) (by omega) (by omega), u64_wrap, u64_wrap, u64_wrap]; unfold zig; rw [if_neg (by omega)]; omega
    refine W.region ?_
    refine WO.go 7 (ds := []) rfl ?_
    simp only [sx, ty, Bool.false_eq_true, Int.reduceEq, Int.reduceLT, Nat.reduceAdd, Nat.reduceSub, Nat.reduceMul, Nat.reduceLT, Nat.reduceLeDiff, Nat.reduceEqDiff, List.reduceReplicate, reduceIte, beq_self_eq_true, bne_self_eq_false, Int.reduceBEq, Int.reduceBNe, Bool.or_false, Bool.false_or, Bool.not_false, Bool.not_true, IntKind.bits, Int.reduceToNat, Nat.min_def, Int.reducePow, Int.toNat_natCast]
    with_reducible refine WO.nil ?_
    refine hK3 _ ?_
    refine W.pure (ds := []) rfl fun K5 hK5 => ?_
    simp only [sx, ty, Bool.false_eq_true, Int.reduceEq, Int.reduceLT, Nat.reduceAdd, Nat.reduceSub, Nat.reduceMul, Nat.reduceLT, Nat.reduceLeDiff, Nat.reduceEqDiff, List.reduceReplicate, reduceIte, beq_self_eq_true, bne_self_eq_false, Int.reduceBEq, Int.reduceBNe, Bool.or_false, Bool.false_or, Bool.not_false, Bool.not_true, IntKind.bits, Int.reduceToNat, Nat.min_def, Int.reducePow, Int.toNat_natCast]; with_reducible refine hK5 _ ?_; clear hK5
    refine W.seqK fun K6 hK6 => ?_
    refine W.block ?_
    simp only [hz1]
    refine W.ownNil 5 1 ?_
    simp only [sx, ty, Bool.false_eq_true, Int.reduceEq, Int.reduceLT, Nat.reduceAdd, Nat.reduceSub, Nat.reduceMul, Nat.reduceLT, Nat.reduceLeDiff, Nat.reduceEqDiff, List.reduceReplicate, reduceIte]
    refine W.loopO (X := Nat × Int × List Int × Option Addr × Nat) [] (fun x => [(3, .val (.int .u64 x.2.1)), (4, .val (.slice x.2.2.2.1 x.2.2.1.length x.2.2.2.2))]) (fun x => [.slice 5 1 (.slice x.2.2.2.1 x.2.2.1.length x.2.2.2.2) x.2.2.1.length (x.2.2.1.map (.int .u8))]) (fun x => [((fun _ => True), w)]) (fun x => LebI n x.1 x.2.1 x.2.2.1) (fun x => x.1) (9, zig n, [], none, 0) ?_ ?_ ?_
    · exact ⟨rfl, by simp [getE, bnd, keepE], ⟨[], by simp⟩, by simp [Own.bnd, bndL, bnd, boxO], by simp⟩
    · skip
      exact LebI.start hn
    · rintro ⟨f, u, l, p3, c3⟩ hI
      simp only at hI
      have hu0 := hI.2.1
      have hu1 := hI.small
      have hl9 := hI.2.2.2
      simp only [sx, ty, Bool.false_eq_true, Int.reduceEq, Int.reduceLT, Nat.reduceAdd, Nat.reduceSub, Nat.reduceMul, Nat.reduceLT, Nat.reduceLeDiff, Nat.reduceEqDiff, List.reduceReplicate, reduceIte, sxk, beq_self_eq_true, bne_self_eq_false, Int.reduceBEq, Int.reduceBNe, Bool.or_false, Bool.false_or, Bool.not_false, Bool.not_true, IntKind.bits, Int.reduceToNat, Nat.min_def, Int.reducePow, Int.toNat_natCast]
      refine W.seqK fun K7 hK7 => ?_
      refine W.pure (ds := []) rfl fun K8 hK8 => ?_
      simp only [sx, ty, Bool.false_eq_true, Int.reduceEq, Int.reduceLT, Nat.reduceAdd, Nat.reduceSub, Nat.reduceMul, Nat.reduceLT, Nat.reduceLeDiff, Nat.reduceEqDiff, List.reduceReplicate, reduceIte, beq_self_eq_true, bne_self_eq_false, Int.reduceBEq, Int.reduceBNe, Bool.or_false, Bool.false_or, Bool.not_false, Bool.not_true, IntKind.bits, Int.reduceToNat, Nat.min_def, Int.reducePow, Int.toNat_natCast]; with_reducible refine hK8 _ ?_; clear hK8
      refine W.cond rfl rfl (fun hc => ?_) (fun hc => ?_)
      · skip
        have hu : ¬ u < 128 := by simp at hc; omega
        obtain ⟨g, rfl, hI2⟩ := hI.more hu
        have hb1 : IntKind.u8.wrap (IntKind.u8.wrap (u.tmod 128) + 128) = u % 128 + 128 := by rw [tmod_nn hu0, u8_wrap, u8_wrap]; omega
        have hstep : IntKind.u64.wrap (u.tdiv 128) = u / 128 := by rw [tdiv_nn hu0, u64_wrap]; omega
        refine W.skip (hK7 _ ?_)
        refine W.block ?_
        refine W.seqK fun K9 hK9 => W.region ?_
        refine WO.go 6 (ds := []) rfl ?_
        simp only [sx, ty, Bool.false_eq_true, Int.reduceEq, Int.reduceLT, Nat.reduceAdd, Nat.reduceSub, Nat.reduceMul, Nat.reduceLT, Nat.reduceLeDiff, Nat.reduceEqDiff, List.reduceReplicate, reduceIte, beq_self_eq_true, bne_self_eq_false, Int.reduceBEq, Int.reduceBNe, Bool.or_false, Bool.false_or, Bool.not_false, Bool.not_true, IntKind.bits, Int.reduceToNat, Nat.min_def, Int.reducePow, Int.toNat_natCast, hb1]
        refine WO.append (k := 0) (m := 1) [.int .u8 (u % 128 + 128)] (ds := []) rfl rfl rfl rfl rfl rfl rfl ek23 (news_own (k2 := 1) rfl fun _ => rfl) rfl (by simp [Value.oneCell']) (by rw [maxLen_eq]; omega) (by omega) fun p6 c6 => ?_
        refine WO.go 1 (ds := []) rfl ?_
        simp only [sx, ty, Bool.false_eq_true, Int.reduceEq, Int.reduceLT, Nat.reduceAdd, Nat.reduceSub, Nat.reduceMul, Nat.reduceLT, Nat.reduceLeDiff, Nat.reduceEqDiff, List.reduceReplicate, reduceIte, beq_self_eq_true, bne_self_eq_false, Int.reduceBEq, Int.reduceBNe, Bool.or_false, Bool.false_or, Bool.not_false, Bool.not_true, IntKind.bits, Int.reduceToNat, Nat.min_def, Int.reducePow, Int.toNat_natCast, hb1]
        with_reducible refine WO.nil ?_
        refine hK9 _ ?_; clear hK9
        refine W.region ?_
        refine WO.go 3 (ds := []) rfl ?_
        simp only [sx, ty, Bool.false_eq_true, Int.reduceEq, Int.reduceLT, Nat.reduceAdd, Nat.reduceSub, Nat.reduceMul, Nat.reduceLT, Nat.reduceLeDiff, Nat.reduceEqDiff, List.reduceReplicate, reduceIte, beq_self_eq_true, bne_self_eq_false, Int.reduceBEq, Int.reduceBNe, Bool.or_false, Bool.false_or, Bool.not_false, Bool.not_true, IntKind.bits, Int.reduceToNat, Nat.min_def, Int.reducePow, Int.toNat_natCast, hb1]
        with_reducible refine WO.nil ?_
        refine ⟨(g, u / 128, l ++ [u % 128 + 128], p6, c6), hI2, by simp only; omega, rfl, by simp [getE, bnd, keepE, hstep], ⟨[.cells 5 [.val (.int .u8 (u % 128 + 128))]], by simp⟩, by simp [Own.bnd, bndL, bnd], by simp⟩
      · skip
        have hu : u < 128 := by simp at hc; omega
        have hfin : oneF n = l ++ [u] := by rw [hI.1, leb_last hu]
        have hb2 : IntKind.u8.wrap u = u := by rw [u8_wrap]; omega
        refine W.exit (hK6 _ ?_)
        refine W.seqK fun K10 hK10 => W.region ?_
        refine WO.go 4 (ds := []) rfl ?_
        simp only [sx, ty, Bool.false_eq_true, Int.reduceEq, Int.reduceLT, Nat.reduceAdd, Nat.reduceSub, Nat.reduceMul, Nat.reduceLT, Nat.reduceLeDiff, Nat.reduceEqDiff, List.reduceReplicate, reduceIte, beq_self_eq_true, bne_self_eq_false, Int.reduceBEq, Int.reduceBNe, Bool.or_false, Bool.false_or, Bool.not_false, Bool.not_true, IntKind.bits, Int.reduceToNat, Nat.min_def, Int.reducePow, Int.toNat_natCast, hb2]
        refine WO.append (k := 0) (m := 1) [.int .u8 u] (ds := []) rfl rfl rfl rfl rfl rfl rfl ek23 (news_own (k2 := 1) rfl fun _ => rfl) rfl (by simp [Value.oneCell']) (by rw [maxLen_eq]; omega) (by omega) fun p6 c6 => ?_
        refine WO.go 1 (ds := []) rfl ?_
        simp only [sx, ty, Bool.false_eq_true, Int.reduceEq, Int.reduceLT, Nat.reduceAdd, Nat.reduceSub, Nat.reduceMul, Nat.reduceLT, Nat.reduceLeDiff, Nat.reduceEqDiff, List.reduceReplicate, reduceIte, beq_self_eq_true, bne_self_eq_false, Int.reduceBEq, Int.reduceBNe, Bool.or_false, Bool.false_or, Bool.not_false, Bool.not_true, IntKind.bits, Int.reduceToNat, Nat.min_def, Int.reducePow, Int.toNat_natCast, hb2]
        with_reducible refine WO.nil ?_
        refine hK10 _ ?_; clear hK10
        refine W.ret ⟨by simp, _, rfl, fun ρ w1 hb => ?_⟩
        rw [hfin]
        refine ⟨(p6, c6), by simp [den], ?_⟩
        have h9 := new_own (w0 := w) hb (by simp) (k := 0) rfl rfl
        have h8 : OB (l ++ [u]) (p6, c6) = .slice 5 1 (.slice p6 (l.length + 1) c6) (l.length + 1) (l.map (.int .u8) ++ [.int .u8 u]) := by simp [OB]
        rw [h8]; exact h9
  · skip
    have hz2 : IntKind.u64.wrap (2 * IntKind.u64.wrap n) = zig n := by
      have hn0 : 0 ≤ n := by simpa using hc
      unfold isI at hn
      rw [u64_wrap, u64_wrap]; unfold zig; rw [if_pos hn0]; omega
    refine W.skip (hK3 _ ?_)
    refine W.pure (ds := []) rfl fun K11 hK11 => ?_
    simp only [sx, ty, Bool.false_eq_true, Int.reduceEq, Int.reduceLT, Nat.reduceAdd, Nat.reduceSub, Nat.reduceMul, Nat.reduceLT, Nat.reduceLeDiff, Nat.reduceEqDiff, List.reduceReplicate, reduceIte, beq_self_eq_true, bne_self_eq_false, Int.reduceBEq, Int.reduceBNe, Bool.or_false, Bool.false_or, Bool.not_false, Bool.not_true, IntKind.bits, Int.reduceToNat, Nat.min_def, Int.reducePow, Int.toNat_natCast]; with_reducible refine hK11 _ ?_; clear hK11
    refine W.seqK fun K12 hK12 => ?_
    refine W.block ?_
    simp only [hz2]
    refine W.ownNil 5 1 ?_
    simp only [sx, ty, Bool.false_eq_true, Int.reduceEq, Int.reduceLT, Nat.reduceAdd, Nat.reduceSub, Nat.reduceMul, Nat.reduceLT, Nat.reduceLeDiff, Nat.reduceEqDiff, List.reduceReplicate, reduceIte]
    refine W.loopO (X := Nat × Int × List Int × Option Addr × Nat) [] (fun x => [(3, .val (.int .u64 x.2.1)), (4, .val (.slice x.2.2.2.1 x.2.2.1.length x.2.2.2.2))]) (fun x => [.slice 5 1 (.slice x.2.2.2.1 x.2.2.1.length x.2.2.2.2) x.2.2.1.length (x.2.2.1.map (.int .u8))]) (fun x => [((fun _ => True), w)]) (fun x => LebI n x.1 x.2.1 x.2.2.1) (fun x => x.1) (9, zig n, [], none, 0) ?_ ?_ ?_
    · exact ⟨rfl, by simp [getE, bnd, keepE], ⟨[], by simp⟩, by simp [Own.bnd, bndL, bnd, boxO], by simp⟩
    · skip
      exact LebI.start hn
    · rintro ⟨f, u, l, p3, c3⟩ hI
      simp only at hI
      have hu0 := hI.2.1
      have hu1 := hI.small
      have hl9 := hI.2.2.2
      simp only [sx, ty, Bool.false_eq_true, Int.reduceEq, Int.reduceLT, Nat.reduceAdd, Nat.reduceSub, Nat.reduceMul, Nat.reduceLT, Nat.reduceLeDiff, Nat.reduceEqDiff, List.reduceReplicate, reduceIte, sxk, beq_self_eq_true, bne_self_eq_false, Int.reduceBEq, Int.reduceBNe, Bool.or_false, Bool.false_or, Bool.not_false, Bool.not_true, IntKind.bits, Int.reduceToNat, Nat.min_def, Int.reducePow, Int.toNat_natCast]
      refine W.seqK fun K13 hK13 => ?_
      refine W.pure (ds := []) rfl fun K14 hK14 => ?_
      simp only [sx, ty, Bool.false_eq_true, Int.reduceEq, Int.reduceLT, Nat.reduceAdd, Nat.reduceSub, Nat.reduceMul, Nat.reduceLT, Nat.reduceLeDiff, Nat.reduceEqDiff, List.reduceReplicate, reduceIte, beq_self_eq_true, bne_self_eq_false, Int.reduceBEq, Int.reduceBNe, Bool.or_false, Bool.false_or, Bool.not_false, Bool.not_true, IntKind.bits, Int.reduceToNat, Nat.min_def, Int.reducePow, Int.toNat_natCast]; with_reducible refine hK14 _ ?_; clear hK14
      refine W.cond rfl rfl (fun hc => ?_) (fun hc => ?_)
      · skip
        have hu : ¬ u < 128 := by simp at hc; omega
        obtain ⟨g, rfl, hI2⟩ := hI.more hu
        have hb1 : IntKind.u8.wrap (IntKind.u8.wrap (u.tmod 128) + 128) = u % 128 + 128 := by rw [tmod_nn hu0, u8_wrap, u8_wrap]; omega
        have hstep : IntKind.u64.wrap (u.tdiv 128) = u / 128 := by rw [tdiv_nn hu0, u64_wrap]; omega
        refine W.skip (hK13 _ ?_)
        refine W.block ?_
        refine W.seqK fun K15 hK15 => W.region ?_
        refine WO.go 6 (ds := []) rfl ?_
        simp only [sx, ty, Bool.false_eq_true, Int.reduceEq, Int.reduceLT, Nat.reduceAdd, Nat.reduceSub, Nat.reduceMul, Nat.reduceLT, Nat.reduceLeDiff, Nat.reduceEqDiff, List.reduceReplicate, reduceIte, beq_self_eq_true, bne_self_eq_false, Int.reduceBEq, Int.reduceBNe, Bool.or_false, Bool.false_or, Bool.not_false, Bool.not_true, IntKind.bits, Int.reduceToNat, Nat.min_def, Int.reducePow, Int.toNat_natCast, hb1]
        refine WO.append (k := 0) (m := 1) [.int .u8 (u % 128 + 128)] (ds := []) rfl rfl rfl rfl rfl rfl rfl ek23 (news_own (k2 := 1) rfl fun _ => rfl) rfl (by simp [Value.oneCell']) (by rw [maxLen_eq]; omega) (by omega) fun p6 c6 => ?_
        refine WO.go 1 (ds := []) rfl ?_
        simp only [sx, ty, Bool.false_eq_true, Int.reduceEq, Int.reduceLT, Nat.reduceAdd, Nat.reduceSub, Nat.reduceMul, Nat.reduceLT, Nat.reduceLeDiff, Nat.reduceEqDiff, List.reduceReplicate, reduceIte, beq_self_eq_true, bne_self_eq_false, Int.reduceBEq, Int.reduceBNe, Bool.or_false, Bool.false_or, Bool.not_false, Bool.not_true, IntKind.bits, Int.reduceToNat, Nat.min_def, Int.reducePow, Int.toNat_natCast, hb1]
        with_reducible refine WO.nil ?_
        refine hK15 _ ?_; clear hK15
        refine W.region ?_
        refine WO.go 3 (ds := []) rfl ?_
        simp only [sx, ty, Bool.false_eq_true, Int.reduceEq, Int.reduceLT, Nat.reduceAdd, Nat.reduceSub, Nat.reduceMul, Nat.reduceLT, Nat.reduceLeDiff, Nat.reduceEqDiff, List.reduceReplicate, reduceIte, beq_self_eq_true, bne_self_eq_false, Int.reduceBEq, Int.reduceBNe, Bool.or_false, Bool.false_or, Bool.not_false, Bool.not_true, IntKind.bits, Int.reduceToNat, Nat.min_def, Int.reducePow, Int.toNat_natCast, hb1]
        with_reducible refine WO.nil ?_
        refine ⟨(g, u / 128, l ++ [u % 128 + 128], p6, c6), hI2, by simp only; omega, rfl, by simp [getE, bnd, keepE, hstep], ⟨[.cells 5 [.val (.int .u8 (u % 128 + 128))]], by simp⟩, by simp [Own.bnd, bndL, bnd], by simp⟩
      · skip
        have hu : u < 128 := by simp at hc; omega
        have hfin : oneF n = l ++ [u] := by rw [hI.1, leb_last hu]
        have hb2 : IntKind.u8.wrap u = u := by rw [u8_wrap]; omega
        refine W.exit (hK12 _ ?_)
        refine W.seqK fun K16 hK16 => W.region ?_
        refine WO.go 4 (ds := []) rfl ?_
        simp only [sx, ty, Bool.false_eq_true, Int.reduceEq, Int.reduceLT, Nat.reduceAdd, Nat.reduceSub, Nat.reduceMul, Nat.reduceLT, Nat.reduceLeDiff, Nat.reduceEqDiff, List.reduceReplicate, reduceIte, beq_self_eq_true, bne_self_eq_false, Int.reduceBEq, Int.reduceBNe, Bool.or_false, Bool.false_or, Bool.not_false, Bool.not_true, IntKind.bits, Int.reduceToNat, Nat.min_def, Int.reducePow, Int.toNat_natCast, hb2]
        refine WO.append (k := 0) (m := 1) [.int .u8 u] (ds := []) rfl rfl rfl rfl rfl rfl rfl ek23 (news_own (k2 := 1) rfl fun _ => rfl) rfl (by simp [Value.oneCell']) (by rw [maxLen_eq]; omega) (by omega) fun p6 c6 => ?_
        refine WO.go 1 (ds := []) rfl ?_
        simp only [sx, ty, Bool.false_eq_true, Int.reduceEq, Int.reduceLT, Nat.reduceAdd, Nat.reduceSub, Nat.reduceMul, Nat.reduceLT, Nat.reduceLeDiff, Nat.reduceEqDiff, List.reduceReplicate, reduceIte, beq_self_eq_true, bne_self_eq_false, Int.reduceBEq, Int.reduceBNe, Bool.or_false, Bool.false_or, Bool.not_false, Bool.not_true, IntKind.bits, Int.reduceToNat, Nat.min_def, Int.reducePow, Int.toNat_natCast, hb2]
        with_reducible refine WO.nil ?_
        refine hK16 _ ?_; clear hK16
        refine W.ret ⟨by simp, _, rfl, fun ρ w1 hb => ?_⟩
        rw [hfin]
        refine ⟨(p6, c6), by simp [den], ?_⟩
        have h9 := new_own (w0 := w) hb (by simp) (k := 0) rfl rfl
        have h8 : OB (l ++ [u]) (p6, c6) = .slice 5 1 (.slice p6 (l.length + 1) c6) (l.length + 1) (l.map (.int .u8) ++ [.int .u8 u]) := by simp [OB]
        rw [h8]; exact h9
end Go.Proofs.Ytnbfdncmlbegmaa
