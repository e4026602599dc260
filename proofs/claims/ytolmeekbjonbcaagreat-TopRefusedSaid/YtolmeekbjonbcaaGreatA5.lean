/-
  TopRefused, for any demands, copies and halls. The law answers true, and the arguments read as they did. No condition.
-/
import Derived.Test.YtolmeekbjonbcaaGreatA4
import Derived.ProofKit
import Derived.Deep.Slices
import Derived.Deep.Fields
import Derived.OpenShut
import Derived.Test.YtolmeekbjonbcaaGreatRows
set_option linter.unusedVariables false
set_option linter.unusedSimpArgs false
set_option maxHeartbeats 2000000
namespace Go.Proofs.YtolmeekbjonbcaaGreat
open Int renaming reduceEq → q1, reduceLT → q2, reduceBEq → q3, reduceBNe → q4
open Nat renaming reduceAdd → q5, reduceSub → q6, reduceMul → q7, reduceLT → q8, reduceLeDiff → q9, reduceEqDiff → qa
open List renaming reduceReplicate → qb
open Go Go.SX Go.RowKit
theorem meet_nil (cs : List Cop) : MeetL [] cs := ⟨fun _ => 0, fun x hx => absurd hx (by simp), fun x y hx => absurd hx (by simp)⟩
theorem valid_sub {ds ds' : List Dem} {cs : List Cop} (hv : valid ds cs = true) (hs : ds'.Sublist ds) : valid ds' cs = true := by
  obtain ⟨h1, h2, h3, h4, h5, h6⟩ := valid_mem hv
  have h7 := hs.length_le
  simp only [valid, validDs, validCs, Bool.and_eq_true, decide_eq_true_eq, List.all_eq_true]
  exact ⟨⟨⟨by omega, fun x hx => h2 x (hs.subset hx)⟩, h3.sublist (hs.map _)⟩, ⟨h4, h5⟩, h6⟩
theorem valid_id {ds : List Dem} {cs : List Cop} (hv : valid ds cs = true) {d : Dem} (hd : d ∈ ds) : 1 ≤ d.1 ∧ d.1 ≤ 1000000 := by
  have h := (valid_mem hv).2.1 d hd
  simp only [validD, Bool.and_eq_true, within, decide_eq_true_eq] at h
  omega
theorem apart_of {own own0 it : List SX.Own} {sz : Nat} (he : own = own0 ++ it) (hlt : ∀ b, (∃ (j : Nat) (o : SX.Own), own[j]? = some o ∧ o.num (fun _ => 0) 0 = some b) → b < sz) (hap : ∀ (i j : Nat) (oi oj : SX.Own) b, own[i]? = some oi → own[j]? = some oj → oi.num (fun _ => 0) 0 = some b → oj.num (fun _ => 0) 0 = some b → i = j) {j : Nat} {o : SX.Own} {b : Nat} (hj : own[j]? = some o) (hge : own0.length ≤ j) (hn : o.num (fun _ => 0) 0 = some b) : ¬ (ofOwn own0 b ∨ sz ≤ b) := by
  rintro (⟨i, o', h1, h2⟩ | h)
  · have h3 := (List.getElem?_eq_some_iff.1 h1).1
    have := hap i j o' o b (by rw [he, List.getElem?_append_left h3]; exact h1) hj h2 hn
    omega
  · have := hlt b ⟨j, o, hj, hn⟩; omega
/-- what is known when k demands have been looked at -/
def RefI (w : World) (ds : List Dem) (cs : List Cop) (xs l1 : List DE) (k : Nat) (x : List DE × Option Addr × Nat × List ((Nat → Prop) × World)) : Prop :=
  RI ds cs ((l1.take k).map (·.1.1)) (x.1.map (·.1)) ∧ (∀ y, y ∈ x.1 → y ∈ xs) ∧ ∃ S s, (S, s) ∈ x.2.2.2 ++ [((fun _ => True), w)] ∧ rDEs.rd S s [.slice x.2.1 x.1.length x.2.2.1] x.1
theorem met_de {S1 : Nat → Prop} {S2 : Nat → Prop} {S3 : Nat → Prop} {w : World} {p0 p2 : Option Addr} {c0 c2 : Nat} {l : List DE} {cs : List Cop} {hall : Int} (hl : rDEs.rd S1 w [.slice p0 l.length c0] l) (he : ∀ x, x ∈ l → OkE S2 w x) (hl2 : rCops.rd S3 w [.slice p2 cs.length c2] cs) (hv : valid (l.map (·.1)) cs = true) (hh : within 0 99 hall = true) (h11 : cs.length ≤ 11) :
    Gives Tryz.prog 23 #[.agg #[.slice p2 cs.length c2, .int .i64 hall], .slice p0 l.length c0] w fun r _ => ∃ x : (Option Addr × Nat) × (Nat × Option Addr × Nat) × Bool, r = .tuple #[.slice x.1.1 l.length x.1.2, .slice x.2.1.2.1 x.2.1.1 x.2.1.2.2, .bool x.2.2] ∧ (x.2.2 = true ↔ MeetL (l.map (·.1)) cs) := by
  have h1 := close_des hl he
  have h9 := met_spec (p0 := p0) (c0 := c0) (ds := l.map (·.1)) (by rw [List.length_map]; exact h1) hl2 hv hh h11
  simpa only [List.length_map] using h9
/-- function 24 -/
theorem refusal_spec {S S2 : Nat → Prop} {w : World} {p0 p2 : Option Addr} {c0 c2 : Nat} {ds : List Dem} {cs : List Cop} {hall : Int} (hl : rDems.rd S w [.slice p0 ds.length c0] ds) (hl2 : rCops.rd S2 w [.slice p2 cs.length c2] cs) (hv : valid ds cs = true) (hh : within 0 99 hall = true) (h11 : cs.length ≤ 11) (hd12 : ds.length ≤ 12) (hno : ¬ MeetL ds cs) : Gives Tryz.prog 24 #[.agg #[.slice p2 cs.length c2, .int .i64 hall], .slice p0 ds.length c0] w fun r w' =>
    ∃ x : List Int × Option Addr × Nat, r = .slice x.2.1 x.1.length x.2.2 ∧ RefP ds cs x.1 ∧ rInts.rd (fun b => w.heap.size ≤ b) w' [.slice x.2.1 x.1.length x.2.2] x.1 := by
  have hl2 : (Rp.slice rCop).rd (fun _ => True) w _ cs := Rp.any hl2
  obtain ⟨xs, hxm, hls, hxe⟩ := open_des hl
  have hls : (Rp.slice rDE).rd (fun _ => True) w _ xs := Rp.any hls
  have hM : Marks [] w w := ⟨List.nodup_nil, fun d hd => by cases hd⟩
  obtain ⟨n, hn⟩ : ∃ n, ds.length = n := ⟨_, rfl⟩
  have hxn : xs.length = n := by rw [← hn, ← hxm]; simp
  have hpos : 0 < n := by
    rcases Nat.eq_zero_or_pos n with h | h
    · exact absurd (by rw [List.length_eq_zero_iff.1 (hn.trans h)]; exact meet_nil cs) hno
    · exact h
  have hid : ∀ x, x ∈ xs → 1 ≤ x.1.1 ∧ x.1.1 ≤ 1000000 := fun x hx => valid_id hv (by rw [← hxm]; exact List.mem_map.2 ⟨x, hx, rfl⟩)
  rw [hn] at hls ⊢
  rw [hn] at hd12
  refine gives_of_marks [.val (.agg #[.slice p2 cs.length c2, .int .i64 hall]), .val (.slice p0 n c0)] 42 [.tmp 4] Tryz.func24 rfl rfl rfl (by simp) rfl rfl ?_
  refine W.pure (ds := []) rfl fun K1 hK1 => ?_
  simp only [sx, ty, q1, q2, q5, q6, q7, q8, q9, qa, qb, reduceIte, sy, q3, q4]; with_reducible refine hK1 _ ?_; clear hK1
  refine W.pure (ds := []) rfl fun K2 hK2 => ?_
  simp only [sx, ty, q1, q2, q5, q6, q7, q8, q9, qa, qb, reduceIte, sy, q3, q4]; with_reducible refine hK2 _ ?_; clear hK2
  refine W.seqK fun K3 hK3 => ?_
  refine W.seqK fun K4 hK4 => W.region ?_
  refine WO.go 1 (ds := []) rfl ?_
  simp only [sx, ty, q1, q2, q5, q6, q7, q8, q9, qa, qb, reduceIte, sy, q3, q4]
  refine WO.callN (fun x : List DE × Nat × Option Addr × Nat => .func (.func 78) #[] #[.pointer (some ⟨x.2.1, 0, none⟩)]) (fun x => [ODN n x.1 x.2.2, boxO 22 x.2.1 [.slice x.2.2.1 n x.2.2.2]]) (fun x => x.1.Perm xs ∧ ∀ a b, a < b → b < n → idA x.1 b ≤ idA x.1 a) (ds := []) rfl rfl rfl rfl co41 (by intro x o ho; simp at ho; rcases ho with rfl | rfl <;> rfl) (fun ρ w1 hb => falling_spec (Rp.now hls (hb.first (by simp))) hxn hpos hd12 hid) fun x hp1 => ?_
  obtain ⟨l1, bF, qF, cF9⟩ := x
  simp only at hp1
  obtain ⟨hp1, hs1⟩ := hp1
  have hl1n : l1.length = n := by rw [hp1.length_eq, hxn]
  simp only [sx, ty, q1, q2, q5, q6, q7, q8, q9, qa, qb, reduceIte, sy, q3, q4]
  with_reducible refine WO.nil ?_
  refine hK4 _ ?_; clear hK4
  refine W.block ?_
  refine W.pinA (by simp [smallO, boxO, ODN]) fun β => ?_
  obtain ⟨b0, hb0⟩ : ∃ b0, β 0 = b0 := ⟨_, rfl⟩
  obtain ⟨b1, hb1⟩ : ∃ b1, β 1 = b1 := ⟨_, rfl⟩
  simp only [pinEn, pinOw, pinOw_box, den, denL, Nat.zero_add, Nat.reduceAdd, hb0, hb1]
  refine W.rangeX (X := List DE × Option Addr × Nat × List ((Nat → Prop) × World)) (w0 := w) (s0 := w) n (valD l1) [2, 5] (fun x => [boxO 61 b0 [.slice p2 cs.length c2, .int .i64 hall], boxO 22 b1 [.slice x.2.1 x.1.length x.2.2.1]]) (fun x => x.2.2.2) (RefI w ds cs xs l1) (xs, p0, c0, []) [ODN n l1 (qF, cF9), boxO 22 bF [.slice qF n cF9]] (fun k x => [(6, .loc 2 0), (2, .val (.pointer (some ⟨b0, 0, none⟩))), (5, .val (.pointer (some ⟨b1, 0, none⟩)))]) (fun k x => [.cells 41 [.val (.int .i64 (l1.getD k ((0, 0, 0, []), none, 0)).1.1), .val (.int .i64 (l1.getD k ((0, 0, 0, []), none, 0)).1.2.1), .val (.int .i64 (l1.getD k ((0, 0, 0, []), none, 0)).1.2.2.1), .val (.slice (l1.getD k ((0, 0, 0, []), none, 0)).2.1 (l1.getD k ((0, 0, 0, []), none, 0)).1.2.2.2.length (l1.getD k ((0, 0, 0, []), none, 0)).2.2)]]) [] rfl (by kernel_rfl) (by simp [keepE, getE, kp2, bnd]) (by simp only [hxn]; rfl) ?_ (by show 16 < 42; decide) ?_ rfl ?_ ?_ ?_ (by simp) (by simp) hM ?_
  · intro x o ho; simp only [List.cons_append, List.nil_append, List.mem_cons, List.not_mem_nil, or_false] at ho
    rcases ho with rfl | rfl | rfl | rfl <;> rfl
  · exact ⟨by simp only [List.take_zero, List.map_nil]; rw [hxm]; exact RI.start hno, fun y hy => hy, (fun _ => True), w, by simp, by simp only [hxn]; exact hls⟩
  · intro ρ w1 hb w2 hk hlt hap
    have hq9 : rDEs.rd (fun b => (ODN n l1 (qF, cF9)).num ρ 2 = some b) w1 [.slice qF n cF9] l1 := own_slice (A := rDE) (k := 2) hb rfl hl1n.symm (fun b h => h) (des_read l1)
    refine values1_iter (S := fun b => (ODN n l1 (qF, cF9)).num ρ 2 = some b) ((box_at (k := 3) (b := bF) hb rfl).frame (hk.block bF trivial (own_old (j := 3) hb rfl rfl))) (Nat.lt_of_lt_of_le (own_old (j := 3) hb rfl rfl) hk.size) (Rp.now hq9 hk) (fun b9 hS9 _ => apart_of (own0 := [boxO 61 b0 [.slice p2 cs.length c2, .int .i64 hall], boxO 22 b1 [.slice p0 xs.length c0]]) (it := [ODN n l1 (qF, cF9), boxO 22 bF [.slice qF n cF9]]) (by first | rfl | (simp only [hxn]; rfl)) hlt hap (j := 2) (o := ODN n l1 (qF, cF9)) rfl (Nat.le_refl _) (by rw [freeO_num rfl (fun _ => 0) ρ 0 2]; exact hS9)) (apart_of (own0 := [boxO 61 b0 [.slice p2 cs.length c2, .int .i64 hall], boxO 22 b1 [.slice p0 xs.length c0]]) (it := [ODN n l1 (qF, cF9), boxO 22 bF [.slice qF n cF9]]) (by first | rfl | (simp only [hxn]; rfl)) hlt hap (j := 3) (o := boxO 22 bF [.slice qF n cF9]) rfl (by simp) rfl) hl1n (by omega)
  · intro ll k x S sw hk
    simp only [valD, deA]
    refine W.region ?_
    refine WO.go 2 (ds := []) rfl ?_
    simp only [sx, ty, q1, q2, q5, q6, q7, q8, q9, qa, qb, reduceIte, sxk, sy, q3, q4]
    with_reducible refine WO.nil ?_
    exact ⟨rfl, by simp [getE, bnd, keepE, kp2], ⟨[], by simp⟩, by simp [Own.bnd, bndL, bnd, boxO], by simp⟩
  · intro ll k x L S s S2 s2 hk hIx hsL hLs hLS
    obtain ⟨left, pL, cL, snx⟩ := x
    simp only at hsL hLS
    obtain ⟨hRI, hmem, Sx, sX, hmx, hrd⟩ := hIx
    simp only at hRI hmem hmx hrd
    obtain ⟨y, hy⟩ := len_lt hl1n hk
    have hyd : l1.getD k ((0, 0, 0, []), none, 0) = y := by rw [List.getD_eq_getElem?_getD, hy]; rfl
    simp only [hyd]
    have hleft : (left.map (·.1)).length ≤ ds.length := hRI.sub.length_le
    rw [List.length_map] at hleft
    have hlpos : 0 < left.length := by
      rcases Nat.eq_zero_or_pos left.length with h | h
      · exact absurd (by rw [List.length_eq_zero_iff.1 h]; exact meet_nil cs) hRI.no
      · exact h
    have hvl : valid ((filtF y.1.1 left).map (·.1)) cs = true := by rw [filtF_map]; exact valid_sub hv (List.Sublist.trans List.filter_sublist hRI.sub)
    have hdone : (l1.take (k + 1)).map (fun z : DE => z.1.1) = (l1.take k).map (fun z : DE => z.1.1) ++ [y.1.1] := take_map_snoc (fun z : DE => z.1.1) l1 hy
    have hfm := filtF_map y.1.1 left
    have hmx2 : (Sx, sX) ∈ snx ++ [((fun b => b ∈ ([] : List Nat)), w), ((fun _ => True), w)] := by
      rcases List.mem_append.1 hmx with h | h
      · exact List.mem_append_left _ h
      · exact List.mem_append_right _ (List.mem_cons_of_mem _ h)
    have hKr5 : ∀ t, (∃ x', RefI w ds cs xs l1 (k + 1) x' ∧ (∀ p, p ∈ x'.2.2.2 → ∀ b, p.1 b → L ≤ b) ∧ Le t ⟨42, [], [boxO 61 b0 [.slice p2 cs.length c2, .int .i64 hall], boxO 22 b1 [.slice x'.2.1 x'.1.length x'.2.2.1]], (S, s) :: (S2, s2) :: (x'.2.2.2 ++ [((fun b => b ∈ ([] : List Nat)), w), ((fun _ => True), w)]), []⟩) → (onN fun t => (∃ x', RefI w ds cs xs l1 (k + 1) x' ∧ (∀ p, p ∈ x'.2.2.2 → ∀ b, p.1 b → L ≤ b) ∧ Le t ⟨42, [], [boxO 61 b0 [.slice p2 cs.length c2, .int .i64 hall], boxO 22 b1 [.slice x'.2.1 x'.1.length x'.2.2.1]], (S, s) :: (S2, s2) :: (x'.2.2.2 ++ [((fun b => b ∈ ([] : List Nat)), w), ((fun _ => True), w)]), []⟩)) .normal t := fun t h => h
    refine W.block ?_
    refine W.seqK fun K6 hK6 => W.region ?_
    refine WO.loadBox (k := 1) (i := 0) (sz := 1) rfl (ds := []) rfl rfl rfl rfl rfl (by simp [Addr.add_mid]) (by simp) agg22 sz22 (.inr rfl) ?_
    simp only [List.drop_succ_cons, List.drop_zero, List.take_succ_cons, List.take_zero, ofCells, Bool.false_eq_true, if_false, List.headD_cons, if_true, List.toList_toArray]
    refine WO.go 2 (ds := []) rfl ?_
    simp only [sx, ty, q1, q2, q5, q6, q7, q8, q9, qa, qb, reduceIte, sy, q3, q4]
    refine WO.callM (fun x : Option Addr × Nat => .slice x.1 (filtF y.1.1 left).length x.2) (fun lo x s8 => s.heap.size ≤ lo ∧ rDEs.rd (fun b => lo ≤ b) s8 [.slice x.1 (filtF y.1.1 left).length x.2] (filtF y.1.1 left)) (ds := []) rfl rfl rfl rfl co37 (fun ρ w1 hb => Gives.mono (without_spec (Rp.keep hrd (hb.at (S := Sx) (s := sX) (by simp only [St.put]; exact List.mem_cons_of_mem _ (List.mem_cons_of_mem _ hmx2)))) rfl hlpos (by omega)) fun r w9 _ ⟨x, h1, h2⟩ => ⟨x, h1, (hb.at (S := S) (s := s) (by simp [St.put])).size, h2⟩) fun x lo s8 hx => ?_
    obtain ⟨p7, c7⟩ := x
    obtain ⟨hlo, hx⟩ := hx
    simp only at hx
    refine WO.go 1 (ds := []) rfl ?_
    simp only [sx, ty, q1, q2, q5, q6, q7, q8, q9, qa, qb, reduceIte, sy, q3, q4]
    with_reducible refine WO.nil ?_
    refine hK6 _ ?_; clear hK6
    refine W.seqK fun K7 hK7 => W.region ?_
    refine WO.loadBox (k := 0) (i := 0) (sz := 2) rfl (ds := []) rfl rfl rfl rfl rfl (by simp [Addr.add_mid]) (by simp) agg61 sz61 (.inl rfl) ?_
    simp only [List.drop_succ_cons, List.drop_zero, List.take_succ_cons, List.take_zero, ofCells, Bool.false_eq_true, if_false, List.headD_cons, if_true, List.toList_toArray]
    refine WO.go 1 (ds := []) rfl ?_
    simp only [sx, ty, q1, q2, q5, q6, q7, q8, q9, qa, qb, reduceIte, sy, q3, q4]
    refine WO.callX (fun x : (Option Addr × Nat) × (Nat × Option Addr × Nat) × Bool => .tuple #[.slice x.1.1 (filtF y.1.1 left).length x.1.2, .slice x.2.1.2.1 x.2.1.1 x.2.1.2.2, .bool x.2.2]) (fun x => x.2.2 = true ↔ MeetL ((filtF y.1.1 left).map (fun z : DE => z.1)) cs) (ds := []) rfl rfl rfl rfl co23 (fun ρ w1 hb => met_de (Rp.keep hx (hb.at (by simp [St.put]))) (fun z hz => (hxe z (hmem z (filtF_mem.1 hz).1)).now (hb.at (S := fun _ => True) (s := w) (by simp [St.put]))) (Rp.keep hl2 (hb.at (S := fun _ => True) (s := w) (by simp [St.put]))) hvl hh h11) fun x hx9 => ?_
    obtain ⟨x1, x2, bm⟩ := x
    simp only at hx9
    rw [hfm] at hx9
    refine WO.go 7 (ds := []) rfl ?_
    simp only [sx, ty, q1, q2, q5, q6, q7, q8, q9, qa, qb, reduceIte, sy, q3, q4]
    with_reducible refine WO.nil ?_
    refine hK7 _ ?_; clear hK7
    refine W.pure (ds := []) rfl fun K8 hK8 => ?_
    simp only [sx, ty, q1, q2, q5, q6, q7, q8, q9, qa, qb, reduceIte, sy, q3, q4]; with_reducible refine hK8 _ ?_; clear hK8
    refine W.cond rfl rfl (fun hc => ?_) (fun hc => ?_)
    · skip
      have hnm : ¬ MeetL (withoutF (left.map (·.1)) y.1.1) cs := fun h => by rw [hx9.2 h] at hc; simp at hc
      refine W.region ?_
      refine WO.go 1 (ds := []) rfl ?_
      simp only [sx, ty, q1, q2, q5, q6, q7, q8, q9, qa, qb, reduceIte, sy, q3, q4]
      refine WO.storeBox (k := 1) (i := 0) rfl (ds := []) rfl rfl rfl rfl rfl (by simp [Addr.add_mid]) (by simp) rfl rfl sz22 ?_
      simp only [sx, ty, q1, q2, q5, q6, q7, q8, q9, qa, qb, reduceIte, sy, q3, q4]
      with_reducible refine WO.nil ?_
      refine hKr5 _ ?_
      refine ⟨(filtF y.1.1 left, p7, c7, [((fun b => lo ≤ b), s8)]), ⟨by simp only; rw [hdone, hfm]; exact hRI.cut hnm, fun z hz => hmem z (filtF_mem.1 hz).1, (fun b => lo ≤ b), s8, by simp, hx⟩, fun p hp b hb => ?_, ⟨rfl, by simp, ⟨_, by simp; rfl⟩, by simp [Own.bnd, bndL, bnd, boxO], fun p hp => by simp only [List.mem_cons, List.mem_append, List.not_mem_nil, or_false] at hp ⊢; rcases hp with h | h | h | h | h <;> simp [h]⟩⟩
      simp only [List.mem_singleton] at hp
      subst hp
      simp only at hb; omega
    · skip
      have hym : MeetL (withoutF (left.map (·.1)) y.1.1) cs := hx9.1 (by simpa using hc)
      refine W.skip (hKr5 _ ?_)
      refine ⟨(left, pL, cL, snx), ⟨by simp only; rw [hdone]; exact hRI.yes hym, hmem, Sx, sX, hmx, hrd⟩, hsL, ⟨rfl, by simp, ⟨_, by simp; rfl⟩, by simp [Own.bnd, bndL, bnd, boxO], fun p hp => by simp only [List.mem_cons, List.mem_append, List.not_mem_nil, or_false] at hp ⊢; rcases hp with h | h | h | h | h <;> simp [h]⟩⟩
  intro D1 s2 x hIx hM1
  obtain ⟨left, pL, cL, snx⟩ := x
  obtain ⟨hRI, hmem, Sx, sX, hmx, hrd⟩ := hIx
  simp only at hRI hmem hmx hrd
  refine hK3 _ ?_
  simp only [sx, ty, q1, q2, q5, q6, q7, q8, q9, qa, qb, reduceIte, sxk, sy, q3, q4]
  have hleft : (left.map (·.1)).length ≤ ds.length := hRI.sub.length_le
  rw [List.length_map] at hleft
  have hlpos : 0 < left.length := by
    rcases Nat.eq_zero_or_pos left.length with h | h
    · exact absurd (by rw [List.length_eq_zero_iff.1 h]; exact meet_nil cs) hRI.no
    · exact h
  have hmx2 : (Sx, sX) ∈ snx ++ [((fun b => b ∈ ([] : List Nat)), w), ((fun _ => True), w)] := by
    rcases List.mem_append.1 hmx with h | h
    · exact List.mem_append_left _ h
    · exact List.mem_append_right _ (List.mem_cons_of_mem _ h)
  have hid2 : ∀ x, x ∈ left → 1 ≤ x.1.1 ∧ x.1.1 ≤ 1000000 := fun x hx => hid x (hmem x hx)
  refine W.pure (ds := []) rfl fun K9 hK9 => ?_
  simp only [sx, ty, q1, q2, q5, q6, q7, q8, q9, qa, qb, reduceIte, sy, q3, q4]; with_reducible refine hK9 _ ?_; clear hK9
  refine W.seqK fun K10 hK10 => ?_
  refine W.ownNil 3 1 ?_
  simp only [sx, ty, Bool.false_eq_true, q1, q2, q5, q6, q7, q8, q9, qa, qb, reduceIte, St.pushO, List.cons_append, List.nil_append]
  refine W.seqK fun K11 hK11 => W.region ?_
  refine WO.loadBox (k := 1) (i := 0) (sz := 1) rfl (ds := []) rfl rfl rfl rfl rfl (by simp [Addr.add_mid]) (by simp) agg22 sz22 (.inr rfl) ?_
  simp only [List.drop_succ_cons, List.drop_zero, List.take_succ_cons, List.take_zero, ofCells, Bool.false_eq_true, if_false, List.headD_cons, if_true, List.toList_toArray]
  simp only [sx, ty, q1, q2, q5, q6, q7, q8, q9, qa, qb, reduceIte, sy, q3, q4]
  refine WO.callN (fun x : List DE × Nat × Option Addr × Nat => .func (.func 78) #[] #[.pointer (some ⟨x.2.1, 0, none⟩)]) (fun x => [ODN left.length x.1 x.2.2, boxO 22 x.2.1 [.slice x.2.2.1 left.length x.2.2.2]]) (fun x => x.1.Perm left ∧ ∀ a b, a < b → b < left.length → idA x.1 b ≤ idA x.1 a) (ds := []) rfl rfl rfl rfl co41 (by intro x o ho; simp at ho; rcases ho with rfl | rfl <;> rfl) (fun ρ w1 hb => falling_spec (Rp.keep hrd (hb.at (S := Sx) (s := sX) (by simp only [St.put]; exact List.mem_cons_of_mem _ hmx2))) rfl hlpos (by omega) hid2) fun x hp2 => ?_
  obtain ⟨l2, bG, qG, cG9⟩ := x
  simp only at hp2
  obtain ⟨hp2, hs2⟩ := hp2
  have hl2n : l2.length = left.length := hp2.length_eq
  simp only [sx, ty, q1, q2, q5, q6, q7, q8, q9, qa, qb, reduceIte, sy, q3, q4]
  with_reducible refine WO.nil ?_
  refine hK11 _ ?_; clear hK11
  refine W.block ?_
  refine W.pinA (by simp [smallO, boxO, ODN]) fun β2 => ?_
  obtain ⟨b2, hb2⟩ : ∃ b2, β2 2 = b2 := ⟨_, rfl⟩
  simp only [pinEn, pinOw, pinOw_box, den, denL, Nat.zero_add, Nat.reduceAdd, hb2]
  refine W.rangeX (X := List Int × Option Addr × Nat) (w0 := w) (s0 := s2) left.length (valD l2) [11] (fun x => [boxO 61 b0 [.slice p2 cs.length c2, .int .i64 hall], boxO 22 b1 [.slice pL left.length cL], boxO 27 b2 [.slice x.2.1 x.1.length x.2.2], OI x.1 x.2]) (fun x => []) (fun k x => x.1 = (l2.take k).map (fun z : DE => z.1.1)) ([], none, 0) [ODN left.length l2 (qG, cG9), boxO 22 bG [.slice qG left.length cG9]] (fun k x => [(12, .loc 4 0), (11, .val (.pointer (some ⟨b2, 0, none⟩)))]) (fun k x => [.cells 41 [.val (.int .i64 (l2.getD k ((0, 0, 0, []), none, 0)).1.1), .val (.int .i64 (l2.getD k ((0, 0, 0, []), none, 0)).1.2.1), .val (.int .i64 (l2.getD k ((0, 0, 0, []), none, 0)).1.2.2.1), .val (.slice (l2.getD k ((0, 0, 0, []), none, 0)).2.1 (l2.getD k ((0, 0, 0, []), none, 0)).1.2.2.2.length (l2.getD k ((0, 0, 0, []), none, 0)).2.2)]]) [D1] rfl (by kernel_rfl) (by simp [keepE, getE, kp2, bnd]) rfl ?_ (by show 33 < 42; decide) rfl rfl ?_ ?_ ?_ (by simp) (by simp) hM1 ?_
  · intro x o ho; simp only [List.cons_append, List.nil_append, List.mem_cons, List.not_mem_nil, or_false] at ho
    rcases ho with rfl | rfl | rfl | rfl | rfl | rfl <;> rfl
  · intro ρ w1 hb w2 hk hlt hap
    have hq9 : rDEs.rd (fun b => (ODN left.length l2 (qG, cG9)).num ρ 4 = some b) w1 [.slice qG left.length cG9] l2 := own_slice (A := rDE) (k := 4) hb rfl hl2n.symm (fun b h => h) (des_read l2)
    refine values1_iter (S := fun b => (ODN left.length l2 (qG, cG9)).num ρ 4 = some b) ((box_at (k := 5) (b := bG) hb rfl).frame (hk.block bG trivial (own_old (j := 5) hb rfl rfl))) (Nat.lt_of_lt_of_le (own_old (j := 5) hb rfl rfl) hk.size) (Rp.now hq9 hk) (fun b9 hS9 _ => apart_of (own0 := [boxO 61 b0 [.slice p2 cs.length c2, .int .i64 hall], boxO 22 b1 [.slice pL left.length cL], boxO 27 b2 [.slice none 0 0], OI [] (none, 0)]) (it := [ODN left.length l2 (qG, cG9), boxO 22 bG [.slice qG left.length cG9]]) (by first | rfl | (simp only [hxn]; rfl)) hlt hap (j := 4) (o := ODN left.length l2 (qG, cG9)) rfl (Nat.le_refl _) (by rw [freeO_num rfl (fun _ => 0) ρ 0 4]; exact hS9)) (apart_of (own0 := [boxO 61 b0 [.slice p2 cs.length c2, .int .i64 hall], boxO 22 b1 [.slice pL left.length cL], boxO 27 b2 [.slice none 0 0], OI [] (none, 0)]) (it := [ODN left.length l2 (qG, cG9), boxO 22 bG [.slice qG left.length cG9]]) (by first | rfl | (simp only [hxn]; rfl)) hlt hap (j := 5) (o := boxO 22 bG [.slice qG left.length cG9]) rfl (by simp) rfl) hl2n (by omega)
  · intro ll k x S sw hk
    simp only [valD, deA]
    refine W.region ?_
    refine WO.go 2 (ds := []) rfl ?_
    simp only [sx, ty, q1, q2, q5, q6, q7, q8, q9, qa, qb, reduceIte, sxk, sy, q3, q4]
    with_reducible refine WO.nil ?_
    exact ⟨rfl, by simp [getE, bnd, keepE, kp2], ⟨[], by simp⟩, by simp [Own.bnd, bndL, bnd, boxO, OI], by simp⟩
  · intro ll k x L S s S2 s20 hk hIx hsL hLs hLS
    obtain ⟨ids, pI, cI⟩ := x
    simp only at hIx hLS
    obtain ⟨y, hy⟩ := len_lt hl2n hk
    have hyd : l2.getD k ((0, 0, 0, []), none, 0) = y := by rw [List.getD_eq_getElem?_getD, hy]; rfl
    simp only [hyd]
    have hidl : ids.length ≤ 12 := by rw [hIx]; simp; omega
    have hdone : (l2.take (k + 1)).map (fun z : DE => z.1.1) = (l2.take k).map (fun z : DE => z.1.1) ++ [y.1.1] := take_map_snoc (fun z : DE => z.1.1) l2 hy
    have hKr12 : ∀ t, (∃ x' : List Int × Option Addr × Nat, (fun k x => x.1 = (l2.take k).map (fun z : DE => z.1.1)) (k + 1) x' ∧ (∀ p, p ∈ ([] : List ((Nat → Prop) × World)) → ∀ b, p.1 b → L ≤ b) ∧ Le t ⟨42, [], [boxO 61 b0 [.slice p2 cs.length c2, .int .i64 hall], boxO 22 b1 [.slice pL left.length cL], boxO 27 b2 [.slice x'.2.1 x'.1.length x'.2.2], OI x'.1 x'.2], (S, s) :: (S2, s20) :: ([] ++ (((fun b => b ∈ [D1]), s2) :: (snx ++ [((fun b => b ∈ ([] : List Nat)), w), ((fun _ => True), w)]))), []⟩) → (onN fun t => (∃ x' : List Int × Option Addr × Nat, (fun k x => x.1 = (l2.take k).map (fun z : DE => z.1.1)) (k + 1) x' ∧ (∀ p, p ∈ ([] : List ((Nat → Prop) × World)) → ∀ b, p.1 b → L ≤ b) ∧ Le t ⟨42, [], [boxO 61 b0 [.slice p2 cs.length c2, .int .i64 hall], boxO 22 b1 [.slice pL left.length cL], boxO 27 b2 [.slice x'.2.1 x'.1.length x'.2.2], OI x'.1 x'.2], (S, s) :: (S2, s20) :: ([] ++ (((fun b => b ∈ [D1]), s2) :: (snx ++ [((fun b => b ∈ ([] : List Nat)), w), ((fun _ => True), w)]))), []⟩)) .normal t := fun t h => h
    refine W.block ?_
    refine W.region ?_
    refine WO.loadBox (k := 2) (i := 0) (sz := 1) rfl (ds := []) rfl rfl rfl rfl rfl (by simp [Addr.add_mid]) (by simp) agg27 sz27 (.inr rfl) ?_
    simp only [List.drop_succ_cons, List.drop_zero, List.take_succ_cons, List.take_zero, ofCells, Bool.false_eq_true, if_false, List.headD_cons, if_true, List.toList_toArray]
    refine WO.go 3 (ds := []) rfl ?_
    simp only [sx, ty, q1, q2, q5, q6, q7, q8, q9, qa, qb, reduceIte, sy, q3, q4]
    refine WO.append (k := 3) (m := 1) [.int .i64 y.1.1] (ds := []) rfl rfl rfl rfl rfl rfl rfl ek27 (news_own (k2 := 5) rfl fun _ => rfl) rfl (by simp [Value.oneCell']) (by rw [maxLen_eq]; omega) (by omega) fun p6 c6 => ?_
    simp only [sx, ty, q1, q2, q5, q6, q7, q8, q9, qa, qb, reduceIte, sy, q3, q4]
    refine WO.storeBox (k := 2) (i := 0) rfl (ds := []) rfl rfl rfl rfl rfl (by simp [Addr.add_mid]) (by simp) rfl rfl sz27 ?_
    simp only [sx, ty, q1, q2, q5, q6, q7, q8, q9, qa, qb, reduceIte, sy, q3, q4]
    with_reducible refine WO.nil ?_
    refine hKr12 _ ?_
    refine ⟨(ids ++ [y.1.1], p6, c6), by simp only; rw [hdone, hIx], (fun p hp => by cases hp), ⟨rfl, by simp, ⟨_, by simp [OI]; rfl⟩, by simp [Own.bnd, bndL, bnd, boxO, OI], fun p hp => by simp only [List.nil_append] at hp ⊢; exact hp⟩⟩
  intro D2 s3 x hIx hM2
  obtain ⟨ids, pI, cI⟩ := x
  simp only at hIx
  refine hK10 _ ?_
  simp only [sx, ty, q1, q2, q5, q6, q7, q8, q9, qa, qb, reduceIte, sxk, sy, q3, q4]
  rw [← hl2n, List.take_length] at hIx
  have hidl : ids.length = left.length := by rw [hIx]; simp [hl2n]
  refine W.seqK fun K13 hK13 => W.region ?_
  refine WO.loadBox (k := 2) (i := 0) (sz := 1) rfl (ds := []) rfl rfl rfl rfl rfl (by simp [Addr.add_mid]) (by simp) agg27 sz27 (.inr rfl) ?_
  simp only [List.drop_succ_cons, List.drop_zero, List.take_succ_cons, List.take_zero, ofCells, Bool.false_eq_true, if_false, List.headD_cons, if_true, List.toList_toArray]
  simp only [sx, ty, q1, q2, q5, q6, q7, q8, q9, qa, qb, reduceIte, sy, q3, q4]
  refine WO.callL (own := [OIN ids.length ids (pI, cI)]) [3] (fun _ : Unit => .tuple #[]) (fun _ => [OIN ids.length ids.reverse (pI, cI)]) (fun _ _ _ => True) (ds := []) rfl rfl rfl rfl co42 ⟨rfl, trivial⟩ (by decide) rfl (fun _ => rfl) (fun _ => rfl) (fun ρ w1 hb hlie => Calls.mono (reverse_spec rfl (by omega) (by omega) hlie) fun e w2 ⟨v, he, hk, h1, h2⟩ => ⟨v, he, hk, (), h1, trivial, h2⟩) fun _ lo s8 _ => ?_
  simp only [sx, ty, q1, q2, q5, q6, q7, q8, q9, qa, qb, reduceIte, sy, q3, q4]
  with_reducible refine WO.nil ?_
  refine hK13 _ ?_; clear hK13
  refine W.seqK fun K14 hK14 => W.region ?_
  refine WO.loadBox (k := 2) (i := 0) (sz := 1) rfl (ds := []) rfl rfl rfl rfl rfl (by simp [Addr.add_mid]) (by simp) agg27 sz27 (.inr rfl) ?_
  simp only [List.drop_succ_cons, List.drop_zero, List.take_succ_cons, List.take_zero, ofCells, Bool.false_eq_true, if_false, List.headD_cons, if_true, List.toList_toArray]
  refine WO.go 1 (ds := []) rfl ?_
  simp only [sx, ty, q1, q2, q5, q6, q7, q8, q9, qa, qb, reduceIte, sy, q3, q4]
  with_reducible refine WO.nil ?_
  refine hK14 _ ?_; clear hK14
  refine W.ret ?_
  refine ⟨by simp, ⟨[D2, D1], s3, rfl, by simp, hM2⟩, RunR.ex ?_⟩
  simp only [sx, ty, q1, q2, q5, q6, q7, q8, q9, qa, qb, reduceIte, sxr, sy, q3, q4]
  intro ρ w1 hb
  refine ⟨(ids.reverse, pI, cI), by simp only [den, List.length_reverse], ?_, ?_⟩
  · refine RI.done hRI (fun x hx => ?_) ?_ ?_
    · rw [← hxm] at hx
      obtain ⟨z, hz, rfl⟩ := List.mem_map.1 hx
      rw [← hl1n, List.take_length]
      exact List.mem_map.2 ⟨z, hp1.mem_iff.2 hz, rfl⟩
    · rw [List.pairwise_reverse, hIx]
      refine sorted_all (fun a b h1 h2 => hs2 a b h1 (by omega)) ?_
      refine ((hp2.map _).nodup_iff).2 ?_
      have h9 := (valid_mem hv).2.2.1.sublist (hRI.sub.map _)
      simpa [Function.comp_def] using h9
    · refine (List.reverse_perm ids).trans ?_
      rw [hIx, List.map_map]
      exact hp2.map _
  · simp only [List.length_reverse]
    exact own_slice (A := rInt) (k := 3) (n := ids.length) hb rfl (by simp) (fun b hb' => own_new hb (by simp) (k := 3) rfl hb') (ints_read ids.reverse)
end Go.Proofs.YtolmeekbjonbcaaGreat
set_option linter.unusedVariables false
set_option linter.unusedSimpArgs false
set_option maxHeartbeats 1000000
namespace Go.Proofs.YtolmeekbjonbcaaGreat
open Int renaming reduceEq → q1, reduceLT → q2, reduceBEq → q3, reduceBNe → q4
open Nat renaming reduceAdd → q5, reduceSub → q6, reduceMul → q7, reduceLT → q8, reduceLeDiff → q9, reduceEqDiff → qa
open List renaming reduceReplicate → qb
open Go Go.SX Go.RowKit
/-- what a demand is given: Demand, Copy, Cost -/
abbrev Giv := Int × Int × Int
def rGiv : Rp Giv := Rp.pair rInt (Rp.pair rInt rInt)
abbrev rGivs : Rp (List Giv) := Rp.slice rGiv
theorem rGiv_open {S : Nat → Prop} {w : World} {ces : List Value} {d : Giv} (h : rGiv.rd S w ces d) : ces = [.int .i64 d.1, .int .i64 d.2.1, .int .i64 d.2.2] := by
  obtain ⟨c1, c2, rfl, h1, d1, d2, rfl, h2, h3⟩ := h
  have h1 : c1 = [.int .i64 d.1] := h1
  have h2 : d1 = [.int .i64 d.2.1] := h2
  have h3 : d2 = [.int .i64 d.2.2] := h3
  subst h1; subst h2; subst h3
  rfl
def gV (g : Giv) : List Value := [.int .i64 g.1, .int .i64 g.2.1, .int .i64 g.2.2]
def gsV (l : List Giv) : List Value := l.flatMap gV
theorem gsV_app (a b : List Giv) : gsV (a ++ b) = gsV a ++ gsV b := List.flatMap_append
theorem gsV_at : ∀ (xs : List Giv) (i : Nat) (y : Giv), xs[i]? = some y → ((gsV xs).drop (i * 3)).take 3 = gV y
  | [], i, y, h => by simp at h
  | x :: xs, 0, y, h => by
    simp only [List.getElem?_cons_zero, Option.some.injEq] at h
    subst h
    rfl
  | x :: xs, i + 1, y, h => by
    have h1 := gsV_at xs i y (by simpa using h)
    have h2 : (gsV (x :: xs)).drop ((i + 1) * 3) = (gsV xs).drop (i * 3) := by
      show (gV x ++ gsV xs).drop _ = _
      rw [List.drop_append, List.drop_eq_nil_of_le (by simp [gV]; omega), List.nil_append]
      congr 1
      simp [gV]; omega
    rw [h2, h1]
theorem gs_read {S : Nat → Prop} {w : World} (xs : List Giv) : ∀ i y, xs[i]? = some y → rGiv.rd S w (((gsV xs).drop (i * rGiv.sz)).take rGiv.sz) y := fun i y hy => by
  have h := gsV_at xs i y hy
  show rGiv.rd S w (((gsV xs).drop (i * 3)).take 3) y
  rw [h]
  exact ⟨[_], _, rfl, rfl, [_], _, rfl, rfl, rfl⟩
/-- what is given to the demand at i -/
def givF (ds : List Dem) (cs : List Cop) (hall : Int) (at' : List Nat) (i : Nat) : Giv := ((ds.getD i (0, 0, 0, [])).1, (cs.getD (at'.getD i 0) (0, 0, 0, 0)).1, CF ds cs hall i (at'.getD i 0))
def planL (ds : List Dem) (cs : List Cop) (hall : Int) (at' : List Nat) (k : Nat) : List Giv := (List.range k).map (givF ds cs hall at')
theorem planL_len (ds : List Dem) (cs : List Cop) (hall : Int) (at' : List Nat) (k : Nat) : (planL ds cs hall at' k).length = k := by simp [planL]
theorem planL_succ (ds : List Dem) (cs : List Cop) (hall : Int) (at' : List Nat) (k : Nat) : planL ds cs hall at' (k + 1) = planL ds cs hall at' k ++ [givF ds cs hall at' k] := by simp [planL, List.range_succ]
/-- function 8 -/
theorem plan_no {S S2 : Nat → Prop} {w : World} {p0 p2 : Option Addr} {c0 c2 : Nat} {ds : List Dem} {cs : List Cop} {hall : Int} (hl : rDems.rd S w [.slice p0 ds.length c0] ds) (hl2 : rCops.rd S2 w [.slice p2 cs.length c2] cs) (hv : valid ds cs = true) (hh : within 0 99 hall = true) (h11 : cs.length ≤ 11) (hd12 : ds.length ≤ 12) (hno : ¬ MeetL ds cs) : Gives Tryz.prog 8 #[.slice p0 ds.length c0, .slice p2 cs.length c2, .int .i64 hall] w fun r w' => ∃ x : List Int × Option Addr × Nat, r = .tuple #[.slice none 0 0, .slice x.2.1 x.1.length x.2.2, .bool false, .int .i64 0] ∧ RefP ds cs x.1 ∧ rInts.rd (fun b => w.heap.size ≤ b) w' [.slice x.2.1 x.1.length x.2.2] x.1 := by
  have hl : (Rp.slice rDem).rd (fun _ => True) w _ ds := Rp.any hl
  have hl2 : (Rp.slice rCop).rd (fun _ => True) w _ cs := Rp.any hl2
  refine gives_of [.val (.slice p0 ds.length c0), .val (.slice p2 cs.length c2), .val (.int .i64 hall)] 74 [.tmp 6, .tmp 7, .tmp 8, .tmp 9] Tryz.func8 rfl rfl rfl (by simp) rfl rfl ?_
  refine W.pure (ds := []) rfl fun K1 hK1 => ?_
  simp only [sx, ty, q1, q2, q5, q6, q7, q8, q9, qa, qb, reduceIte, sy, q3, q4]; with_reducible refine hK1 _ ?_; clear hK1
  refine W.seqK fun K2 hK2 => ?_
  refine W.seqK fun K3 hK3 => W.region ?_
  refine WO.go 3 (ds := []) rfl ?_
  simp only [sx, ty, q1, q2, q5, q6, q7, q8, q9, qa, qb, reduceIte, sy, q3, q4]
  refine WO.callX (fun x : Option Addr × Nat => .tuple #[.slice x.1 ds.length x.2, .int .i64 0]) (fun _ => True) (ds := []) rfl rfl rfl rfl co13 (fun ρ w1 hb => Gives.mono (costs2_spec (Rp.now hl (hb.first (by simp))) (Rp.now hl2 (hb.first (by simp))) hv hh) fun r w9 _ ⟨x, h1, _⟩ => ⟨x, h1, trivial⟩) fun x _ => ?_
  refine WO.go 5 (ds := []) rfl ?_
  simp only [sx, ty, q1, q2, q5, q6, q7, q8, q9, qa, qb, reduceIte, sy, q3, q4]
  with_reducible refine WO.nil ?_
  refine hK3 _ ?_; clear hK3
  refine W.pure (ds := []) rfl fun K4 hK4 => ?_
  simp only [sx, ty, q1, q2, q5, q6, q7, q8, q9, qa, qb, reduceIte, sy, q3, q4]; with_reducible refine hK4 _ ?_; clear hK4
  refine W.cond rfl rfl (fun hc => ?_) (fun hc => ?_)
  · skip
    simp at hc
  · skip
    refine W.skip (hK2 _ ?_)
    refine W.pure (ds := []) rfl fun K5 hK5 => ?_
    simp only [sx, ty, q1, q2, q5, q6, q7, q8, q9, qa, qb, reduceIte, sy, q3, q4]; with_reducible refine hK5 _ ?_; clear hK5
    refine W.seqK fun K6 hK6 => W.region ?_
    refine WO.go 2 (ds := []) rfl ?_
    simp only [sx, ty, q1, q2, q5, q6, q7, q8, q9, qa, qb, reduceIte, sy, q3, q4]
    refine WO.callX (fun x : Option Addr × Nat => .tuple #[.slice x.1 ds.length x.2, .slice none 0 0, .bool false]) (fun _ => True) (ds := []) rfl rfl rfl rfl co23 (fun ρ w1 hb => Gives.mono (met_none (Rp.now hl (hb.first (by simp [St.put]))) (Rp.now hl2 (hb.first (by simp [St.put]))) hv hh h11 hno) fun r w9 _ ⟨x, h1⟩ => ⟨x, h1, trivial⟩) fun x _ => ?_
    refine WO.go 7 (ds := []) rfl ?_
    simp only [sx, ty, q1, q2, q5, q6, q7, q8, q9, qa, qb, reduceIte, sy, q3, q4]
    with_reducible refine WO.nil ?_
    refine hK6 _ ?_; clear hK6
    refine W.seqK fun K7 hK7 => ?_
    refine W.pure (ds := []) rfl fun K8 hK8 => ?_
    simp only [sx, ty, q1, q2, q5, q6, q7, q8, q9, qa, qb, reduceIte, sy, q3, q4]; with_reducible refine hK8 _ ?_; clear hK8
    refine W.cond rfl rfl (fun hc => ?_) (fun hc => ?_)
    rotate_left
    · skip
      simp at hc
    · skip
      refine W.seqK fun K9 hK9 => W.region ?_
      refine WO.go 2 (ds := []) rfl ?_
      simp only [sx, ty, q1, q2, q5, q6, q7, q8, q9, qa, qb, reduceIte, sy, q3, q4]
      refine WO.callM (fun x : List Int × Option Addr × Nat => .slice x.2.1 x.1.length x.2.2) (fun lo x s8 => w.heap.size ≤ lo ∧ RefP ds cs x.1 ∧ rInts.rd (fun b => lo ≤ b) s8 [.slice x.2.1 x.1.length x.2.2] x.1) (ds := []) rfl rfl rfl rfl co24 (fun ρ w1 hb => Gives.mono (refusal_spec (Rp.now hl (hb.first (by simp [St.put]))) (Rp.now hl2 (hb.first (by simp [St.put]))) hv hh h11 hd12 hno) fun r w9 _ ⟨x, h1, h2, h3⟩ => ⟨x, h1, (hb.at (S := fun _ => True) (s := w) (by simp [St.put])).size, h2, h3⟩) fun x lo s8 hx => ?_
      obtain ⟨hlo, hx1, hx2⟩ := hx
      refine WO.go 4 (ds := []) rfl ?_
      simp only [sx, ty, q1, q2, q5, q6, q7, q8, q9, qa, qb, reduceIte, sy, q3, q4]
      with_reducible refine WO.nil ?_
      refine hK9 _ ?_; clear hK9
      refine W.ret ⟨by simp, _, rfl, fun ρ w1 hb => ?_⟩
      exact ⟨x, rfl, hx1, Rp.mono _ (Rp.keep hx2 (hb.at (by simp [St.put]))) fun b h _ => by omega⟩
/-- function 8 -/
theorem plan_yes {S S2 : Nat → Prop} {w : World} {p0 p2 : Option Addr} {c0 c2 : Nat} {ds : List Dem} {cs : List Cop} {hall : Int} (hl : rDems.rd S w [.slice p0 ds.length c0] ds) (hl2 : rCops.rd S2 w [.slice p2 cs.length c2] cs) (hv : valid ds cs = true) (hh : within 0 99 hall = true) (h11 : cs.length ≤ 11) (hd12 : ds.length ≤ 12) (hm : MeetL ds cs) : Gives Tryz.prog 8 #[.slice p0 ds.length c0, .slice p2 cs.length c2, .int .i64 hall] w fun r w' => ∃ x : List Nat × Option Addr × Nat, r = .tuple #[.slice x.2.1 ds.length x.2.2, .slice none 0 0, .bool true, .int .i64 0] ∧ BP ds cs hall x.1 ∧ rGivs.rd (fun b => w.heap.size ≤ b) w' [.slice x.2.1 ds.length x.2.2] (planL ds cs hall x.1 ds.length) := by
  have hl : (Rp.slice rDem).rd (fun _ => True) w _ ds := Rp.any hl
  have hl2 : (Rp.slice rCop).rd (fun _ => True) w _ cs := Rp.any hl2
  refine gives_of [.val (.slice p0 ds.length c0), .val (.slice p2 cs.length c2), .val (.int .i64 hall)] 74 [.tmp 6, .tmp 7, .tmp 8, .tmp 9] Tryz.func8 rfl rfl rfl (by simp) rfl rfl ?_
  refine W.pure (ds := []) rfl fun K1 hK1 => ?_
  simp only [sx, ty, q1, q2, q5, q6, q7, q8, q9, qa, qb, reduceIte, sy, q3, q4]; with_reducible refine hK1 _ ?_; clear hK1
  refine W.seqK fun K2 hK2 => ?_
  refine W.seqK fun K3 hK3 => W.region ?_
  refine WO.go 3 (ds := []) rfl ?_
  simp only [sx, ty, q1, q2, q5, q6, q7, q8, q9, qa, qb, reduceIte, sy, q3, q4]
  refine WO.callX (fun x : Option Addr × Nat => .tuple #[.slice x.1 ds.length x.2, .int .i64 0]) (fun _ => True) (ds := []) rfl rfl rfl rfl co13 (fun ρ w1 hb => Gives.mono (costs2_spec (Rp.now hl (hb.first (by simp))) (Rp.now hl2 (hb.first (by simp))) hv hh) fun r w9 _ ⟨x, h1, _⟩ => ⟨x, h1, trivial⟩) fun x _ => ?_
  refine WO.go 5 (ds := []) rfl ?_
  simp only [sx, ty, q1, q2, q5, q6, q7, q8, q9, qa, qb, reduceIte, sy, q3, q4]
  with_reducible refine WO.nil ?_
  refine hK3 _ ?_; clear hK3
  refine W.pure (ds := []) rfl fun K4 hK4 => ?_
  simp only [sx, ty, q1, q2, q5, q6, q7, q8, q9, qa, qb, reduceIte, sy, q3, q4]; with_reducible refine hK4 _ ?_; clear hK4
  refine W.cond rfl rfl (fun hc => ?_) (fun hc => ?_)
  · skip
    simp at hc
  · skip
    refine W.skip (hK2 _ ?_)
    refine W.pure (ds := []) rfl fun K5 hK5 => ?_
    simp only [sx, ty, q1, q2, q5, q6, q7, q8, q9, qa, qb, reduceIte, sy, q3, q4]; with_reducible refine hK5 _ ?_; clear hK5
    refine W.seqK fun K6 hK6 => W.region ?_
    refine WO.go 2 (ds := []) rfl ?_
    simp only [sx, ty, q1, q2, q5, q6, q7, q8, q9, qa, qb, reduceIte, sy, q3, q4]
    refine WO.callM (fun x : List Nat × (Option Addr × Nat) × Option Addr × Nat => .tuple #[.slice x.2.1.1 ds.length x.2.1.2, .slice x.2.2.1 ds.length x.2.2.2, .bool true]) (fun lo x s8 => w.heap.size ≤ lo ∧ BP ds cs hall x.1 ∧ rRows.rd (fun b => lo ≤ b) s8 [.slice x.2.1.1 ds.length x.2.1.2] (costsF ds cs hall) ∧ rInts.rd (fun b => lo ≤ b) s8 [.slice x.2.2.1 ds.length x.2.2.2] (x.1.map Int.ofNat)) (ds := []) rfl rfl rfl rfl co23 (fun ρ w1 hb => Gives.mono (met_some (Rp.now hl (hb.first (by simp [St.put]))) (Rp.now hl2 (hb.first (by simp [St.put]))) hv hh h11 hm) fun r w9 _ ⟨x, h1, h2, h3, h4⟩ => ⟨x, h1, (hb.at (S := fun _ => True) (s := w) (by simp [St.put])).size, h2, h3, h4⟩) fun x lo s8 hx => ?_
    obtain ⟨at9, ⟨px, cx⟩, py, cy⟩ := x
    obtain ⟨hlo, hB, hx, hy⟩ := hx
    simp only at hB hx hy
    have hr2 := (valid_mem hv).1
    refine WO.go 7 (ds := []) rfl ?_
    simp only [sx, ty, q1, q2, q5, q6, q7, q8, q9, qa, qb, reduceIte, sy, q3, q4]
    with_reducible refine WO.nil ?_
    refine hK6 _ ?_; clear hK6
    refine W.seqK fun K7 hK7 => ?_
    refine W.pure (ds := []) rfl fun K8 hK8 => ?_
    simp only [sx, ty, q1, q2, q5, q6, q7, q8, q9, qa, qb, reduceIte, sy, q3, q4]; with_reducible refine hK8 _ ?_; clear hK8
    refine W.cond rfl rfl (fun hc => ?_) (fun hc => ?_)
    · skip
      simp at hc
    · skip
      refine W.skip (hK7 _ ?_)
      refine W.seqK fun K9 hK9 => ?_
      refine W.pure (ds := []) rfl fun K10 hK10 => ?_
      simp only [sx, ty, q1, q2, q5, q6, q7, q8, q9, qa, qb, reduceIte, sy, q3, q4]; with_reducible refine hK10 _ ?_; clear hK10
      refine W.block ?_
      refine W.ownNil 39 3 ?_
      simp only [sx, ty, Bool.false_eq_true, q1, q2, q5, q6, q7, q8, q9, qa, qb, reduceIte, St.pushO, List.cons_append, List.nil_append]
      refine W.loopO (X := Nat × Option Addr × Nat) [1, 13, 14, 41, 42] (fun x => [(6, .val (.slice x.2.1 x.1 x.2.2)), (43, .val (.int .i64 (x.1 : Int)))]) (fun x => [.cells 61 [.val (.slice p2 cs.length c2), .val (.int .i64 hall)], .slice 39 3 (.slice x.2.1 x.1 x.2.2) x.1 (gsV (planL ds cs hall at9 x.1))]) (fun x => [((fun b => lo ≤ b), s8), ((fun _ => True), w)]) (fun x => x.1 ≤ ds.length) (fun x => ds.length - x.1) (0, none, 0) ?_ ?_ ?_
      · exact ⟨rfl, by simp [getE, bnd, keepE], ⟨[], by simp [planL, gsV]⟩, by simp [Own.bnd, bndL, bnd, boxO], by simp⟩
      · skip
        exact Nat.zero_le _
      · rintro ⟨i, pq, cq⟩ hi
        simp only at hi
        simp only [sx, ty, q1, q2, q5, q6, q7, q8, q9, qa, qb, reduceIte, sxk, sy, q3, q4]
        refine W.pure (ds := []) rfl fun K11 hK11 => ?_
        simp only [sx, ty, q1, q2, q5, q6, q7, q8, q9, qa, qb, reduceIte, sy, q3, q4]; with_reducible refine hK11 _ ?_; clear hK11
        refine W.seqK fun K12 hK12 => ?_
        refine W.cond rfl rfl (fun hc => ?_) (fun hc => ?_)
        · skip
          have hlt : i < ds.length := by simpa using hc
          obtain ⟨d, hd⟩ := len_lt (rfl : ds.length = _) hlt
          obtain ⟨k, hk⟩ : ∃ k, at9.getD i 0 = k := ⟨_, rfl⟩
          have hkm := hB.mat.lt i hlt
          simp only [hk] at hkm
          rw [costs_wide (by rintro rfl; simp at hlt)] at hkm
          obtain ⟨c, hcc⟩ := len_lt (rfl : cs.length = _) hkm
          have hgk := at_get hB.len hlt
          rw [hk] at hgk
          have hrow : (costsF ds cs hall)[i]? = some (cs.map fun c => costF d c hall) := by simp [costsF, hd]
          have hent : (cs.map fun c => costF d c hall)[k]? = some (costF d c hall) := by simp [hcc]
          have hgiv : givF ds cs hall at9 i = (d.1, c.1, costF d c hall) := by
            unfold givF
            rw [hk, getD_some hd, getD_some hcc, show CF ds cs hall i k = costF d c hall from cF_costs hd hcc]
          refine W.skip (hK12 _ ?_)
          refine W.seqK fun K13 hK13 => ?_
          refine W.block ?_
          refine W.seqK fun K14 hK14 => W.region ?_
          refine WO.go 1 (ds := []) rfl ?_
          simp only [sx, ty, q1, q2, q5, q6, q7, q8, q9, qa, qb, reduceIte, sy, q3, q4]
          refine WO.elem (y := d) hl (by simp [St.put]) (ds := []) rfl rfl rfl (by simp [St.put]) (fun _ => rfl) rfl rfl rfl rfl rfl el22 agg41 sz41 (.inl rfl) (by omega) (hd) fun p ces hces => ?_
          obtain ⟨p5, c5, rfl, hed, hel⟩ := rDem_open hces
          clear hces
          refine WO.go 3 (ds := []) rfl ?_
          simp only [sx, ty, q1, q2, q5, q6, q7, q8, q9, qa, qb, reduceIte, sy, q3, q4]
          with_reducible refine WO.nil ?_
          refine hK14 _ ?_; clear hK14
          refine W.regionT' 22 [0] [1, 2, 3, 4, 5, 6, 7, 8, 9, 10, 11, 12, 13, 14, 15, 16, 17, 18, 19, 20, 21] mixed (by kernel_rfl) ?_
          simp only [sx, ty, q1, q2, q5, q6, q7, q8, q9, qa, qb, reduceIte, sxt, List.toList_toArray, sy, q3, q4]
          refine WQ.go 5 (ds := []) rfl ?_
          simp only [sx, ty, q1, q2, q5, q6, q7, q8, q9, qa, qb, reduceIte, sxq, sy, q3, q4]
          refine WQ.elem (y := (k : Int)) hy (by simp [St.put]) (ds := []) rfl rfl rfl (by simp [St.put]) (fun _ => rfl) rfl rfl rfl rfl rfl el27 agg3 sz3 (.inr rfl) (by omega) (hgk) fun p ces hces => ?_
          obtain rfl := rInt_open hces
          clear hces
          simp only [sx, ty, q1, q2, q5, q6, q7, q8, q9, qa, qb, reduceIte, sy, q3, q4]
          refine WQ.elemF (y := c) hl2 (by simp [St.put]) (ds := []) rfl rfl rfl (by simp [St.put]) (fun _ => rfl) rfl (by simp [St.put]) (fun _ _ => rfl) rfl rfl rfl rfl rfl rfl el23 fo45_0 agg3 sz3 (by decide) (.inr rfl) (by omega) (hcc) fun p q ces hces => ?_
          obtain rfl := rCop_open hces
          clear hces
          refine WQ.go 2 (ds := []) rfl ?_
          simp only [sx, ty, q1, q2, q5, q6, q7, q8, q9, qa, qb, reduceIte, sxq, sy, q3, q4]
          refine WQ.elem (y := (cs.map fun c => costF d c hall)) hx (by simp [St.put]) (ds := []) rfl rfl rfl (by simp [St.put]) (fun _ => rfl) rfl rfl rfl rfl rfl el36 agg27 sz27 (.inr rfl) (by omega) (hrow) fun p ces hces => ?_
          obtain ⟨p9, c9, rfl, hc5, hc6⟩ := rInts_open hces
          have hces1 := hces
          clear hces
          simp only [List.length_map] at hc5 hces1 ⊢
          refine WQ.go 2 (ds := []) rfl ?_
          simp only [sx, ty, q1, q2, q5, q6, q7, q8, q9, qa, qb, reduceIte, sxq, sy, q3, q4]
          refine WQ.elem (y := (k : Int)) hy (by simp [St.put]) (ds := []) rfl rfl rfl (by simp [St.put]) (fun _ => rfl) rfl rfl rfl rfl rfl el27 agg3 sz3 (.inr rfl) (by omega) (hgk) fun p ces hces => ?_
          obtain rfl := rInt_open hces
          clear hces
          simp only [sx, ty, q1, q2, q5, q6, q7, q8, q9, qa, qb, reduceIte, sy, q3, q4]
          refine WQ.elem (y := (costF d c hall)) hces1 (by simp [St.put]) (ds := []) rfl rfl rfl (by simp [St.put]) (fun _ => rfl) rfl rfl rfl rfl rfl el27 agg3 sz3 (.inr rfl) (by omega) (hent) fun p ces hces => ?_
          obtain rfl := rInt_open hces
          clear hces
          refine WQ.go 1 (ds := []) rfl ?_
          simp only [sx, ty, q1, q2, q5, q6, q7, q8, q9, qa, qb, reduceIte, sxq, sy, q3, q4]
          with_reducible refine WQ.nil ?_
          refine WO.go 1 (ds := []) rfl ?_
          simp only [sx, ty, q1, q2, q5, q6, q7, q8, q9, qa, qb, reduceIte, sy, q3, q4]
          refine WO.append (k := 1) (m := 1) [.int .i64 d.1, .int .i64 c.1, .int .i64 (costF d c hall)] (ds := []) rfl rfl rfl rfl rfl rfl rfl ek26 (news_own (k2 := 3) rfl fun _ => rfl) rfl (by simp [Value.oneCell']) (by rw [maxLen_eq]; omega) (by omega) fun p6 c6 => ?_
          refine WO.go 1 (ds := []) rfl ?_
          simp only [sx, ty, q1, q2, q5, q6, q7, q8, q9, qa, qb, reduceIte, sy, q3, q4]
          with_reducible refine WO.nil ?_
          refine hK13 _ ?_
          refine W.region ?_
          refine WO.go 2 (ds := []) rfl ?_
          simp only [sx, ty, q1, q2, q5, q6, q7, q8, q9, qa, qb, reduceIte, sy, q3, q4]
          with_reducible refine WO.nil ?_
          refine ⟨(i + 1, p6, c6), by simp only; omega, by simp only; omega, rfl, by simp [getE, bnd, keepE, wrap_succ (show i + 1 ≤ 9223372036854775807 by omega)], ⟨_, by simp only [planL_succ, gsV_app, hgiv]; rfl⟩, by simp [Own.bnd, bndL, bnd], by simp⟩
        · skip
          have hin : i = ds.length := Nat.le_antisymm hi (by simpa using hc)
          subst hin
          refine W.exit (hK9 _ ?_)
          refine W.pure (ds := []) rfl fun K15 hK15 => ?_
          simp only [sx, ty, q1, q2, q5, q6, q7, q8, q9, qa, qb, reduceIte, sy, q3, q4]; with_reducible refine hK15 _ ?_; clear hK15
          refine W.ret ⟨by simp, _, rfl, fun ρ w1 hb => ?_⟩
          exact ⟨(at9, pq, cq), rfl, hB, own_slice (A := rGiv) (k := 1) (n := ds.length) hb rfl (by rw [planL_len]) (fun b hb' => own_new hb (by simp) (k := 1) rfl hb') (gs_read _)⟩
end Go.Proofs.YtolmeekbjonbcaaGreat
set_option linter.unusedVariables false
set_option linter.unusedSimpArgs false
set_option maxHeartbeats 1000000
namespace Go.Proofs.YtolmeekbjonbcaaGreat
open Int renaming reduceEq → q1, reduceLT → q2, reduceBEq → q3, reduceBNe → q4
open Nat renaming reduceAdd → q5, reduceSub → q6, reduceMul → q7, reduceLT → q8, reduceLeDiff → q9, reduceEqDiff → qa
open List renaming reduceReplicate → qb
open Go Go.SX Go.RowKit
def few36 (ds : List Dem) (cs : List Cop) : Bool := few ds cs && (decide (ds.length ≤ 7) && decide (cs.length ≤ 8))
/-- function 6 -/
theorem few36_spec {S S2 : Nat → Prop} {w : World} {v u : Value} {ds : List Dem} {cs : List Cop} (hl : rDems.rd S w [v] ds) (hl2 : rCops.rd S2 w [u] cs) : Gives Tryz.prog 6 #[v, u] w fun r _ => r = .bool (few36 ds cs) := by
  obtain ⟨p, c, rfl, hc1, hc2⟩ := Rp.slice_val hl
  obtain ⟨p2, c2, rfl, hc3, hc4⟩ := Rp.slice_val hl2
  have hl : (Rp.slice rDem).rd (fun _ => True) w _ ds := Rp.any hl
  have hl2 : (Rp.slice rCop).rd (fun _ => True) w _ cs := Rp.any hl2
  have e7 : ∀ n : Nat, decide ((n : Int) ≤ 7) = decide (n ≤ 7) := fun n => decide_eq_decide.2 (by omega)
  have e8 : ∀ n : Nat, decide ((n : Int) ≤ 8) = decide (n ≤ 8) := fun n => decide_eq_decide.2 (by omega)
  refine gives_of [.val (.slice p ds.length c), .val (.slice p2 cs.length c2)] 18 [.tmp 4] Tryz.func6 rfl rfl rfl (by simp) rfl rfl ?_
  refine W.pure (ds := []) rfl fun K1 hK1 => ?_
  simp only [sx, ty, q1, q2, q5, q6, q7, q8, q9, qa, qb, reduceIte, sy, q3, q4]; with_reducible refine hK1 _ ?_; clear hK1
  refine W.join 4 (.val (.bool (few36 ds cs))) [] (W.region ?_) ?_
  · skip
    refine WO.go 2 (ds := [some 5, some 6, some 7, some 8, some 9, some 10, some 11, some 12, some 13, some 14, some 15, some 16, some 17, some 4]) rfl ?_
    simp only [sx, ty, q1, q2, q5, q6, q7, q8, q9, qa, qb, reduceIte, sy, q3, q4]
    refine WO.call (.bool (few ds cs)) (ds := [some 5, some 6, some 7, some 8, some 9, some 10, some 11, some 12, some 13, some 14, some 15, some 16, some 17, some 4]) rfl rfl rfl rfl co21 (fun ρ w1 hb => few_spec (Rp.now hl (hb.first (by simp))) (Rp.now hl2 (hb.first (by simp)))) ?_
    refine WO.go 1 (ds := [some 5, some 6, some 7, some 8, some 9, some 10, some 11, some 12, some 13, some 14, some 15, some 16, some 17, some 4]) rfl ?_
    simp only [sx, ty, q1, q2, q5, q6, q7, q8, q9, qa, qb, reduceIte, sy, q3, q4]
    refine WO.cases 8 _ rfl (fun hg8 => ?_) (fun hg8 => ?_)
    · skip
      refine WO.go 5 (ds := [some 5, some 6, some 7, some 8, some 9, some 10, some 11, some 12, some 13, some 14, some 15, some 16, some 17, some 4]) rfl ?_
      simp only [sx, ty, q1, q2, q5, q6, q7, q8, q9, qa, qb, reduceIte, sy, q3, q4]
      refine WO.cases 13 _ rfl (fun hg13 => ?_) (fun hg13 => ?_)
      · skip
        refine WO.go 5 (ds := [some 5, some 6, some 7, some 8, some 9, some 10, some 11, some 12, some 13, some 14, some 15, some 16, some 17, some 4]) rfl ?_
        simp only [sx, ty, q1, q2, q5, q6, q7, q8, q9, qa, qb, reduceIte, sy, q3, q4]
        with_reducible refine WO.nil ?_
        refine ⟨rfl, ?_, ⟨_, rfl⟩, by simp [Own.bnd, bndL, bnd, boxO], by simp⟩
        try rw [hg8]
        try rw [hg13]
        try simp [getE, bnd, keepE, few36, hg8, e7, e8]
        try (rw [e7] at hg13; simp [getE, bnd, keepE, few36, hg8, hg13, e7, e8])
        try (have h9 := of_decide_eq_true hg13; intro; omega)
        try (have h9 := of_decide_eq_false hg13; intro; omega)
      · skip
        refine WO.go 5 (ds := [some 5, some 6, some 7, some 8, some 9, some 10, some 11, some 12, some 13, some 14, some 15, some 16, some 17, some 4]) rfl ?_
        simp only [sx, ty, q1, q2, q5, q6, q7, q8, q9, qa, qb, reduceIte, sy, q3, q4]
        with_reducible refine WO.nil ?_
        refine ⟨rfl, ?_, ⟨_, rfl⟩, by simp [Own.bnd, bndL, bnd, boxO], by simp⟩
        try rw [hg8]
        try rw [hg13]
        try simp [getE, bnd, keepE, few36, hg8, e7, e8]
        try (rw [e7] at hg13; simp [getE, bnd, keepE, few36, hg8, hg13, e7, e8])
        try (have h9 := of_decide_eq_true hg13; intro; omega)
        try (have h9 := of_decide_eq_false hg13; intro; omega)
    · skip
      refine WO.go 10 (ds := [some 5, some 6, some 7, some 8, some 9, some 10, some 11, some 12, some 13, some 14, some 15, some 16, some 17, some 4]) rfl ?_
      simp only [sx, ty, q1, q2, q5, q6, q7, q8, q9, qa, qb, reduceIte, sy, q3, q4]
      with_reducible refine WO.nil ?_
      refine ⟨rfl, ?_, ⟨_, rfl⟩, by simp [Own.bnd, bndL, bnd, boxO], by simp⟩
      try rw [hg8]
      try rw [hg13]
      try simp [getE, bnd, keepE, few36, hg8, e7, e8]
      try (rw [e7] at hg13; simp [getE, bnd, keepE, few36, hg8, hg13, e7, e8])
      try (have h9 := of_decide_eq_true hg13; intro; omega)
      try (have h9 := of_decide_eq_false hg13; intro; omega)
  · simp only [sx, ty, q1, q2, q5, q6, q7, q8, q9, qa, qb, reduceIte, sxk, sy, q3, q4]
    refine W.ret ⟨by simp, _, rfl, fun ρ w1 hb => ?_⟩
    rfl
/-- function 9 -/
theorem wshort_spec {S S2 : Nat → Prop} {w : World} {p0 p2 : Option Addr} {c0 c2 : Nat} {ds : List Dem} {cs : List Cop} {hall : Int} (hl : rDems.rd S w [.slice p0 ds.length c0] ds) (hl2 : rCops.rd S2 w [.slice p2 cs.length c2] cs) (hv : valid ds cs = true) (hh : within 0 99 hall = true) (h11 : cs.length ≤ 11) : Gives Tryz.prog 9 #[.slice p0 ds.length c0, .slice p2 cs.length c2, .int .i64 hall] w fun r _ => ∃ x : Option Addr × Nat, r = .tuple #[.slice x.1 (shortF (costsF ds cs hall) cs.length).2 x.2, .bool (shortF (costsF ds cs hall) cs.length).1, .int .i64 0] := by
  have hl : (Rp.slice rDem).rd (fun _ => True) w _ ds := Rp.any hl
  have hl2 : (Rp.slice rCop).rd (fun _ => True) w _ cs := Rp.any hl2
  refine gives_of [.val (.slice p0 ds.length c0), .val (.slice p2 cs.length c2), .val (.int .i64 hall)] 26 [.tmp 6, .tmp 7, .tmp 8] Tryz.func9 rfl rfl rfl (by simp) rfl rfl ?_
  refine W.pure (ds := []) rfl fun K1 hK1 => ?_
  simp only [sx, ty, q1, q2, q5, q6, q7, q8, q9, qa, qb, reduceIte, sy, q3, q4]; with_reducible refine hK1 _ ?_; clear hK1
  refine W.seqK fun K2 hK2 => W.region ?_
  refine WO.go 3 (ds := []) rfl ?_
  simp only [sx, ty, q1, q2, q5, q6, q7, q8, q9, qa, qb, reduceIte, sy, q3, q4]
  refine WO.callM (fun x : Option Addr × Nat => .tuple #[.slice x.1 ds.length x.2, .int .i64 0]) (fun lo x s8 => w.heap.size ≤ lo ∧ rRows.rd (fun b => lo ≤ b) s8 [.slice x.1 ds.length x.2] (costsF ds cs hall)) (ds := []) rfl rfl rfl rfl co13 (fun ρ w1 hb => Gives.mono (costs2_spec (Rp.now hl (hb.first (by simp))) (Rp.now hl2 (hb.first (by simp))) hv hh) fun r w9 _ ⟨x, h1, h2⟩ => ⟨x, h1, (hb.at (S := fun _ => True) (s := w) (by simp [St.put])).size, h2⟩) fun x lo s8 hx => ?_
  obtain ⟨px, cx⟩ := x
  obtain ⟨hlo, hx⟩ := hx
  simp only at hx
  refine WO.go 5 (ds := []) rfl ?_
  simp only [sx, ty, q1, q2, q5, q6, q7, q8, q9, qa, qb, reduceIte, sy, q3, q4]
  with_reducible refine WO.nil ?_
  refine hK2 _ ?_; clear hK2
  refine W.seqK fun K3 hK3 => ?_
  refine W.pure (ds := []) rfl fun K4 hK4 => ?_
  simp only [sx, ty, q1, q2, q5, q6, q7, q8, q9, qa, qb, reduceIte, sy, q3, q4]; with_reducible refine hK4 _ ?_; clear hK4
  refine W.cond rfl rfl (fun hc => ?_) (fun hc => ?_)
  · skip
    simp at hc
  · skip
    refine W.skip (hK3 _ ?_)
    refine W.seqK fun K5 hK5 => W.region ?_
    refine WO.go 1 (ds := []) rfl ?_
    simp only [sx, ty, q1, q2, q5, q6, q7, q8, q9, qa, qb, reduceIte, sy, q3, q4]
    refine WO.callX (fun x : Option Addr × Nat => .tuple #[.slice x.1 (shortF (costsF ds cs hall) cs.length).2 x.2, .bool (shortF (costsF ds cs hall) cs.length).1, .int .i64 0]) (fun _ => True) (ds := []) rfl rfl rfl rfl co25 (fun ρ w1 hb => Gives.mono (short_spec (Rp.keep hx (hb.at (by simp [St.put]))) (wf_costs hv h11)) fun r w9 _ ⟨x, h1⟩ => ⟨x, h1, trivial⟩) fun x _ => ?_
    refine WO.go 6 (ds := []) rfl ?_
    simp only [sx, ty, q1, q2, q5, q6, q7, q8, q9, qa, qb, reduceIte, sy, q3, q4]
    with_reducible refine WO.nil ?_
    refine hK5 _ ?_; clear hK5
    refine W.ret ⟨by simp, _, rfl, fun ρ w1 hb => ?_⟩
    exact ⟨x, rfl⟩
theorem filter_one {xs : List DE} {id : Int} (hnd : (xs.map (·.1.1)).Nodup) {y : DE} (hy : y ∈ xs) (he : y.1.1 = id) : xs.filter (fun x => decide (x.1.1 = id)) = [y] := by
  induction xs with
  | nil => cases hy
  | cons z l ih =>
    rw [List.map_cons, List.nodup_cons] at hnd
    rcases List.mem_cons.1 hy with h | h
    · subst h
      rw [List.filter_cons, if_pos (by simpa using he), List.filter_eq_nil_iff.2]
      intro x hx hc
      exact hnd.1 (List.mem_map.2 ⟨x, hx, by rw [he]; simpa using hc⟩)
    · rw [List.filter_cons, if_neg, ih hnd.2 h]
      intro hc
      exact hnd.1 (List.mem_map.2 ⟨y, h, by rw [he]; simp at hc; exact hc.symm⟩)
theorem filter_take {xs : List DE} {id : Int} {k : Nat} {z : DE} (hz : xs[k]? = some z) : (xs.take (k + 1)).filter (fun x => decide (x.1.1 = id)) = (xs.take k).filter (fun x => decide (x.1.1 = id)) ++ (if z.1.1 = id then [z] else []) := by
  rw [List.take_add_one, hz, List.filter_append]
  congr 1
  by_cases h : z.1.1 = id <;> simp [h]
/-- function 10 -/
theorem some_spec {S S2 : Nat → Prop} {w : World} {p0 p1 : Option Addr} {n c0 c1 : Nat} {xs : List DE} {ids : List Int} (hl : rDEs.rd S w [.slice p0 n c0] xs) (hn : xs.length = n) (hi : rInts.rd S2 w [.slice p1 ids.length c1] ids) (hnd : (xs.map (·.1.1)).Nodup) (hsort : ids.Pairwise (· < ·)) (hin : ∀ id, id ∈ ids → ∃ x, x ∈ xs ∧ x.1.1 = id) (h2 : n ≤ 200) (h3 : ids.length ≤ 200) : Gives Tryz.prog 10 #[.slice p0 n c0, .slice p1 ids.length c1] w fun r w' =>
    ∃ x : List DE × Option Addr × Nat, r = .tuple #[.slice x.2.1 ids.length x.2.2, .bool true] ∧ x.1.map (·.1.1) = ids ∧ (∀ y, y ∈ x.1 → y ∈ xs) ∧ rDEs.rd (fun b => w.heap.size ≤ b) w' [.slice x.2.1 ids.length x.2.2] x.1 := by
  have hl : (Rp.slice rDE).rd (fun _ => True) w _ xs := Rp.any hl
  have hi : (Rp.slice rInt).rd (fun _ => True) w _ ids := Rp.any hi
  refine gives_of [.val (.slice p0 n c0), .val (.slice p1 ids.length c1)] 63 [.tmp 4, .tmp 5] Tryz.func10 rfl rfl rfl (by simp) rfl rfl ?_
  refine W.pure (ds := []) rfl fun K1 hK1 => ?_
  simp only [sx, ty, q1, q2, q5, q6, q7, q8, q9, qa, qb, reduceIte, sy, q3, q4]; with_reducible refine hK1 _ ?_; clear hK1
  refine W.pure (ds := []) rfl fun K2 hK2 => ?_
  simp only [sx, ty, q1, q2, q5, q6, q7, q8, q9, qa, qb, reduceIte, sy, q3, q4]; with_reducible refine hK2 _ ?_; clear hK2
  refine W.seqK fun K3 hK3 => ?_
  refine W.pure (ds := []) rfl fun K4 hK4 => ?_
  simp only [sx, ty, q1, q2, q5, q6, q7, q8, q9, qa, qb, reduceIte, sy, q3, q4]; with_reducible refine hK4 _ ?_; clear hK4
  refine W.block ?_
  refine W.ownNil 41 4 ?_
  simp only [sx, ty, Bool.false_eq_true, q1, q2, q5, q6, q7, q8, q9, qa, qb, reduceIte, St.pushO, List.cons_append, List.nil_append]
  refine W.loopO (X := Nat × List DE × Option Addr × Nat) [0, 1] (fun x => [(6, .val (.slice x.2.2.1 x.2.1.length x.2.2.2)), (7, .val (.int .i64 (x.1 : Int)))]) (fun x => [.slice 41 4 (.slice x.2.2.1 x.2.1.length x.2.2.2) x.2.1.length (desV x.2.1)]) (fun x => [((fun _ => True), w)]) (fun x => x.1 ≤ ids.length ∧ x.2.1.map (·.1.1) = ids.take x.1 ∧ ∀ y, y ∈ x.2.1 → y ∈ xs) (fun x => ids.length - x.1) (0, [], none, 0) ?_ ?_ ?_
  · exact ⟨rfl, by simp [getE, bnd, keepE], ⟨[], by simp [desV]⟩, by simp [Own.bnd, bndL, bnd, boxO], by simp⟩
  · skip
    exact ⟨Nat.zero_le _, rfl, fun y hy => by cases hy⟩
  · rintro ⟨i, out, pq, cq⟩ ⟨hic, hom, hox⟩
    simp only at hic hom hox
    have hol : out.length = i := by have := congrArg List.length hom; simp at this; omega
    simp only [sx, ty, q1, q2, q5, q6, q7, q8, q9, qa, qb, reduceIte, sxk, sy, q3, q4]
    refine W.seqK fun K5 hK5 => ?_
    refine W.pure (ds := []) rfl fun K6 hK6 => ?_
    simp only [sx, ty, q1, q2, q5, q6, q7, q8, q9, qa, qb, reduceIte, sy, q3, q4]; with_reducible refine hK6 _ ?_; clear hK6
    refine W.cond rfl rfl (fun hc => ?_) (fun hc => ?_)
    · skip
      have hlt : i < ids.length := by simpa using hc
      obtain ⟨id, hid⟩ := len_lt (rfl : ids.length = _) hlt
      obtain ⟨y, hy, hye⟩ := hin id (List.mem_of_getElem? hid)
      refine W.skip (hK5 _ ?_)
      refine W.seqK fun K7 hK7 => ?_
      refine W.block ?_
      refine W.pure (ds := []) rfl fun K8 hK8 => ?_
      simp only [sx, ty, q1, q2, q5, q6, q7, q8, q9, qa, qb, reduceIte, sy, q3, q4]; with_reducible refine hK8 _ ?_; clear hK8
      refine W.seqK fun K9 hK9 => ?_
      refine W.pure (ds := []) rfl fun K10 hK10 => ?_
      simp only [sx, ty, q1, q2, q5, q6, q7, q8, q9, qa, qb, reduceIte, sy, q3, q4]; with_reducible refine hK10 _ ?_; clear hK10
      refine W.block ?_
      refine W.loopO (X := Nat × List DE × Option Addr × Nat) [0, 1, 7, 8] (fun x => [(6, .val (.slice x.2.2.1 x.2.1.length x.2.2.2)), (9, .val (.int .i64 (x.1 : Int)))]) (fun x => [.slice 41 4 (.slice x.2.2.1 x.2.1.length x.2.2.2) x.2.1.length (desV x.2.1)]) (fun x => [((fun _ => True), w)]) (fun x => x.1 ≤ n ∧ x.2.1 = out ++ ((xs.take x.1).filter fun x => decide (x.1.1 = id))) (fun x => n - x.1) (0, out, pq, cq) ?_ ?_ ?_
      · exact ⟨rfl, by simp [getE, bnd, keepE], ⟨[], by simp⟩, by simp [Own.bnd, bndL, bnd, boxO], by simp⟩
      · skip
        exact ⟨Nat.zero_le _, by simp⟩
      · rintro ⟨k, o2, pr, cr⟩ ⟨hkc, ho2⟩
        simp only at hkc ho2
        have hfl : o2.length ≤ 400 := by
          rw [ho2, List.length_append]
          have := List.length_filter_le (fun x : DE => decide (x.1.1 = id)) (xs.take k)
          simp only [List.length_take] at this
          omega
        simp only [sx, ty, q1, q2, q5, q6, q7, q8, q9, qa, qb, reduceIte, sxk, sy, q3, q4]
        refine W.seqK fun K11 hK11 => ?_
        refine W.pure (ds := []) rfl fun K12 hK12 => ?_
        simp only [sx, ty, q1, q2, q5, q6, q7, q8, q9, qa, qb, reduceIte, sy, q3, q4]; with_reducible refine hK12 _ ?_; clear hK12
        refine W.cond rfl rfl (fun hc => ?_) (fun hc => ?_)
        · skip
          have hlt2 : k < n := by simpa using hc
          obtain ⟨z, hz⟩ := len_lt hn hlt2
          have hft := filter_take (id := id) hz
          refine W.skip (hK11 _ ?_)
          refine W.seqK fun K13 hK13 => ?_
          refine W.block ?_
          refine W.seqK fun K14 hK14 => ?_
          refine W.regionQ mixed (by kernel_rfl) ?_
          refine WQ.go 2 (ds := []) rfl ?_
          simp only [sx, ty, q1, q2, q5, q6, q7, q8, q9, qa, qb, reduceIte, sxq, sy, q3, q4]
          refine WQ.elemF (y := z) hl (by simp [St.put]) (ds := []) rfl rfl rfl (by simp [St.put]) (fun _ => rfl) rfl (by simp [St.put]) (fun _ _ => rfl) rfl rfl rfl rfl rfl rfl el22 fo41_0 agg3 sz3 (by decide) (.inr rfl) (by omega) (hz) fun p q ces hces => ?_
          have hces : ces = deV z := hces
          subst hces
          simp only [deV]
          refine WQ.go 2 (ds := []) rfl ?_
          simp only [sx, ty, q1, q2, q5, q6, q7, q8, q9, qa, qb, reduceIte, sxq, sy, q3, q4]
          refine WQ.elem (y := id) hi (by simp [St.put]) (ds := []) rfl rfl rfl (by simp [St.put]) (fun _ => rfl) rfl rfl rfl rfl rfl el27 agg3 sz3 (.inr rfl) (by omega) (hid) fun p ces hces => ?_
          obtain rfl := rInt_open hces
          clear hces
          refine WQ.go 1 (ds := []) rfl ?_
          simp only [sx, ty, q1, q2, q5, q6, q7, q8, q9, qa, qb, reduceIte, sxq, sy, q3, q4]
          with_reducible refine WQ.nil ?_
          refine hK14 _ ?_; clear hK14
          refine W.cond rfl rfl (fun hc => ?_) (fun hc => ?_)
          · skip
            have hzi : z.1.1 = id := by simpa using hc
            rw [if_pos hzi] at hft
            refine W.region ?_
            refine WO.go 3 (ds := []) rfl ?_
            simp only [sx, ty, q1, q2, q5, q6, q7, q8, q9, qa, qb, reduceIte, sy, q3, q4]
            refine WO.elem (y := z) hl (by simp [St.put]) (ds := []) rfl rfl rfl (by simp [St.put]) (fun _ => rfl) rfl rfl rfl rfl rfl el22 agg41 sz41 (.inl rfl) (by omega) (hz) fun p ces hces => ?_
            have hces : ces = deV z := hces
            subst hces
            simp only [deV, ofCells, if_true, List.toList_toArray]
            refine WO.go 1 (ds := []) rfl ?_
            simp only [sx, ty, q1, q2, q5, q6, q7, q8, q9, qa, qb, reduceIte, sy, q3, q4]
            refine WO.append (k := 0) (m := 1) (deV z) (ds := []) rfl rfl rfl rfl rfl rfl rfl ek22 (news_own (k2 := 1) rfl fun _ => rfl) rfl (by simp [deV, Value.oneCell']) (by rw [maxLen_eq]; omega) (by omega) fun p6 c6 => ?_
            refine WO.go 1 (ds := []) rfl ?_
            simp only [sx, ty, q1, q2, q5, q6, q7, q8, q9, qa, qb, reduceIte, sy, q3, q4]
            with_reducible refine WO.nil ?_
            refine hK13 _ ?_
            refine W.region ?_
            refine WO.go 3 (ds := []) rfl ?_
            simp only [sx, ty, q1, q2, q5, q6, q7, q8, q9, qa, qb, reduceIte, sy, q3, q4]
            with_reducible refine WO.nil ?_
            refine ⟨(k + 1, o2 ++ [z], p6, c6), ⟨hlt2, by simp only; rw [hft, ho2, List.append_assoc]⟩, by simp only; omega, rfl, by simp [getE, bnd, keepE, wrap_succ (show k + 1 ≤ 9223372036854775807 by omega)], ⟨_, by simp only [desV_app, List.length_append, List.length_singleton]; rfl⟩, by simp [Own.bnd, bndL, bnd], by simp⟩
          · skip
            have hzi : ¬ z.1.1 = id := by simpa using hc
            rw [if_neg hzi, List.append_nil] at hft
            refine W.skip (hK13 _ ?_)
            refine W.region ?_
            refine WO.go 3 (ds := []) rfl ?_
            simp only [sx, ty, q1, q2, q5, q6, q7, q8, q9, qa, qb, reduceIte, sy, q3, q4]
            with_reducible refine WO.nil ?_
            refine ⟨(k + 1, o2, pr, cr), ⟨hlt2, by simp only; rw [hft, ho2]⟩, by simp only; omega, rfl, by simp [getE, bnd, keepE, wrap_succ (show k + 1 ≤ 9223372036854775807 by omega)], ⟨[], by simp⟩, by simp [Own.bnd, bndL, bnd], by simp⟩
        · skip
          have hkn : k = n := Nat.le_antisymm hkc (by simpa using hc)
          rw [hkn, ← hn, List.take_length, filter_one hnd hy hye] at ho2
          refine W.exit (hK9 _ ?_)
          refine W.join 61 (.val (.bool false)) [0, 1, 6, 7] (W.regionQ mixed (by kernel_rfl) ?_) ?_
          · skip
            refine WQ.go 6 (ds := [some 41, some 42, some 43, some 44, some 45, some 46, some 47, some 48, some 49, some 50, some 51, some 52, some 53, some 54, some 55, some 56, some 57, some 58, some 59, some 60, some 61]) rfl ?_
            simp only [sx, ty, q1, q2, q5, q6, q7, q8, q9, qa, qb, reduceIte, sxq, sy, q3, q4]
            refine WQ.cases 46 _ rfl (fun hg46 => ?_) (fun hg46 => ?_)
            · skip
              (rw [wrap_id (by omega) (by omega), ho2] at hg46; simp [hol] at hg46)
            · skip
              refine WQ.go 3 (ds := [some 41, some 42, some 43, some 44, some 45, some 46, some 47, some 48, some 49, some 50, some 51, some 52, some 53, some 54, some 55, some 56, some 57, some 58, some 59, some 60, some 61]) rfl ?_
              simp only [sx, ty, q1, q2, q5, q6, q7, q8, q9, qa, qb, reduceIte, sxq, sy, q3, q4]
              refine WQ.cases 49 _ rfl (fun hg49 => ?_) (fun hg49 => ?_)
              · skip
                have hi0 : 0 < i := by simpa using hg49
                obtain ⟨id0, hid0⟩ := len_lt (rfl : ids.length = _) (show i - 1 < ids.length by omega)
                have hlt9 : id0 < id := by
                  have := List.pairwise_iff_getElem.1 hsort (i - 1) i (by omega) hlt (by omega)
                  rwa [(List.getElem?_eq_some_iff.1 hid0).2, (List.getElem?_eq_some_iff.1 hid).2] at this
                have hj1 : IntKind.i64.wrap ((i : Int) - 1) = ((i - 1 : Nat) : Int) := by rw [wrap_id (by omega) (by omega)]; omega
                refine WQ.go 2 (ds := [some 41, some 42, some 43, some 44, some 45, some 46, some 47, some 48, some 49, some 50, some 51, some 52, some 53, some 54, some 55, some 56, some 57, some 58, some 59, some 60, some 61]) rfl ?_
                simp only [sx, ty, q1, q2, q5, q6, q7, q8, q9, qa, qb, reduceIte, sxq, sy, q3, q4]
                refine WQ.elem (y := id) hi (by simp [St.put]) (ds := [some 41, some 42, some 43, some 44, some 45, some 46, some 47, some 48, some 49, some 50, some 51, some 52, some 53, some 54, some 55, some 56, some 57, some 58, some 59, some 60, some 61]) rfl rfl rfl (by simp [St.put]) (fun _ => rfl) rfl rfl rfl rfl rfl el27 agg3 sz3 (.inr rfl) (by omega) (hid) fun p ces hces => ?_
                obtain rfl := rInt_open hces
                clear hces
                refine WQ.go 3 (ds := [some 41, some 42, some 43, some 44, some 45, some 46, some 47, some 48, some 49, some 50, some 51, some 52, some 53, some 54, some 55, some 56, some 57, some 58, some 59, some 60, some 61]) rfl ?_
                simp only [sx, ty, q1, q2, q5, q6, q7, q8, q9, qa, qb, reduceIte, sxq, sy, q3, q4]
                simp only [hj1]
                refine WQ.elem (y := id0) hi (by simp [St.put]) (ds := [some 41, some 42, some 43, some 44, some 45, some 46, some 47, some 48, some 49, some 50, some 51, some 52, some 53, some 54, some 55, some 56, some 57, some 58, some 59, some 60, some 61]) rfl rfl rfl (by simp [St.put]) (fun _ => rfl) rfl rfl rfl rfl rfl el27 agg3 sz3 (.inr rfl) (by omega) hid0 fun p ces hces => ?_
                obtain rfl := rInt_open hces
                clear hces
                simp only [ofCells, Bool.false_eq_true, if_false, List.headD_cons]
                refine WQ.go 3 (ds := [some 41, some 42, some 43, some 44, some 45, some 46, some 47, some 48, some 49, some 50, some 51, some 52, some 53, some 54, some 55, some 56, some 57, some 58, some 59, some 60, some 61]) rfl ?_
                simp only [sx, ty, q1, q2, q5, q6, q7, q8, q9, qa, qb, reduceIte, sxq, sy, q3, q4]
                with_reducible refine WQ.nil ?_
                refine ⟨rfl, ?_, ⟨_, rfl⟩, by simp [Own.bnd, bndL, bnd, boxO], by simp⟩
                try simp [getE, bnd, keepE, ho2, hol]
                try omega
              · skip
                refine WQ.go 12 (ds := [some 41, some 42, some 43, some 44, some 45, some 46, some 47, some 48, some 49, some 50, some 51, some 52, some 53, some 54, some 55, some 56, some 57, some 58, some 59, some 60, some 61]) rfl ?_
                simp only [sx, ty, q1, q2, q5, q6, q7, q8, q9, qa, qb, reduceIte, sxq, sy, q3, q4]
                with_reducible refine WQ.nil ?_
                refine ⟨rfl, ?_, ⟨_, rfl⟩, by simp [Own.bnd, bndL, bnd, boxO], by simp⟩
                try simp [getE, bnd, keepE, ho2, hol]
                try omega
          · simp only [sx, ty, q1, q2, q5, q6, q7, q8, q9, qa, qb, reduceIte, sxk, sy, q3, q4]
            refine W.cond rfl rfl (fun hc => ?_) (fun hc => ?_)
            · skip
              simp at hc
            · skip
              refine W.skip (hK7 _ ?_)
              refine W.region ?_
              refine WO.go 3 (ds := []) rfl ?_
              simp only [sx, ty, q1, q2, q5, q6, q7, q8, q9, qa, qb, reduceIte, sy, q3, q4]
              with_reducible refine WO.nil ?_
              refine ⟨(i + 1, o2, pr, cr), ⟨hlt, by simp only; rw [ho2, List.map_append, hom, List.take_add_one, hid]; simp [hye], fun y9 hy9 => ?_⟩, by simp only; omega, rfl, by simp [getE, bnd, keepE, wrap_succ (show i + 1 ≤ 9223372036854775807 by omega)], ⟨[], by simp⟩, by simp [Own.bnd, bndL, bnd], by simp⟩
              rw [ho2] at hy9
              rcases List.mem_append.1 hy9 with h | h
              · exact hox y9 h
              · rw [List.mem_singleton] at h; rw [h]; exact hy
    · skip
      have him : i = ids.length := Nat.le_antisymm hic (by simpa using hc)
      refine W.exit (hK3 _ ?_)
      refine W.pure (ds := []) rfl fun K16 hK16 => ?_
      simp only [sx, ty, q1, q2, q5, q6, q7, q8, q9, qa, qb, reduceIte, sy, q3, q4]; with_reducible refine hK16 _ ?_; clear hK16
      refine W.ret ⟨by simp, _, rfl, fun ρ w1 hb => ?_⟩
      rw [him, List.take_length] at hom
      exact ⟨(out, pq, cq), by simp only [den, denL]; rw [hol, him], hom, hox, by have h9 := own_slice (A := rDE) (S := fun b => w.heap.size ≤ b) (k := 0) (n := out.length) hb rfl rfl (fun b hb' => own_new hb (by simp) (k := 0) rfl hb') (des_read out); rwa [hol, him] at h9⟩
/-- function 12 -/
theorem meets_spec {S S2 : Nat → Prop} {w : World} {p2 p8 : Option Addr} {c2 c8 k : Nat} {d : Dem} {cs : List Cop} {c : Cop} {hall : Int} {g : Giv} (hel : rInts.rd S w [.slice p8 d.2.2.2.length c8] d.2.2.2) (hl2 : rCops.rd S2 w [.slice p2 cs.length c2] cs) (hle : d.2.2.2.length ≤ 1000) (hnd : (cs.map (·.1)).Nodup) (h200 : cs.length ≤ 200) (hc0 : cs[k]? = some c) (hg1 : g.2.1 = c.1) (hg2 : g.2.2 = costF d c hall) (h0 : 0 ≤ costF d c hall) : Gives Tryz.prog 12 #[.agg #[.int .i64 d.1, .int .i64 d.2.1, .int .i64 d.2.2.1, .slice p8 d.2.2.2.length c8], .slice p2 cs.length c2, .agg #[.int .i64 g.1, .int .i64 g.2.1, .int .i64 g.2.2], .int .i64 hall] w fun r _ => r = .bool true := by
  have hl2 : (Rp.slice rCop).rd (fun _ => True) w _ cs := Rp.any hl2
  have hel : rInts.rd (fun _ => True) w _ _ := Rp.any hel
  have hkl := (List.getElem?_eq_some_iff.1 hc0).1
  refine gives_of [.val (.agg #[.int .i64 d.1, .int .i64 d.2.1, .int .i64 d.2.2.1, .slice p8 d.2.2.2.length c8]), .val (.slice p2 cs.length c2), .val (.agg #[.int .i64 g.1, .int .i64 g.2.1, .int .i64 g.2.2]), .val (.int .i64 hall)] 36 [.tmp 8] Tryz.func12 rfl rfl rfl (by simp) rfl rfl ?_
  refine W.pure (ds := []) rfl fun K1 hK1 => ?_
  simp only [sx, ty, q1, q2, q5, q6, q7, q8, q9, qa, qb, reduceIte, sy, q3, q4]; with_reducible refine hK1 _ ?_; clear hK1
  refine W.seqK fun K2 hK2 => ?_
  refine W.pure (ds := []) rfl fun K3 hK3 => ?_
  simp only [sx, ty, q1, q2, q5, q6, q7, q8, q9, qa, qb, reduceIte, sy, q3, q4]; with_reducible refine hK3 _ ?_; clear hK3
  refine W.block ?_
  refine W.loopO (X := Nat) [3, 4, 6, 12, 13] (fun x => [(14, .val (.int .i64 (x : Int)))]) (fun x => [.cells 41 [.val (.int .i64 d.1), .val (.int .i64 d.2.1), .val (.int .i64 d.2.2.1), .val (.slice p8 d.2.2.2.length c8)], .cells 39 [.val (.int .i64 g.1), .val (.int .i64 g.2.1), .val (.int .i64 g.2.2)]]) (fun x => [((fun _ => True), w)]) (fun x => x ≤ k) (fun x => cs.length - x) 0 ?_ ?_ ?_
  · exact ⟨rfl, by simp [getE, bnd, keepE], ⟨[], by simp⟩, by simp [Own.bnd, bndL, bnd, boxO], by simp⟩
  · skip
    exact Nat.zero_le _
  · rintro i hik
    simp only [sx, ty, q1, q2, q5, q6, q7, q8, q9, qa, qb, reduceIte, sxk, sy, q3, q4]
    refine W.pure (ds := []) rfl fun K4 hK4 => ?_
    simp only [sx, ty, q1, q2, q5, q6, q7, q8, q9, qa, qb, reduceIte, sy, q3, q4]; with_reducible refine hK4 _ ?_; clear hK4
    refine W.seqK fun K5 hK5 => ?_
    refine W.cond rfl rfl (fun hc => ?_) (fun hc => ?_)
    · skip
      have hlt : i < cs.length := by simpa using hc
      obtain ⟨z, hz⟩ := len_lt (rfl : cs.length = _) hlt
      refine W.skip (hK5 _ ?_)
      refine W.seqK fun K6 hK6 => ?_
      refine W.block ?_
      refine W.seqK fun K7 hK7 => W.region ?_
      refine WO.elem (y := z) hl2 (by simp [St.put]) (ds := []) rfl rfl rfl (by simp [St.put]) (fun _ => rfl) rfl rfl rfl rfl rfl el23 agg45 sz45 (.inl rfl) (by omega) (hz) fun p ces hces => ?_
      obtain rfl := rCop_open hces
      clear hces
      refine WO.go 2 (ds := []) rfl ?_
      simp only [sx, ty, q1, q2, q5, q6, q7, q8, q9, qa, qb, reduceIte, sy, q3, q4]
      with_reducible refine WO.nil ?_
      refine hK7 _ ?_; clear hK7
      refine W.pure (ds := []) rfl fun K8 hK8 => ?_
      simp only [sx, ty, q1, q2, q5, q6, q7, q8, q9, qa, qb, reduceIte, sy, q3, q4]; with_reducible refine hK8 _ ?_; clear hK8
      refine W.cond rfl rfl (fun hc => ?_) (fun hc => ?_)
      · skip
        have h9 : z.1 = g.2.1 := by simpa using hc
        have hik2 : i = k := get_inj hnd (x := c.1) (by rw [List.getElem?_map, hz]; simp only [Option.map_some]; rw [h9, hg1]) (by rw [List.getElem?_map, hc0]; rfl)
        subst hik2
        have hzc : z = c := by rw [hc0] at hz; exact (Option.some.inj hz).symm
        subst hzc
        refine W.seqK fun K9 hK9 => W.region ?_
        refine WO.go 3 (ds := []) rfl ?_
        simp only [sx, ty, q1, q2, q5, q6, q7, q8, q9, qa, qb, reduceIte, sy, q3, q4]
        refine WO.call (.int .i64 (costF d z hall)) (ds := []) rfl rfl rfl rfl co26 (fun ρ w1 hb => rcost_spec (S := fun _ => True) (S2 := fun _ => True) (ces := [.int .i64 d.1, .int .i64 d.2.1, .int .i64 d.2.2.1, .slice p8 d.2.2.2.length c8]) (cec := [.int .i64 z.1, .int .i64 z.2.1, .int .i64 z.2.2.1, .int .i64 z.2.2.2]) ⟨[_], _, rfl, rfl, [_], _, rfl, rfl, [_], _, rfl, rfl, Rp.now hel (hb.first (by simp))⟩ ⟨[_], _, rfl, rfl, [_], _, rfl, rfl, [_], _, rfl, rfl, rfl⟩ hall hle) ?_
        refine WO.go 1 (ds := []) rfl ?_
        simp only [sx, ty, q1, q2, q5, q6, q7, q8, q9, qa, qb, reduceIte, sy, q3, q4]
        with_reducible refine WO.nil ?_
        refine hK9 _ ?_; clear hK9
        refine W.join 8 (.val (.bool true)) [] (W.region ?_) ?_
        · skip
          refine WO.go 3 (ds := [some 27, some 28, some 29, some 30, some 31, some 32, some 33, some 34, some 8]) rfl ?_
          simp only [sx, ty, q1, q2, q5, q6, q7, q8, q9, qa, qb, reduceIte, sy, q3, q4]
          refine WO.cases 29 _ rfl (fun hg29 => ?_) (fun hg29 => ?_)
          · skip
            refine WO.go 6 (ds := [some 27, some 28, some 29, some 30, some 31, some 32, some 33, some 34, some 8]) rfl ?_
            simp only [sx, ty, q1, q2, q5, q6, q7, q8, q9, qa, qb, reduceIte, sy, q3, q4]
            with_reducible refine WO.nil ?_
            refine ⟨rfl, ?_, ⟨_, rfl⟩, by simp [Own.bnd, bndL, bnd, boxO], by simp⟩
            try simp [getE, bnd, keepE, h0, hg2]
            try (simp at hg29; omega)
          · skip
            refine WO.go 6 (ds := [some 27, some 28, some 29, some 30, some 31, some 32, some 33, some 34, some 8]) rfl ?_
            simp only [sx, ty, q1, q2, q5, q6, q7, q8, q9, qa, qb, reduceIte, sy, q3, q4]
            with_reducible refine WO.nil ?_
            refine ⟨rfl, ?_, ⟨_, rfl⟩, by simp [Own.bnd, bndL, bnd, boxO], by simp⟩
            try simp [getE, bnd, keepE, h0, hg2]
            try (simp at hg29; omega)
        · simp only [sx, ty, q1, q2, q5, q6, q7, q8, q9, qa, qb, reduceIte, sxk, sy, q3, q4]
          refine W.ret ⟨by simp, _, rfl, fun ρ w1 hb => ?_⟩
          rfl
      · skip
        have hne : i ≠ k := fun he => by
          subst he
          rw [hc0] at hz
          obtain rfl := Option.some.inj hz
          rw [hg1] at hc; simp at hc
        refine W.skip (hK6 _ ?_)
        refine W.region ?_
        refine WO.go 2 (ds := []) rfl ?_
        simp only [sx, ty, q1, q2, q5, q6, q7, q8, q9, qa, qb, reduceIte, sy, q3, q4]
        with_reducible refine WO.nil ?_
        refine ⟨i + 1, by omega, by omega, rfl, by simp [getE, bnd, keepE, wrap_succ (show i + 1 ≤ 9223372036854775807 by omega)], ⟨_, by simp; rfl⟩, by simp [Own.bnd, bndL, bnd], by simp⟩
    · skip
      have hF : False := by simp at hc; omega
      refine W.exit (hK2 _ ?_)
      refine W.pure (ds := []) rfl fun K11 hK11 => ?_
      simp only [sx, ty, q1, q2, q5, q6, q7, q8, q9, qa, qb, reduceIte, sy, q3, q4]; with_reducible refine hK11 _ ?_; clear hK11
      refine W.ret ⟨by simp, _, rfl, fun ρ w1 hb => ?_⟩
      exact hF.elim
end Go.Proofs.YtolmeekbjonbcaaGreat
set_option linter.unusedVariables false
set_option linter.unusedSimpArgs false
namespace Go.SX
open Go Go.RowKit
section
variable {P : Program} {ops : Array Oper} {Q : Exit → St → Prop} {σ : St} {l rest : List Oper} {o : Oper} {ds : List (Option Nat)}
def vmL : Nat → List (Int × Value) → List MapEntry
  | _, [] => []
  | i, k :: ks => ⟨.int .i64 k.1, k.2, i⟩ :: vmL (i + 1) ks
def vmE (ks : List (Int × Value)) : Array MapEntry := (vmL 0 ks).toArray
theorem vmL_append : ∀ (ks : List (Int × Value)) (i : Nat) (k : Int × Value), vmL i (ks ++ [k]) = vmL i ks ++ [⟨.int .i64 k.1, k.2, i + ks.length⟩]
  | [], i, k => by simp [vmL]
  | x :: ks, i, k => by simp [vmL, vmL_append ks (i + 1) k, Nat.add_assoc, Nat.add_comm 1]
theorem vmE_push (ks : List (Int × Value)) (k : Int) (v : Value) : (vmE ks).push ⟨.int .i64 k, v, ks.length⟩ = vmE (ks ++ [(k, v)]) := by
  apply Array.toList_inj.1
  simp [vmE, vmL_append]
def mapInt (P : Program) (t : TypeId) : Bool :=
  match P.underlying t with
  | some (.map k _) => match P.underlying k with
    | some (.int _) => true
    | _ => false
  | _ => false
theorem mapInt_spec {t : TypeId} (h : mapInt P t = true) : ∃ k e kk, P.underlying t = some (.map k e) ∧ P.underlying k = some (.int kk) := by
  unfold mapInt at h
  split at h
  · rename_i k e hu
    split at h
    · rename_i kk h1
      exact ⟨k, e, kk, hu, h1⟩
    · cases h
  · cases h
theorem findNow_vm (kk : IntKind) (x : Int) : ∀ (ks : List (Int × Value)) (i j : Nat), (Instr.findNow (.int kk) (.int .i64 x) (vmL i ks) j = some none ∧ x ∉ ks.map (·.1)) ∨ (∃ n v, Instr.findNow (.int kk) (.int .i64 x) (vmL i ks) j = some (some (n, v)) ∧ (x, v) ∈ ks)
  | [], i, j => .inl ⟨rfl, by simp⟩
  | k :: ks, i, j => by
    by_cases h : x = k.1
    · exact .inr ⟨j, k.2, by simp [vmL, Instr.findNow, Instr.sameNow, h], by rw [h]; simp⟩
    · rcases findNow_vm kk x ks (i + 1) (j + 1) with ⟨h1, h2⟩ | ⟨n, v, h1, h2⟩
      · left
        refine ⟨?_, by simp only [List.map_cons, List.mem_cons]; exact fun hh => hh.elim h h2⟩
        simp only [vmL, Instr.findNow, Instr.sameNow, if_true]
        have : (x == k.1) = false := by simpa using h
        rw [this]; exact h1
      · right
        refine ⟨n, v, ?_, by simp [h2]⟩
        simp only [vmL, Instr.findNow, Instr.sameNow, if_true]
        have : (x == k.1) = false := by simpa using h
        rw [this]; exact h1
theorem WO.makeV {t : TypeId} (hds : dsOk ds ops.toList = true) (hg : gd ds σ o.guard = some true) (hd : dOk σ o.dst = true)
    (hop : o.op = .makeMap t none) (h : ∀ r, WO P ops Q rest ((σ.pushO (.map r (vmE []) ([] : List (Int × Value)).length)).put o.dst (.val (.map (some r))))) : WO P ops Q (o :: rest) σ :=
  WO.makeSet hds hg hd hop h
/-- v, there := m[x], x being there -/
theorem WO.lookupV {t : TypeId} {m x : Operand} {k r : Nat} {ks : List (Int × Value)} {y : Int} (v : Value) (hds : dsOk ds ops.toList = true) (hg : gd ds σ o.guard = some true) (hd : dOk σ o.dst = true)
    (hop : o.op = .lookup t m x true) (hk : nth σ.own k = some (.map r (vmE ks) ks.length)) (hm : ev σ m = some (.val (.map (some r)))) (hx : ev σ x = some (.val (.int .i64 y))) (ht : mapInt P t = true)
    (hin : y ∈ ks.map (·.1)) (hv : ∀ u, (y, u) ∈ ks → u = v) (h : WO P ops Q rest (σ.put o.dst (.val (.tuple #[v, .bool true])))) : WO P ops Q (o :: rest) σ :=
  WO.one hds hg fun ρ a w hs => by
    rw [nth_eq] at hk
    have hown := hs.base.own k _ hk ρ (Agree.refl _ _)
    simp only [Own.holds] at hown
    obtain ⟨kt, et, kk, hu, hkk⟩ := mapInt_spec ht
    refine ⟨ρ, _, .tuple #[v, .bool true], w, .inl ?_, hs.put _ _ _ (dOk_lt hd) (fun _ _ => rfl), h⟩
    unfold execOp
    rw [hop]
    simp only [Sem.run_bind, hs.ev hm ρ (Agree.refl _ _), hs.ev hx ρ (Agree.refl _ _), den, Instr.lookup, run_underlying hu, Result.andThen_ok]
    have hget : (getObj r).run P w = .ok (.map (vmE ks) ks.length) w := by simp [getObj, Sem.run, hown]
    simp only [hget, Result.andThen_ok, Sem.run_bind, Sem.run_pure, run_checkKey hkk, Instr.findKey, run_underlying hkk]
    rcases findNow_vm kk y ks 0 0 with ⟨h1, h2⟩ | ⟨n, u, h1, h2⟩
    · exact absurd hin h2
    · obtain rfl := hv u h2
      simp [vmE, h1]
/-- m[x] = v, x being new -/
theorem WO.addV {t : TypeId} {m x vo : Operand} {k r : Nat} {ks : List (Int × Value)} {y : Int} (v : Value) (hds : dsOk ds ops.toList = true) (hg : gd ds σ o.guard = some true) (hd : dOk σ o.dst = true)
    (hop : o.op = .mapUpdate t m x vo) (hk : nth σ.own k = some (.map r (vmE ks) ks.length)) (hm : ev σ m = some (.val (.map (some r)))) (hx : ev σ x = some (.val (.int .i64 y))) (hv : ∃ s, ev σ vo = some s ∧ ∀ ρ, den ρ s = v) (ht : mapInt P t = true)
    (hnew : y ∉ ks.map (·.1)) (h : WO P ops Q rest ((setOwn σ k (.map r (vmE (ks ++ [(y, v)])) (ks ++ [(y, v)]).length)).put o.dst (.val undef))) : WO P ops Q (o :: rest) σ :=
  WO.one hds hg fun ρ a w hs => by
    rw [nth_eq] at hk
    have hown := hs.base.own k _ hk ρ (Agree.refl _ _)
    simp only [Own.holds] at hown
    obtain ⟨kt, et, kk, hu, hkk⟩ := mapInt_spec ht
    obtain ⟨sv, hsv, hdv⟩ := hv
    have hlt : r < w.heap.size := (Array.getElem?_eq_some_iff.1 hown).1
    have hget : (getObj r).run P w = .ok (.map (vmE ks) ks.length) w := by simp [getObj, Sem.run, hown]
    have hgr : w.grownBy { w with heap := w.heap.setIfInBounds r (.map (vmE (ks ++ [(y, v)])) (ks.length + 1)) } (some r) :=
      ⟨rfl, rfl, rfl, by simp, fun j hj hne => by simp [Array.getElem?_setIfInBounds, show r ≠ j from fun e => hne (by rw [e])]⟩
    refine ⟨ρ, _, undef, _, .inr ⟨?_, rfl⟩, Sat.put (hs.turn (o' := .map r (vmE (ks ++ [(y, v)])) (ks ++ [(y, v)]).length) hk (fun _ _ h => by cases h) hgr ?_ (fun b hb => .inl hb)) _ _ _ ?_ (fun _ _ => rfl), h⟩
    · unfold execOp
      rw [hop]
      simp only [Sem.run_bind, hs.ev hm ρ (Agree.refl _ _), hs.ev hx ρ (Agree.refl _ _), hs.ev hsv ρ (Agree.refl _ _), hdv, den, Instr.mapUpdate, run_underlying hu, Result.andThen_ok]
      simp only [hget, Result.andThen_ok, Sem.run_bind, run_checkKey hkk, Instr.findKey, run_underlying hkk]
      rcases findNow_vm kk y ks 0 0 with ⟨h1, h2⟩ | ⟨n, u, h1, h2⟩
      · have hpush : (vmE ks).push { key := Value.int IntKind.i64 y, val := v, born := ks.length } = vmE (ks ++ [(y, v)]) := vmE_push ks y v
        have hset : (setObj r (.map (vmE (ks ++ [(y, v)])) (ks.length + 1))).run P w = .ok () { w with heap := w.heap.setIfInBounds r (.map (vmE (ks ++ [(y, v)])) (ks.length + 1)) } := by simp [setObj, Sem.run, hown]
        have h1' : Instr.findNow (TypeDesc.int kk) (Value.int IntKind.i64 y) (vmE ks).toList 0 = some none := h1
        rw [h1']
        simp only [Sem.run_pure, Result.andThen_ok, hpush, hset]
      · exact absurd (List.mem_map.2 ⟨_, h2, rfl⟩) hnew
    · simp [Own.holds, hlt]
    · intro j hj; exact dOk_lt (σ := setOwn σ k _) (by rw [dOk_setOwn]; exact hd) j hj
end
end Go.SX
set_option linter.unusedVariables false
set_option linter.unusedSimpArgs false
set_option maxHeartbeats 2000000
namespace Go.Proofs.YtolmeekbjonbcaaGreat
open Int renaming reduceEq → q1, reduceLT → q2, reduceBEq → q3, reduceBNe → q4
open Nat renaming reduceAdd → q5, reduceSub → q6, reduceMul → q7, reduceLT → q8, reduceLeDiff → q9, reduceEqDiff → qa
open List renaming reduceReplicate → qb
open Go Go.SX Go.RowKit
theorem hall0 : within 0 99 0 = true := rfl
/-- function 35 -/
theorem met35_spec {S1 S2 S3 : Nat → Prop} {w : World} {p0 p2 : Option Addr} {c0 c2 : Nat} {l : List DE} {cs : List Cop} {a : Addr} (ha : At w a [.slice p2 cs.length c2, .int .i64 0]) (hal : a.block < w.heap.size) (hl : rDEs.rd S1 w [.slice p0 l.length c0] l) (he : ∀ x, x ∈ l → OkE S2 w x) (hl2 : rCops.rd S3 w [.slice p2 cs.length c2] cs) (hv : valid (l.map (·.1)) cs = true) (h11 : cs.length ≤ 11) (b : Bool) (hb9 : b = true ↔ MeetL (l.map (·.1)) cs) : Gives Tryz.prog 35 #[.slice p0 l.length c0, .pointer (some a)] w fun r _ => r = .bool b := by
  have hl : (Rp.slice rDE).rd (fun _ => True) w _ l := Rp.any hl
  have hl2 : (Rp.slice rCop).rd (fun _ => True) w _ cs := Rp.any hl2
  refine gives_of [.val (.slice p0 l.length c0), .val (.pointer (some a))] 15 [.tmp 3] Tryz.func35 rfl rfl rfl (by simp) rfl rfl ?_
  refine W.pure (ds := []) rfl fun K1 hK1 => ?_
  simp only [sx, ty, q1, q2, q5, q6, q7, q8, q9, qa, qb, reduceIte, sy, q3, q4]; with_reducible refine hK1 _ ?_; clear hK1
  refine W.seqK fun K2 hK2 => W.region ?_
  refine WO.q (ds := []) rfl rfl rfl (QR.load [.slice p2 cs.length c2, .int .i64 0] true rfl rfl agg61 sz61 (.inl rfl) (fun ρ w1 hb => ha.frame ((hb.first (by simp [St.put])).block _ trivial hal))) ?_
  simp only [List.drop_succ_cons, List.drop_zero, List.take_succ_cons, List.take_zero, ofCells, Bool.false_eq_true, if_false, List.headD_cons, if_true, List.toList_toArray]
  refine WO.go 1 (ds := []) rfl ?_
  simp only [sx, ty, q1, q2, q5, q6, q7, q8, q9, qa, qb, reduceIte, sy, q3, q4]
  refine WO.callX (fun x : (Option Addr × Nat) × (Nat × Option Addr × Nat) × Bool => .tuple #[.slice x.1.1 l.length x.1.2, .slice x.2.1.2.1 x.2.1.1 x.2.1.2.2, .bool x.2.2]) (fun x => x.2.2 = true ↔ MeetL (l.map (fun z : DE => z.1)) cs) (ds := []) rfl rfl rfl rfl co23 (fun ρ w1 hb => met_de (Rp.now hl (hb.first (by simp [St.put]))) (fun z hz => (he z hz).now (hb.first (by simp [St.put]))) (Rp.now hl2 (hb.first (by simp [St.put]))) hv hall0 h11) fun x hx9 => ?_
  obtain ⟨x1, x2, bm⟩ := x
  simp only at hx9
  refine WO.go 7 (ds := []) rfl ?_
  simp only [sx, ty, q1, q2, q5, q6, q7, q8, q9, qa, qb, reduceIte, sy, q3, q4]
  with_reducible refine WO.nil ?_
  refine hK2 _ ?_; clear hK2
  refine W.pure (ds := []) rfl fun K3 hK3 => ?_
  simp only [sx, ty, q1, q2, q5, q6, q7, q8, q9, qa, qb, reduceIte, sy, q3, q4]; with_reducible refine hK3 _ ?_; clear hK3
  refine W.ret ⟨by simp, _, rfl, fun ρ w1 hb => ?_⟩
  simp only [den, Value.bool.injEq]
  rw [Bool.eq_iff_iff, hb9, hx9]
/-- function 36 -/
theorem need_spec {S1 S2 S3 : Nat → Prop} {w : World} {p0 p2 : Option Addr} {c0 c2 : Nat} {l : List DE} {cs : List Cop} {a a1 a2 : Addr} (ha : At w a [.slice p2 cs.length c2, .int .i64 0]) (hal : a.block < w.heap.size) (h1 : At w a1 [.func (.func 35) #[] #[.pointer (some a)]]) (h1l : a1.block < w.heap.size) (h2 : At w a2 [.slice p0 l.length c0]) (h2l : a2.block < w.heap.size) (hl : rDEs.rd S1 w [.slice p0 l.length c0] l) (he : ∀ x, x ∈ l → OkE S2 w x) (hl2 : rCops.rd S3 w [.slice p2 cs.length c2] cs) (hv : valid (l.map (·.1)) cs = true) (h11 : cs.length ≤ 11) (h12 : l.length ≤ 12) (hpos : 0 < l.length) (x : DE) (b : Bool) (hb9 : b = true ↔ MeetL (withoutF (l.map (·.1)) x.1.1) cs) : Gives Tryz.prog 36 #[deA x, .pointer (some a1), .pointer (some a2)] w fun r _ => r = .bool b := by
  have hl : (Rp.slice rDE).rd (fun _ => True) w _ l := Rp.any hl
  have hl2 : (Rp.slice rCop).rd (fun _ => True) w _ cs := Rp.any hl2
  have hvl : valid ((filtF x.1.1 l).map (·.1)) cs = true := by rw [filtF_map]; exact valid_sub hv List.filter_sublist
  have hfl := filtF_le x.1.1 l
  have hfm := filtF_map x.1.1 l
  refine gives_of [.val (.agg #[.int .i64 x.1.1, .int .i64 x.1.2.1, .int .i64 x.1.2.2.1, .slice x.2.1 x.1.2.2.2.length x.2.2]), .val (.pointer (some a1)), .val (.pointer (some a2))] 11 [.tmp 4] Tryz.func36 rfl rfl rfl (by simp) rfl rfl ?_
  refine W.pure (ds := []) rfl fun K1 hK1 => ?_
  simp only [sx, ty, q1, q2, q5, q6, q7, q8, q9, qa, qb, reduceIte, sy, q3, q4]; with_reducible refine hK1 _ ?_; clear hK1
  refine W.pinA (by simp [smallO]) fun β => ?_
  obtain ⟨b0, hb0⟩ : ∃ b0, β 0 = b0 := ⟨_, rfl⟩
  simp only [pinEn, pinOw, den, denL, Nat.zero_add, Nat.reduceAdd, hb0]
  refine W.seqK fun K2 hK2 => ?_
  refine W.regionF [0, 1, 2, 3] [4, 5, 6] ([boxO 41 b0 [.int .i64 x.1.1, .int .i64 x.1.2.1, .int .i64 x.1.2.2.1, .slice x.2.1 x.1.2.2.2.length x.2.2]]) mixed (by kernel_rfl) rfl (by simp [keptL, boxO]) rfl (fun _ _ h => h) ?_
  simp only [sx, ty, q1, q2, q5, q6, q7, q8, q9, qa, qb, reduceIte, sxt, List.toList_toArray, RunP, sy, q3, q4]
  refine WF.q rfl rfl (QR.load [.func (.func 35) #[] #[.pointer (some a)]] false rfl rfl agg59 sz59 (.inr rfl) (fun ρ w1 hb => h1.frame ((hb.first (by simp [St.put])).block _ trivial h1l))) ?_
  simp only [List.drop_succ_cons, List.drop_zero, List.take_succ_cons, List.take_zero, ofCells, Bool.false_eq_true, if_false, List.headD_cons, if_true, List.toList_toArray]
  simp only [sx, ty, q1, q2, q5, q6, q7, q8, q9, qa, qb, reduceIte, sxt, List.toList_toArray, RunP, sy, q3, q4]
  refine WF.q rfl rfl (QR.load [.slice p0 l.length c0] false rfl rfl agg22 sz22 (.inr rfl) (fun ρ w1 hb => h2.frame ((hb.first (by simp [St.put])).block _ trivial h2l))) ?_
  simp only [List.drop_succ_cons, List.drop_zero, List.take_succ_cons, List.take_zero, ofCells, Bool.false_eq_true, if_false, List.headD_cons, if_true, List.toList_toArray]
  simp only [sx, ty, q1, q2, q5, q6, q7, q8, q9, qa, qb, reduceIte, sxt, List.toList_toArray, RunP, sy, q3, q4]
  refine WF.go rfl rfl rfl ?_
  simp only [sx, ty, q1, q2, q5, q6, q7, q8, q9, qa, qb, reduceIte, sxt, List.toList_toArray, RunP, sy, q3, q4]
  refine WF.q rfl rfl (QR.load [.int .i64 x.1.1] false rfl rfl agg3 sz3 (.inr rfl) (fun ρ w1 hb => (box_at (k := 0) hb rfl).part 0 1)) ?_
  simp only [List.drop_succ_cons, List.drop_zero, List.take_succ_cons, List.take_zero, ofCells, Bool.false_eq_true, if_false, List.headD_cons]
  simp only [sx, ty, q1, q2, q5, q6, q7, q8, q9, qa, qb, reduceIte, sxt, List.toList_toArray, RunP, sy, q3, q4]
  refine WF.nil ?_
  simp only [sx, ty, q1, q2, q5, q6, q7, q8, q9, qa, qb, reduceIte, sxt, List.toList_toArray, RunP, sy, q3, q4]
  refine WC.one ?_
  refine WO.callO (X := {y : List Value × Option Addr × Nat // y.1.take ((filtF x.1.1 l).length * 4) = desV (filtF x.1.1 l)}) (fun y => .slice y.1.2.1 (filtF x.1.1 l).length y.1.2.2) (fun y => .slice 41 4 (.slice y.1.2.1 l.length y.1.2.2) l.length y.1.1) (ds := []) rfl rfl rfl rfl co37 (fun x T cs h => by cases h) (fun ρ w1 hb => withoutO_spec (Rp.now hl (hb.first (by simp))) rfl hpos h12) fun y => ?_
  obtain ⟨⟨ys, p5, c5⟩, hys⟩ := y
  simp only [sx, ty, q1, q2, q5, q6, q7, q8, q9, qa, qb, reduceIte, List.append_assoc, List.cons_append, List.nil_append, sy, q3, q4]
  with_reducible refine WC.next (by simp [keptL, boxO]) (by simp) ?_
  refine WC.one ?_
  refine WO.call (.bool b) (ds := []) rfl rfl rfl rfl co35 (fun ρ w1 hb => met35_spec (ha.frame ((hb.first (by simp)).block _ trivial hal)) (Nat.lt_of_lt_of_le hal (hb.first (w0 := w) (by simp)).size) (part_read (S := fun _ => True) hb (k := 1) rfl hys rfl hfl (fun _ _ => trivial)) (fun z hz => (he z (filtF_mem.1 hz).1).now (hb.first (by simp))) (Rp.now hl2 (hb.first (by simp))) hvl h11 b (by rw [hfm]; exact hb9)) ?_
  simp only [sx, ty, q1, q2, q5, q6, q7, q8, q9, qa, qb, reduceIte, List.append_assoc, List.cons_append, List.nil_append, sy, q3, q4]
  with_reducible refine WC.next (by simp [keptL, boxO]) (by simp) ?_
  refine WC.one ?_
  refine WO.go 1 (ds := []) rfl ?_
  simp only [sx, ty, q1, q2, q5, q6, q7, q8, q9, qa, qb, reduceIte, List.append_assoc, List.cons_append, List.nil_append, sy, q3, q4]
  with_reducible refine WC.next (by simp [keptL, boxO]) (by simp) ?_
  with_reducible refine WC.nil ?_
  refine hK2 _ ?_; clear hK2
  refine W.ret ⟨by simp, _, rfl, fun ρ w1 hb => ?_⟩
  rfl
/-- function 39 -/
theorem notneed_spec {S1 S2 S3 : Nat → Prop} {w : World} {p0 p2 : Option Addr} {c0 c2 : Nat} {l : List DE} {cs : List Cop} {a a1 a2 a3 : Addr} (h3 : At w a3 [.func (.func 36) #[] #[.pointer (some a1), .pointer (some a2)]]) (h3l : a3.block < w.heap.size) (ha : At w a [.slice p2 cs.length c2, .int .i64 0]) (hal : a.block < w.heap.size) (h1 : At w a1 [.func (.func 35) #[] #[.pointer (some a)]]) (h1l : a1.block < w.heap.size) (h2 : At w a2 [.slice p0 l.length c0]) (h2l : a2.block < w.heap.size) (hl : rDEs.rd S1 w [.slice p0 l.length c0] l) (he : ∀ x, x ∈ l → OkE S2 w x) (hl2 : rCops.rd S3 w [.slice p2 cs.length c2] cs) (hv : valid (l.map (·.1)) cs = true) (h11 : cs.length ≤ 11) (h12 : l.length ≤ 12) (hpos : 0 < l.length) (x : DE) (hb9 : MeetL (withoutF (l.map (·.1)) x.1.1) cs) : Gives Tryz.prog 39 #[deA x, .pointer (some a3)] w fun r _ => r = .bool false := by
  have hl : (Rp.slice rDE).rd (fun _ => True) w _ l := Rp.any hl
  have hl2 : (Rp.slice rCop).rd (fun _ => True) w _ cs := Rp.any hl2
  refine gives_of [.val (.agg #[.int .i64 x.1.1, .int .i64 x.1.2.1, .int .i64 x.1.2.2.1, .slice x.2.1 x.1.2.2.2.length x.2.2]), .val (.pointer (some a3))] 8 [.tmp 3] Tryz.func39 rfl rfl rfl (by simp) rfl rfl ?_
  refine W.pure (ds := []) rfl fun K1 hK1 => ?_
  simp only [sx, ty, q1, q2, q5, q6, q7, q8, q9, qa, qb, reduceIte, sy, q3, q4]; with_reducible refine hK1 _ ?_; clear hK1
  refine W.seqK fun K2 hK2 => W.region ?_
  refine WO.q (ds := []) rfl rfl rfl (QR.load [.func (.func 36) #[] #[.pointer (some a1), .pointer (some a2)]] false rfl rfl agg79 sz79 (.inr rfl) (fun ρ w1 hb => h3.frame ((hb.first (by simp [St.put])).block _ trivial h3l))) ?_
  simp only [List.drop_succ_cons, List.drop_zero, List.take_succ_cons, List.take_zero, ofCells, Bool.false_eq_true, if_false, List.headD_cons, if_true, List.toList_toArray]
  refine WO.go 1 (ds := []) rfl ?_
  simp only [sx, ty, q1, q2, q5, q6, q7, q8, q9, qa, qb, reduceIte, sy, q3, q4]
  refine WO.call (.bool true) (ds := []) rfl rfl rfl rfl co36 (fun ρ w1 hb => need_spec (ha.frame ((hb.first (by simp [St.put])).block _ trivial hal)) (Nat.lt_of_lt_of_le hal (hb.first (w0 := w) (by simp [St.put])).size) (h1.frame ((hb.first (by simp [St.put])).block _ trivial h1l)) (Nat.lt_of_lt_of_le h1l (hb.first (w0 := w) (by simp [St.put])).size) (h2.frame ((hb.first (by simp [St.put])).block _ trivial h2l)) (Nat.lt_of_lt_of_le h2l (hb.first (w0 := w) (by simp [St.put])).size) (Rp.now hl (hb.first (by simp [St.put]))) (fun z hz => (he z hz).now (hb.first (by simp [St.put]))) (Rp.now hl2 (hb.first (by simp [St.put]))) hv h11 h12 hpos x true (by simp [hb9])) ?_
  refine WO.go 2 (ds := []) rfl ?_
  simp only [sx, ty, q1, q2, q5, q6, q7, q8, q9, qa, qb, reduceIte, sy, q3, q4]
  with_reducible refine WO.nil ?_
  refine hK2 _ ?_; clear hK2
  refine W.ret ⟨by simp, _, rfl, fun ρ w1 hb => ?_⟩
  rfl
/-- function 38 -/
theorem containsNo_spec {S : Nat → Prop} {w : World} {p : Option Addr} {n c : Nat} {xs : List DE} (hl : rDEs.rd S w [.slice p n c] xs) (hn : xs.length = n) (h12 : n ≤ 12) (K : FuncId) (caps : Array Value) (hK : callOk Tryz.prog K = true)
    (hq : ∀ w1, Keep (fun _ => True) w w1 → ∀ x, x ∈ xs → Gives Tryz.prog K (#[deA x] ++ caps) w1 fun r _ => r = .bool false) : Gives Tryz.prog 38 #[.slice p n c, .func (.func K) #[] caps] w fun r _ => r = .bool false := by
  have hl : (Rp.slice rDE).rd (fun _ => True) w _ xs := Rp.any hl
  have hf : findD (fun _ => false) xs = -1 := findD_none fun _ _ _ => rfl
  refine gives_of [.val (.slice p n c), .val (.func (.func K) #[] caps)] 9 [.tmp 4] Tryz.func38 rfl rfl rfl (by simp) rfl rfl ?_
  refine W.pure (ds := []) rfl fun K1 hK1 => ?_
  simp only [sx, ty, q1, q2, q5, q6, q7, q8, q9, qa, qb, reduceIte, sy, q3, q4]; with_reducible refine hK1 _ ?_; clear hK1
  refine W.seqK fun K2 hK2 => W.region ?_
  refine WO.go 2 (ds := []) rfl ?_
  simp only [sx, ty, q1, q2, q5, q6, q7, q8, q9, qa, qb, reduceIte, sy, q3, q4]
  refine WO.call (.int .i64 (findD (fun _ => false) xs)) (ds := []) rfl rfl rfl rfl co65 (fun ρ w1 hb => indexDem_spec (Rp.now hl (hb.first (by simp))) hn h12 (fun _ => false) K caps hK fun w2 hk => hq w2 ((hb.first (by simp)).trans hk)) ?_
  refine WO.go 2 (ds := []) rfl ?_
  simp only [sx, ty, q1, q2, q5, q6, q7, q8, q9, qa, qb, reduceIte, sy, q3, q4]
  with_reducible refine WO.nil ?_
  refine hK2 _ ?_; clear hK2
  refine W.ret ⟨by simp, _, rfl, fun ρ w1 hb => ?_⟩
  simp only [den, hf]
  rfl
end Go.Proofs.YtolmeekbjonbcaaGreat
set_option linter.unusedVariables false
set_option linter.unusedSimpArgs false
set_option maxHeartbeats 2000000
namespace Go.Proofs.YtolmeekbjonbcaaGreat
open Int renaming reduceEq → q1, reduceLT → q2, reduceBEq → q3, reduceBNe → q4
open Nat renaming reduceAdd → q5, reduceSub → q6, reduceMul → q7, reduceLT → q8, reduceLeDiff → q9, reduceEqDiff → qa
open List renaming reduceReplicate → qb
open Go Go.SX Go.RowKit
theorem de_one {ds : List DE} (hn : (ds.map (·.1.1)).Nodup) {x y : DE} (hx : x ∈ ds) (hy : y ∈ ds) (he : x.1.1 = y.1.1) : x = y := by
  obtain ⟨i, hi⟩ := List.mem_iff_getElem?.1 hx
  obtain ⟨j, hj⟩ := List.mem_iff_getElem?.1 hy
  have := get_inj hn (x := x.1.1) (i := i) (j := j) (by rw [List.getElem?_map, hi]; rfl) (by rw [List.getElem?_map, hj, he]; rfl)
  subst this
  rw [hi] at hj
  exact Option.some.inj hj
def kvD (xs : List DE) : List (Int × Value) := xs.map fun y => (y.1.1, deA y)
theorem kvD_snoc {xs : List DE} {i : Nat} {y : DE} (h : xs[i]? = some y) : kvD (xs.take i) ++ [(y.1.1, deA y)] = kvD (xs.take (i + 1)) := (take_map_snoc (fun y : DE => (y.1.1, deA y)) xs h).symm
theorem kvD_keys (xs : List DE) : (kvD xs).map (·.1) = xs.map (·.1.1) := by simp [kvD, Function.comp_def]
theorem kvD_one {xs : List DE} (hn : (xs.map (·.1.1)).Nodup) {y : DE} (hy : y ∈ xs) : ∀ u, (y.1.1, u) ∈ kvD xs → u = deA y := fun u hu => by
  obtain ⟨z, hz, he⟩ := List.mem_map.1 hu
  simp only [Prod.mk.injEq] at he
  rw [← he.2, de_one hn hz hy he.1]
theorem key_new {xs : List DE} (hn : (xs.map (·.1.1)).Nodup) {i : Nat} {y : DE} (h : xs[i]? = some y) : y.1.1 ∉ (kvD (xs.take i)).map (·.1) := by
  rw [kvD_keys]
  intro hm
  obtain ⟨z, hz, he⟩ := List.mem_map.1 hm
  obtain ⟨j, hj⟩ := List.mem_iff_getElem?.1 hz
  have hj2 : j < i := by have := (List.getElem?_eq_some_iff.1 hj).1; simp at this; omega
  rw [List.getElem?_take_of_lt hj2] at hj
  have := get_inj hn (x := y.1.1) (i := i) (j := j) (by rw [List.getElem?_map, h]; rfl) (by rw [List.getElem?_map, hj]; exact congrArg some he)
  omega
/-- function 20 -/
theorem refuses_spec {S1 S2 S3 S4 : Nat → Prop} {w : World} {p0 p1 p2 : Option Addr} {n c0 c1 c2 : Nat} {xs nm : List DE} {cs : List Cop} {ids : List Int} (hl : rDEs.rd S1 w [.slice p0 n c0] xs) (hn : xs.length = n) (he : ∀ x, x ∈ xs → OkE S2 w x) (hl2 : rCops.rd S3 w [.slice p2 cs.length c2] cs) (hi : rInts.rd S4 w [.slice p1 ids.length c1] ids)
    (hv : valid (xs.map (·.1)) cs = true) (h11 : cs.length ≤ 11) (h12 : n ≤ 12) (hnm : nm.map (·.1.1) = ids) (hmem : ∀ y, y ∈ nm → y ∈ xs) (hsort : ids.Pairwise (· < ·)) (hvn : valid (nm.map (·.1)) cs = true) (hL : Least (nm.map (·.1)) cs) (hn12 : nm.length ≤ 12) : Gives Tryz.prog 20 #[.slice p0 n c0, .slice p2 cs.length c2, .slice p1 ids.length c1] w fun r _ => r = .tuple #[.bool true, .int .i64 0] := by
  have hl : (Rp.slice rDE).rd (fun _ => True) w _ xs := Rp.any hl
  have hl2 : (Rp.slice rCop).rd (fun _ => True) w _ cs := Rp.any hl2
  have hi : (Rp.slice rInt).rd (fun _ => True) w _ ids := Rp.any hi
  have hnd : (xs.map (·.1.1)).Nodup := by have := (valid_mem hv).2.2.1; simpa [Function.comp_def] using this
  have hil : ids.length = nm.length := by rw [← hnm]; simp
  have hpos : 0 < nm.length := by
    rcases Nat.eq_zero_or_pos nm.length with h | h
    · exact absurd (by rw [List.length_eq_zero_iff.1 h]; exact meet_nil cs) hL.no
    · exact h
  refine gives_of [.val (.slice p0 n c0), .val (.slice p2 cs.length c2), .val (.slice p1 ids.length c1)] 79 [.tmp 6, .tmp 7] Tryz.func20 rfl rfl rfl (by simp) rfl rfl ?_
  refine W.pure (ds := []) rfl fun K1 hK1 => ?_
  simp only [sx, ty, q1, q2, q5, q6, q7, q8, q9, qa, qb, reduceIte, sy, q3, q4]; with_reducible refine hK1 _ ?_; clear hK1
  refine W.seqK fun K2 hK2 => ?_
  refine W.seqK fun K3 hK3 => W.region ?_
  refine WO.go 2 (ds := []) rfl ?_
  simp only [sx, ty, q1, q2, q5, q6, q7, q8, q9, qa, qb, reduceIte, sy, q3, q4]
  refine WO.call (.bool true) (ds := []) rfl rfl rfl rfl co27 (fun ρ w1 hb => by have h9 := valid_spec (close_des (Rp.now hl (hb.first (by simp))) (fun x hx => (he x hx).now (hb.first (by simp)))) (Rp.now hl2 (hb.first (by simp))); rw [hv] at h9; exact h9) ?_
  refine WO.go 1 (ds := []) rfl ?_
  simp only [sx, ty, q1, q2, q5, q6, q7, q8, q9, qa, qb, reduceIte, sy, q3, q4]
  with_reducible refine WO.nil ?_
  refine hK3 _ ?_; clear hK3
  refine W.cond rfl rfl (fun hc => ?_) (fun hc => ?_)
  · skip
    simp at hc
  · skip
    refine W.skip (hK2 _ ?_)
    refine W.seqK fun K4 hK4 => W.region ?_
    refine WO.makeV (ds := []) rfl rfl rfl rfl fun r => ?_
    simp only [St.pushO]
    refine WO.go 1 (ds := []) rfl ?_
    simp only [sx, ty, q1, q2, q5, q6, q7, q8, q9, qa, qb, reduceIte, sy, q3, q4]
    with_reducible refine WO.nil ?_
    refine hK4 _ ?_; clear hK4
    refine W.seqK fun K5 hK5 => ?_
    refine W.pure (ds := []) rfl fun K6 hK6 => ?_
    simp only [sx, ty, q1, q2, q5, q6, q7, q8, q9, qa, qb, reduceIte, sy, q3, q4]; with_reducible refine hK6 _ ?_; clear hK6
    refine W.block ?_
    refine W.loopO (X := Nat) [1, 2, 8, 24, 25] (fun x => [(26, .val (.int .i64 (x : Int)))]) (fun x => [.map r (vmE (kvD (xs.take x))) (kvD (xs.take x)).length]) (fun x => [((fun _ => True), w)]) (fun x => x ≤ n) (fun x => n - x) 0 ?_ ?_ ?_
    · exact ⟨rfl, by simp [getE, bnd, keepE], ⟨[], by simp [kvD]⟩, by simp [Own.bnd, bndL, bnd, boxO], by simp⟩
    · skip
      exact Nat.zero_le _
    · rintro i hic
      simp only [sx, ty, q1, q2, q5, q6, q7, q8, q9, qa, qb, reduceIte, sxk, sy, q3, q4]
      refine W.pure (ds := []) rfl fun K7 hK7 => ?_
      simp only [sx, ty, q1, q2, q5, q6, q7, q8, q9, qa, qb, reduceIte, sy, q3, q4]; with_reducible refine hK7 _ ?_; clear hK7
      refine W.seqK fun K8 hK8 => ?_
      refine W.cond rfl rfl (fun hc => ?_) (fun hc => ?_)
      · skip
        have hlt : i < n := by simpa using hc
        obtain ⟨y, hy⟩ := len_lt hn hlt
        have hnew := key_new hnd hy
        refine W.skip (hK8 _ ?_)
        refine W.seqK fun K9 hK9 => ?_
        refine W.block ?_
        refine W.seqK fun K10 hK10 => W.region ?_
        refine WO.elem (y := y) hl (by simp [St.put]) (ds := []) rfl rfl rfl (by simp [St.put]) (fun _ => rfl) rfl rfl rfl rfl rfl el22 agg41 sz41 (.inl rfl) (by omega) (hy) fun p ces hces => ?_
        have hces : ces = deV y := hces
        subst hces
        simp only [deV]
        refine WO.go 2 (ds := []) rfl ?_
        simp only [sx, ty, q1, q2, q5, q6, q7, q8, q9, qa, qb, reduceIte, sy, q3, q4]
        with_reducible refine WO.nil ?_
        refine hK10 _ ?_; clear hK10
        refine W.region ?_
        refine WO.go 4 (ds := []) rfl ?_
        simp only [sx, ty, q1, q2, q5, q6, q7, q8, q9, qa, qb, reduceIte, sy, q3, q4]
        refine WO.addV (k := 0) (ks := kvD (xs.take i)) (deA y) (ds := []) rfl rfl rfl rfl rfl rfl rfl ⟨_, rfl, fun _ => rfl⟩ (by kernel_rfl) hnew ?_
        rw [kvD_snoc hy]
        simp only [sx, ty, q1, q2, q5, q6, q7, q8, q9, qa, qb, reduceIte, sy, q3, q4]
        with_reducible refine WO.nil ?_
        refine hK9 _ ?_
        refine W.region ?_
        refine WO.go 2 (ds := []) rfl ?_
        simp only [sx, ty, q1, q2, q5, q6, q7, q8, q9, qa, qb, reduceIte, sy, q3, q4]
        with_reducible refine WO.nil ?_
        refine ⟨i + 1, hlt, by omega, rfl, by simp [getE, bnd, keepE, wrap_succ (show i + 1 ≤ 9223372036854775807 by omega)], ⟨_, by simp; rfl⟩, by simp [Own.bnd, bndL, bnd], by simp⟩
      · skip
        have hin : i = n := Nat.le_antisymm hic (by simpa using hc)
        subst i
        simp only [← hn, List.take_length]
        refine W.exit (hK5 _ ?_)
        refine W.pure (ds := []) rfl fun K11 hK11 => ?_
        simp only [sx, ty, q1, q2, q5, q6, q7, q8, q9, qa, qb, reduceIte, sy, q3, q4]; with_reducible refine hK11 _ ?_; clear hK11
        refine W.seqK fun K12 hK12 => ?_
        refine W.pure (ds := []) rfl fun K13 hK13 => ?_
        simp only [sx, ty, q1, q2, q5, q6, q7, q8, q9, qa, qb, reduceIte, sy, q3, q4]; with_reducible refine hK13 _ ?_; clear hK13
        refine W.block ?_
        refine W.ownNil 41 4 ?_
        simp only [sx, ty, Bool.false_eq_true, q1, q2, q5, q6, q7, q8, q9, qa, qb, reduceIte, St.pushO, List.cons_append, List.nil_append]
        refine W.loopO (X := Nat × List DE × Option Addr × Nat) [1, 2, 8, 11, 35, 36] (fun x => [(37, .val (.int .i64 (x.1 : Int)))]) (fun x => [.map r (vmE (kvD xs)) (kvD xs).length, .cells 22 [.val (.slice x.2.2.1 x.2.1.length x.2.2.2)], .slice 41 4 (.slice x.2.2.1 x.2.1.length x.2.2.2) x.2.1.length (desV x.2.1)]) (fun x => [((fun _ => True), w)]) (fun x => x.1 ≤ ids.length ∧ x.2.1 = nm.take x.1) (fun x => ids.length - x.1) (0, [], none, 0) ?_ ?_ ?_
        · exact ⟨rfl, by simp [getE, bnd, keepE], ⟨[], by simp [desV]⟩, by simp [Own.bnd, bndL, bnd, boxO], by simp⟩
        · skip
          exact ⟨Nat.zero_le _, rfl⟩
        · rintro ⟨i, l, pq, cq⟩ ⟨hic, hll⟩
          simp only at hic hll
          have hlle : l.length ≤ 12 := by rw [hll]; simp; omega
          simp only [sx, ty, q1, q2, q5, q6, q7, q8, q9, qa, qb, reduceIte, sxk, sy, q3, q4]
          refine W.pure (ds := []) rfl fun K14 hK14 => ?_
          simp only [sx, ty, q1, q2, q5, q6, q7, q8, q9, qa, qb, reduceIte, sy, q3, q4]; with_reducible refine hK14 _ ?_; clear hK14
          refine W.seqK fun K15 hK15 => ?_
          refine W.cond rfl rfl (fun hc => ?_) (fun hc => ?_)
          · skip
            have hlt : i < ids.length := by simpa using hc
            obtain ⟨y, hy⟩ := len_lt (rfl : nm.length = _) (show i < nm.length by omega)
            have hid : ids[i]? = some y.1.1 := by rw [← hnm, List.getElem?_map, hy]; rfl
            have hyx := hmem y (List.mem_of_getElem? hy)
            have hyk : y.1.1 ∈ (kvD xs).map (·.1) := by rw [kvD_keys]; exact List.mem_map.2 ⟨y, hyx, rfl⟩
            refine W.skip (hK15 _ ?_)
            refine W.seqK fun K16 hK16 => ?_
            refine W.block ?_
            refine W.seqK fun K17 hK17 => W.region ?_
            refine WO.go 1 (ds := []) rfl ?_
            simp only [sx, ty, q1, q2, q5, q6, q7, q8, q9, qa, qb, reduceIte, sy, q3, q4]
            refine WO.elem (y := y.1.1) hi (by simp [St.put]) (ds := []) rfl rfl rfl (by simp [St.put]) (fun _ => rfl) rfl rfl rfl rfl rfl el27 agg3 sz3 (.inr rfl) (by omega) (hid) fun p ces hces => ?_
            obtain rfl := rInt_open hces
            clear hces
            refine WO.go 2 (ds := []) rfl ?_
            simp only [sx, ty, q1, q2, q5, q6, q7, q8, q9, qa, qb, reduceIte, sy, q3, q4]
            with_reducible refine WO.nil ?_
            refine hK17 _ ?_; clear hK17
            refine W.seqK fun K18 hK18 => W.region ?_
            refine WO.go 2 (ds := []) rfl ?_
            simp only [sx, ty, q1, q2, q5, q6, q7, q8, q9, qa, qb, reduceIte, sy, q3, q4]
            refine WO.lookupV (k := 0) (ks := kvD xs) (deA y) (ds := []) rfl rfl rfl rfl rfl rfl rfl (by kernel_rfl) hyk (kvD_one hnd hyx) ?_
            simp only [deA]
            refine WO.go 6 (ds := []) rfl ?_
            simp only [sx, ty, q1, q2, q5, q6, q7, q8, q9, qa, qb, reduceIte, sy, q3, q4]
            with_reducible refine WO.nil ?_
            refine hK18 _ ?_; clear hK18
            refine W.seqK fun K19 hK19 => ?_
            refine W.join 62 (.val (.bool false)) [1, 2, 8, 11, 14, 35, 36, 37] (W.region ?_) ?_
            · skip
              refine WO.go 6 (ds := [some 48, some 49, some 50, some 51, some 52, some 53, some 54, some 55, some 56, some 57, some 58, some 59, some 60, some 61, some 62]) rfl ?_
              simp only [sx, ty, q1, q2, q5, q6, q7, q8, q9, qa, qb, reduceIte, sy, q3, q4]
              refine WO.cases 53 _ rfl (fun hg53 => ?_) (fun hg53 => ?_)
              · skip
                have hi0 : 0 < i := by simpa using hg53
                obtain ⟨id0, hid0⟩ := len_lt (rfl : ids.length = _) (show i - 1 < ids.length by omega)
                have hlt9 : id0 < y.1.1 := by
                  have := List.pairwise_iff_getElem.1 hsort (i - 1) i (by omega) hlt (by omega)
                  rwa [(List.getElem?_eq_some_iff.1 hid0).2, (List.getElem?_eq_some_iff.1 hid).2] at this
                have hj1 : IntKind.i64.wrap ((i : Int) - 1) = ((i - 1 : Nat) : Int) := by rw [wrap_id (by omega) (by omega)]; omega
                refine WO.go 4 (ds := [some 48, some 49, some 50, some 51, some 52, some 53, some 54, some 55, some 56, some 57, some 58, some 59, some 60, some 61, some 62]) rfl ?_
                simp only [sx, ty, q1, q2, q5, q6, q7, q8, q9, qa, qb, reduceIte, sy, q3, q4]
                simp only [hj1]
                refine WO.elem (y := id0) hi (by simp [St.put]) (ds := [some 48, some 49, some 50, some 51, some 52, some 53, some 54, some 55, some 56, some 57, some 58, some 59, some 60, some 61, some 62]) rfl rfl rfl (by simp [St.put]) (fun _ => rfl) rfl rfl rfl rfl rfl el27 agg3 sz3 (.inr rfl) (by omega) hid0 fun p ces hces => ?_
                obtain rfl := rInt_open hces
                clear hces
                simp only [ofCells, Bool.false_eq_true, if_false, List.headD_cons]
                refine WO.go 3 (ds := [some 48, some 49, some 50, some 51, some 52, some 53, some 54, some 55, some 56, some 57, some 58, some 59, some 60, some 61, some 62]) rfl ?_
                simp only [sx, ty, q1, q2, q5, q6, q7, q8, q9, qa, qb, reduceIte, sy, q3, q4]
                with_reducible refine WO.nil ?_
                refine ⟨rfl, ?_, ⟨_, rfl⟩, by simp [Own.bnd, bndL, bnd, boxO], by simp⟩
                try simp [getE, bnd, keepE]
                try omega
              · skip
                refine WO.go 9 (ds := [some 48, some 49, some 50, some 51, some 52, some 53, some 54, some 55, some 56, some 57, some 58, some 59, some 60, some 61, some 62]) rfl ?_
                simp only [sx, ty, q1, q2, q5, q6, q7, q8, q9, qa, qb, reduceIte, sy, q3, q4]
                with_reducible refine WO.nil ?_
                refine ⟨rfl, ?_, ⟨_, rfl⟩, by simp [Own.bnd, bndL, bnd, boxO], by simp⟩
                try simp [getE, bnd, keepE]
                try omega
            · simp only [sx, ty, q1, q2, q5, q6, q7, q8, q9, qa, qb, reduceIte, sxk, sy, q3, q4]
              refine W.cond rfl rfl (fun hc => ?_) (fun hc => ?_)
              · skip
                simp at hc
              · skip
                refine W.skip (hK19 _ ?_)
                refine W.region ?_
                refine WO.go 3 (ds := []) rfl ?_
                simp only [sx, ty, q1, q2, q5, q6, q7, q8, q9, qa, qb, reduceIte, sy, q3, q4]
                refine WO.append (k := 2) (m := 1) (deV y) (ds := []) rfl rfl rfl rfl rfl rfl rfl ek22 (news_own (k2 := 4) rfl fun _ => rfl) rfl (by simp [deV, Value.oneCell']) (by rw [maxLen_eq]; omega) (by omega) fun p6 c6 => ?_
                refine WO.go 1 (ds := []) rfl ?_
                simp only [sx, ty, q1, q2, q5, q6, q7, q8, q9, qa, qb, reduceIte, sy, q3, q4]
                with_reducible refine WO.nil ?_
                refine hK16 _ ?_
                refine W.region ?_
                refine WO.go 2 (ds := []) rfl ?_
                simp only [sx, ty, q1, q2, q5, q6, q7, q8, q9, qa, qb, reduceIte, sy, q3, q4]
                with_reducible refine WO.nil ?_
                refine ⟨(i + 1, l ++ [y], p6, c6), ⟨hlt, by simp only; rw [hll, List.take_add_one, hy]; rfl⟩, by simp only; omega, rfl, by simp [getE, bnd, keepE, wrap_succ (show i + 1 ≤ 9223372036854775807 by omega)], ⟨_, by simp only [desV_app, List.length_append, List.length_singleton]; rfl⟩, by simp [Own.bnd, bndL, bnd], by simp⟩
          · skip
            have him : i = ids.length := Nat.le_antisymm hic (by simpa using hc)
            rw [him, hil, List.take_length] at hll
            subst l
            refine W.exit (hK12 _ ?_)
            refine W.pure (ds := []) rfl fun K21 hK21 => ?_
            simp only [sx, ty, q1, q2, q5, q6, q7, q8, q9, qa, qb, reduceIte, sy, q3, q4]; with_reducible refine hK21 _ ?_; clear hK21
            refine W.pure (ds := []) rfl fun K22 hK22 => ?_
            simp only [sx, ty, q1, q2, q5, q6, q7, q8, q9, qa, qb, reduceIte, sy, q3, q4]; with_reducible refine hK22 _ ?_; clear hK22
            refine W.seqK fun K23 hK23 => ?_
            refine W.pinA (by simp [smallO]) fun β => ?_
            obtain ⟨b1, hb1⟩ : ∃ b1, β 1 = b1 := ⟨_, rfl⟩
            obtain ⟨b3, hb3⟩ : ∃ b3, β 3 = b3 := ⟨_, rfl⟩
            obtain ⟨b4, hb4⟩ : ∃ b4, β 4 = b4 := ⟨_, rfl⟩
            simp only [pinEn, pinOw, den, denL, Nat.zero_add, Nat.reduceAdd, hb1, hb3, hb4]
            refine W.seqK fun K24 hK24 => W.region ?_
            refine WO.loadBox (k := 4) (i := 0) (sz := 1) rfl (ds := []) rfl rfl rfl rfl rfl (by simp [Addr.add_mid]) (by simp) agg59 sz59 (.inr rfl) ?_
            simp only [List.drop_succ_cons, List.drop_zero, List.take_succ_cons, List.take_zero, ofCells, Bool.false_eq_true, if_false, List.headD_cons, if_true, List.toList_toArray]
            simp only [sx, ty, q1, q2, q5, q6, q7, q8, q9, qa, qb, reduceIte, sy, q3, q4]
            refine WO.loadBox (k := 1) (i := 0) (sz := 1) rfl (ds := []) rfl rfl rfl rfl rfl (by simp [Addr.add_mid]) (by simp) agg22 sz22 (.inr rfl) ?_
            simp only [List.drop_succ_cons, List.drop_zero, List.take_succ_cons, List.take_zero, ofCells, Bool.false_eq_true, if_false, List.headD_cons, if_true, List.toList_toArray]
            simp only [sx, ty, q1, q2, q5, q6, q7, q8, q9, qa, qb, reduceIte, sy, q3, q4]
            refine WO.call (.bool false) (ds := []) rfl rfl rfl rfl co35 (fun ρ w1 hb => met35_spec (box_at (k := 3) hb rfl) (own_old (j := 3) hb rfl rfl) (own_slice (A := rDE) (S := fun _ => True) (k := 2) hb rfl rfl (fun _ _ => trivial) (des_read nm)) (fun z hz => (he z (hmem z hz)).now (hb.first (by simp))) (Rp.now hl2 (hb.first (by simp))) hvn h11 false (by simp [hL.no])) ?_
            simp only [sx, ty, q1, q2, q5, q6, q7, q8, q9, qa, qb, reduceIte, sy, q3, q4]
            with_reducible refine WO.nil ?_
            refine hK24 _ ?_; clear hK24
            refine W.cond rfl rfl (fun hc => ?_) (fun hc => ?_)
            · skip
              simp at hc
            · skip
              refine W.skip (hK23 _ ?_)
              refine W.pure (ds := []) rfl fun K25 hK25 => ?_
              simp only [sx, ty, q1, q2, q5, q6, q7, q8, q9, qa, qb, reduceIte, sy, q3, q4]; with_reducible refine hK25 _ ?_; clear hK25
              refine W.seqK fun K26 hK26 => W.region ?_
              refine WO.loadBox (k := 1) (i := 0) (sz := 1) rfl (ds := []) rfl rfl rfl rfl rfl (by simp [Addr.add_mid]) (by simp) agg22 sz22 (.inr rfl) ?_
              simp only [List.drop_succ_cons, List.drop_zero, List.take_succ_cons, List.take_zero, ofCells, Bool.false_eq_true, if_false, List.headD_cons, if_true, List.toList_toArray]
              refine WO.go 1 (ds := []) rfl ?_
              simp only [sx, ty, q1, q2, q5, q6, q7, q8, q9, qa, qb, reduceIte, sy, q3, q4]
              refine WO.call (.bool false) (ds := []) rfl rfl rfl rfl co38 (fun ρ w1 hb => containsNo_spec (own_slice (A := rDE) (S := fun _ => True) (k := 2) hb rfl rfl (fun _ _ => trivial) (des_read nm)) rfl hn12 39 #[.pointer (some ⟨ρ 5, 0, none⟩)] co39 fun w2 hk x hx => notneed_spec ((own_cells (k := 5) hb rfl 0).1.frame (hk.block _ trivial (own_cells (k := 5) hb rfl 0).2)) (Nat.lt_of_lt_of_le (own_cells (k := 5) hb rfl 0).2 hk.size) ((box_at (k := 3) hb rfl).frame (hk.block _ trivial (own_old (j := 3) hb rfl rfl))) (Nat.lt_of_lt_of_le (own_old (j := 3) hb rfl rfl) hk.size) ((box_at (k := 4) hb rfl).frame (hk.block _ trivial (own_old (j := 4) hb rfl rfl))) (Nat.lt_of_lt_of_le (own_old (j := 4) hb rfl rfl) hk.size) ((box_at (k := 1) hb rfl).frame (hk.block _ trivial (own_old (j := 1) hb rfl rfl))) (Nat.lt_of_lt_of_le (own_old (j := 1) hb rfl rfl) hk.size) (Rp.now (own_slice (A := rDE) (S := fun _ => True) (k := 2) hb rfl rfl (fun _ _ => trivial) (des_read nm)) hk) (fun z hz => (he z (hmem z hz)).now ((hb.first (by simp)).trans hk)) (Rp.now hl2 ((hb.first (by simp)).trans hk)) hvn h11 hn12 hpos x (by have := hL.min x.1 (List.mem_map.2 ⟨x, hx, rfl⟩); exact this)) ?_
              refine WO.go 3 (ds := []) rfl ?_
              simp only [sx, ty, q1, q2, q5, q6, q7, q8, q9, qa, qb, reduceIte, sy, q3, q4]
              with_reducible refine WO.nil ?_
              refine hK26 _ ?_; clear hK26
              refine W.ret ⟨by simp, _, rfl, fun ρ w1 hb => ?_⟩
              rfl
end Go.Proofs.YtolmeekbjonbcaaGreat
set_option linter.unusedVariables false
set_option linter.unusedSimpArgs false
set_option maxHeartbeats 2000000
namespace Go.Proofs.YtolmeekbjonbcaaGreat
open Int renaming reduceEq → q1, reduceLT → q2, reduceBEq → q3, reduceBNe → q4
open Nat renaming reduceAdd → q5, reduceSub → q6, reduceMul → q7, reduceLT → q8, reduceLeDiff → q9, reduceEqDiff → qa
open List renaming reduceReplicate → qb
open Go Go.SX Go.RowKit
def d9 (id : Int) : Dem := (id, 7, id, [3])
def cs9 : List Cop := [(5, 7, 3, 0), (6, 7, 3, 1)]
def e9 (id : Int) (b : Nat) : DE := (d9 id, some ⟨b, 0, none⟩, 1)
theorem cost9 : ∀ id, id ∈ [(2 : Int), 1, 4] → costF (d9 id) (5, 7, 3, 0) 0 = 0 ∧ costF (d9 id) (6, 7, 3, 1) 0 = 5 := by decide
theorem valid9 : valid [d9 2, d9 1] cs9 = true := by decide
theorem valid9' : valid [d9 2, d9 1, d9 4] cs9 = true := by decide
theorem meet9 {left : List Dem} (h : ∀ x, x ∈ left → ∃ id, id ∈ [(2 : Int), 1, 4] ∧ x = d9 id) (hl : left.length ≤ 2) : MeetL left cs9 := by
  refine ⟨fun x => left.idxOf x, fun x hx => ?_, fun x y hx hy he => ?_⟩
  · obtain ⟨id, h1, rfl⟩ := h x hx
    have h2 := List.idxOf_lt_length_of_mem hx
    obtain ⟨h3, h4⟩ := cost9 id h1
    show ∃ c, cs9[left.idxOf (d9 id)]? = some c ∧ 0 ≤ costF (d9 id) c 0
    rcases Nat.lt_or_ge (left.idxOf (d9 id)) 1 with h5 | h5
    · rw [show left.idxOf (d9 id) = 0 by omega]
      exact ⟨_, rfl, by rw [h3]; exact Int.le_refl _⟩
    · rw [show left.idxOf (d9 id) = 1 by omega]
      exact ⟨_, rfl, by rw [h4]; decide⟩
  · have h1 := idx_get hx
    have h2 := idx_get hy
    simp only at he
    rw [he, h2] at h1
    exact (Option.some.inj h1).symm
theorem no9 : ¬ MeetL [d9 2, d9 1, d9 4] cs9 := by
  rintro ⟨g, h1, h2⟩
  have hlt : ∀ x, x ∈ [d9 2, d9 1, d9 4] → g x ∈ List.range 2 := fun x hx => by
    obtain ⟨c, hc, _⟩ := h1 x hx
    exact List.mem_range.2 (List.getElem?_eq_some_iff.1 hc).1
  have h3 := nodup_len (l := [d9 2, d9 1, d9 4].map g) (m := List.range 2) (nodup_map (by decide) fun x y hx hy he => h2 x y hx hy he) fun k hk => by
    obtain ⟨x, hx, rfl⟩ := List.mem_map.1 hk
    exact hlt x hx
  simp at h3
theorem mem9 {x : Dem} (h : x ∈ [d9 2, d9 1, d9 4]) : ∃ id, id ∈ [(2 : Int), 1, 4] ∧ x = d9 id := by
  simp only [List.mem_cons, List.not_mem_nil, or_false] at h
  rcases h with rfl | rfl | rfl
  · exact ⟨2, by simp, rfl⟩
  · exact ⟨1, by simp, rfl⟩
  · exact ⟨4, by simp, rfl⟩
theorem least9 : Least [d9 1, d9 2, d9 4] cs9 := by
  have hp : [d9 1, d9 2, d9 4].Perm [d9 2, d9 1, d9 4] := List.Perm.swap ..
  refine Least.perm ⟨no9, fun x hx => meet9 (fun y hy => mem9 (mem_without.1 hy).1) ?_⟩ hp
  obtain ⟨id, h1, rfl⟩ := mem9 hx
  simp only [List.mem_cons, List.not_mem_nil, or_false] at h1
  rcases h1 with rfl | rfl | rfl <;> decide
theorem yes9 : MeetL [d9 2, d9 1] cs9 := meet9 (fun x hx => mem9 (by simp only [List.mem_cons, List.not_mem_nil, or_false] at hx ⊢; rcases hx with h | h <;> simp [h])) (by decide)
theorem ref9 {ids : List Int} (h : RefP [d9 2, d9 1, d9 4] cs9 ids) : ids = [1, 2, 4] := by
  obtain ⟨left, h1, h2, h3, h4⟩ := h
  have h5 : left = [d9 2, d9 1, d9 4] := by
    refine h1.eq_of_length (Nat.le_antisymm h1.length_le ?_)
    rcases Nat.lt_or_ge left.length 3 with h | h
    · exact absurd (meet9 (fun x hx => mem9 (h1.subset hx)) (by omega)) h2.no
    · exact h
  subst h5
  have h6 : ids.Perm [1, 2, 4] := h4.trans (List.Perm.swap ..)
  exact List.Perm.eq_of_pairwise (fun a b _ _ h1 h2 => by omega) h3 (by decide) h6
theorem first9 {at' : List Nat} (h : BP [d9 2, d9 1] cs9 0 at') : at'.getD 0 0 = 0 := by
  have hc0 : ∀ i, i < 2 → CF [d9 2, d9 1] cs9 0 i 0 = 0 ∧ CF [d9 2, d9 1] cs9 0 i 1 = 5 := by decide
  have hm : wideF (costsF [d9 2, d9 1] cs9 0) cs9.length = 2 := by decide
  have h1 := h.mat
  have h2 := h.first
  rw [hm] at h1 h2
  simp only [List.length_cons, List.length_nil] at h1 h2
  have a0 := h1.lt 0 (by omega)
  have a1 := h1.lt 1 (by omega)
  have a2 := h1.inj 0 1 (by omega) (by omega)
  have hM : Mat (CF [d9 2, d9 1] cs9 0) 2 2 (fun i => i) := ⟨fun i hi => hi, fun i hi => by
    rcases Nat.lt_or_ge i 1 with h | h
    · obtain rfl : i = 0 := by omega
      exact (hc0 0 (by omega)).1 ▸ Int.le_refl _
    · obtain rfl : i = 1 := by omega
      rw [(hc0 1 (by omega)).2]; decide, fun i j _ _ he => he⟩
  rcases Nat.eq_zero_or_pos (at'.getD 0 0) with h3 | h3
  · exact h3
  · have b0 : at'.getD 0 0 = 1 := by omega
    have b1 : at'.getD 1 0 = 0 := by
      rcases Nat.eq_zero_or_pos (at'.getD 1 0) with h4 | h4
      · exact h4
      · have := a2 (by omega); omega
    have h4 := h2 _ hM (by
      simp only [costS, List.range_succ, List.range_zero, List.nil_append, List.cons_append, List.map_cons, List.map_nil, List.sum_cons, List.sum_nil, b0, b1]
      rw [(hc0 0 (by omega)).1, (hc0 1 (by omega)).2, (hc0 0 (by omega)).2, (hc0 1 (by omega)).1]; rfl) (by omega)
    omega
/-- function 19 -/
theorem demand_spec (w : World) (id : Int) : Gives Tryz.prog 19 #[.int .i64 id] w fun r w' => ∃ b : Nat, r = deA (e9 id b) ∧ OkE (fun b => w.heap.size ≤ b) w' (e9 id b) := by
  refine gives_of [.val (.int .i64 id)] 7 [.cell 2 41] Tryz.func19 rfl rfl rfl (by simp) rfl rfl ?_
  refine W.pure (ds := []) rfl fun K1 hK1 => ?_
  simp only [sx, ty, q1, q2, q5, q6, q7, q8, q9, qa, qb, reduceIte, sy, q3, q4]; with_reducible refine hK1 _ ?_; clear hK1
  refine W.pure (ds := []) rfl fun K2 hK2 => ?_
  simp only [sx, ty, q1, q2, q5, q6, q7, q8, q9, qa, qb, reduceIte, sy, q3, q4]; with_reducible refine hK2 _ ?_; clear hK2
  refine W.ret ?_
  refine ⟨by simp, RunR.ex ?_⟩
  simp only [sx, ty, q1, q2, q5, q6, q7, q8, q9, qa, qb, reduceIte, sxr, sy, q3, q4]
  intro ρ w1 hb
  exact ⟨ρ 1, rfl, own_listS (A := rInt) (k := 1) (n := 1) (c := 1) (xs := [3]) hb rfl rfl (Nat.le_refl _) (by omega) (own_new (w0 := w) (b := ρ 1) hb (by simp) (k := 1) rfl rfl) (by rintro (_ | i) y hy <;> first | (cases hy; rfl) | simp at hy)⟩
end Go.Proofs.YtolmeekbjonbcaaGreat
set_option linter.unusedVariables false
set_option linter.unusedSimpArgs false
set_option maxHeartbeats 2000000
namespace Go.Proofs.YtolmeekbjonbcaaGreat
open Int renaming reduceEq → q1, reduceLT → q2, reduceBEq → q3, reduceBNe → q4
open Nat renaming reduceAdd → q5, reduceSub → q6, reduceMul → q7, reduceLT → q8, reduceLeDiff → q9, reduceEqDiff → qa
open List renaming reduceReplicate → qb
open Go Go.SX Go.RowKit
set_option maxRecDepth 20000 in
/-- function 5 -/
theorem planned_spec (w : World) : Gives Tryz.prog 5 #[] w fun r _ => r = .bool true := by
  have h22 : (((2 : Nat) : Int) == 2) = true := rfl
  refine gives_of [] 85 [.tmp 0] Tryz.func5 rfl rfl rfl (by simp) rfl rfl ?_
  refine W.pure (ds := []) rfl fun K1 hK1 => ?_
  simp only [sx, ty, q1, q2, q5, q6, q7, q8, q9, qa, qb, reduceIte, sy, q3, q4]; with_reducible refine hK1 _ ?_; clear hK1
  refine W.pure (ds := []) rfl fun K2 hK2 => ?_
  simp only [sx, ty, q1, q2, q5, q6, q7, q8, q9, qa, qb, reduceIte, sy, q3, q4]; with_reducible refine hK2 _ ?_; clear hK2
  refine W.seqK fun K3 hK3 => W.region ?_
  refine WO.callM (fun b : Nat => deA (e9 2 b)) (fun lo b s8 => w.heap.size ≤ lo ∧ OkE (fun x => lo ≤ x) s8 (e9 2 b)) (ds := []) rfl rfl rfl rfl co19 (fun ρ w1 hb => Gives.mono (demand_spec w1 2) fun r w9 _ ⟨b, h1, h2⟩ => ⟨b, h1, (hb.at (S := fun _ => True) (s := w) (by simp [St.put])).size, h2⟩) fun b1 lo1 s1 hx1 => ?_
  obtain ⟨hlo1, hx1⟩ := hx1
  simp only [deA, e9, d9]
  simp only [sx, ty, q1, q2, q5, q6, q7, q8, q9, qa, qb, reduceIte, sy, q3, q4]
  refine WO.callM (fun b : Nat => deA (e9 1 b)) (fun lo b s8 => w.heap.size ≤ lo ∧ OkE (fun x => lo ≤ x) s8 (e9 1 b)) (ds := []) rfl rfl rfl rfl co19 (fun ρ w1 hb => Gives.mono (demand_spec w1 1) fun r w9 _ ⟨b, h1, h2⟩ => ⟨b, h1, (hb.at (S := fun _ => True) (s := w) (by simp [St.put])).size, h2⟩) fun b2 lo2 s2 hx2 => ?_
  obtain ⟨hlo2, hx2⟩ := hx2
  simp only [deA, e9, d9]
  refine WO.go 2 (ds := []) rfl ?_
  simp only [sx, ty, q1, q2, q5, q6, q7, q8, q9, qa, qb, reduceIte, sy, q3, q4]
  refine WO.callM (fun x : List Nat × Option Addr × Nat => .tuple #[.slice x.2.1 2 x.2.2, .slice none 0 0, .bool true, .int .i64 0]) (fun lo x s8 => w.heap.size ≤ lo ∧ BP [d9 2, d9 1] cs9 0 x.1 ∧ rGivs.rd (fun b => lo ≤ b) s8 [.slice x.2.1 2 x.2.2] (planL [d9 2, d9 1] cs9 0 x.1 2)) (ds := []) rfl rfl rfl rfl co8 (fun ρ w1 hb => ?_) fun x lo9 s9 hx9 => ?_
  · have hd := close_des (own_listS (S := fun _ => True) (A := rDE) (k := 1) (n := 2) (c := 2) (xs := [e9 2 b1, e9 1 b2]) hb rfl rfl (Nat.le_refl _) (by omega) trivial (by rintro (_ | _ | _ | i) y hy <;> first | (cases hy; rfl) | simp at hy)) (fun x hx => by
      simp only [List.mem_cons, List.not_mem_nil, or_false] at hx
      rcases hx with rfl | rfl
      · exact Rp.any (Rp.keep hx1 (hb.at (by simp [St.put])))
      · exact Rp.any (Rp.keep hx2 (hb.at (by simp [St.put]))))
    have h9 := plan_yes (ds := [d9 2, d9 1]) (cs := cs9) (hall := 0) hd (own_listS (S := fun _ => True) (A := rCop) (k := 0) (n := 2) (c := 2) (xs := cs9) hb rfl rfl (Nat.le_refl _) (by omega) trivial (by rintro (_ | _ | i) y hy <;> first | (cases hy; exact ⟨[_], _, rfl, rfl, [_], _, rfl, rfl, [_], _, rfl, rfl, rfl⟩) | simp [cs9] at hy)) valid9 rfl (by decide) (by decide) yes9
    exact h9.mono fun r w9 _ ⟨x, h1, h2, h3⟩ => ⟨x, h1, (hb.at (S := fun _ => True) (s := w) (by simp [St.put])).size, h2, h3⟩
  obtain ⟨at9, pg, cg⟩ := x
  obtain ⟨hlo9, hBP, hout⟩ := hx9
  simp only at hBP hout
  refine WO.go 9 (ds := []) rfl ?_
  simp only [sx, ty, q1, q2, q5, q6, q7, q8, q9, qa, qb, reduceIte, sy, q3, q4]
  with_reducible refine WO.nil ?_
  refine hK3 _ ?_; clear hK3
  refine W.seqK fun K4 hK4 => W.region ?_
  refine WO.callM (fun b : Nat => deA (e9 2 b)) (fun lo b s8 => w.heap.size ≤ lo ∧ OkE (fun x => lo ≤ x) s8 (e9 2 b)) (ds := []) rfl rfl rfl rfl co19 (fun ρ w1 hb => Gives.mono (demand_spec w1 2) fun r w9 _ ⟨b, h1, h2⟩ => ⟨b, h1, (hb.at (S := fun _ => True) (s := w) (by simp [St.put])).size, h2⟩) fun b3 lo3 s3 hx3 => ?_
  obtain ⟨hlo3, hx3⟩ := hx3
  simp only [deA, e9, d9]
  simp only [sx, ty, q1, q2, q5, q6, q7, q8, q9, qa, qb, reduceIte, sy, q3, q4]
  refine WO.callM (fun b : Nat => deA (e9 1 b)) (fun lo b s8 => w.heap.size ≤ lo ∧ OkE (fun x => lo ≤ x) s8 (e9 1 b)) (ds := []) rfl rfl rfl rfl co19 (fun ρ w1 hb => Gives.mono (demand_spec w1 1) fun r w9 _ ⟨b, h1, h2⟩ => ⟨b, h1, (hb.at (S := fun _ => True) (s := w) (by simp [St.put])).size, h2⟩) fun b4 lo4 s4 hx4 => ?_
  obtain ⟨hlo4, hx4⟩ := hx4
  simp only [deA, e9, d9]
  simp only [sx, ty, q1, q2, q5, q6, q7, q8, q9, qa, qb, reduceIte, sy, q3, q4]
  refine WO.callM (fun b : Nat => deA (e9 4 b)) (fun lo b s8 => w.heap.size ≤ lo ∧ OkE (fun x => lo ≤ x) s8 (e9 4 b)) (ds := []) rfl rfl rfl rfl co19 (fun ρ w1 hb => Gives.mono (demand_spec w1 4) fun r w9 _ ⟨b, h1, h2⟩ => ⟨b, h1, (hb.at (S := fun _ => True) (s := w) (by simp [St.put])).size, h2⟩) fun b5 lo5 s5 hx5 => ?_
  obtain ⟨hlo5, hx5⟩ := hx5
  simp only [deA, e9, d9]
  refine WO.go 2 (ds := []) rfl ?_
  simp only [sx, ty, q1, q2, q5, q6, q7, q8, q9, qa, qb, reduceIte, sy, q3, q4]
  refine WO.callM (fun x : Option Addr × Nat => .tuple #[.slice none 0 0, .slice x.1 3 x.2, .bool false, .int .i64 0]) (fun lo x s8 => w.heap.size ≤ lo ∧ rInts.rd (fun b => lo ≤ b) s8 [.slice x.1 3 x.2] [1, 2, 4]) (ds := []) rfl rfl rfl rfl co8 (fun ρ w1 hb => ?_) fun x loa sa hxa => ?_
  · have hd := close_des (own_listS (S := fun _ => True) (A := rDE) (k := 2) (n := 3) (c := 3) (xs := [e9 2 b3, e9 1 b4, e9 4 b5]) hb rfl rfl (Nat.le_refl _) (by omega) trivial (by rintro (_ | _ | _ | i) y hy <;> first | (cases hy; rfl) | simp at hy)) (fun x hx => by
      simp only [List.mem_cons, List.not_mem_nil, or_false] at hx
      rcases hx with rfl | rfl | rfl
      · exact Rp.any (Rp.keep hx3 (hb.at (by simp [St.put])))
      · exact Rp.any (Rp.keep hx4 (hb.at (by simp [St.put])))
      · exact Rp.any (Rp.keep hx5 (hb.at (by simp [St.put]))))
    have h9 := plan_no (ds := [d9 2, d9 1, d9 4]) (cs := cs9) (hall := 0) hd (own_listS (S := fun _ => True) (A := rCop) (k := 0) (n := 2) (c := 2) (xs := cs9) hb rfl rfl (Nat.le_refl _) (by omega) trivial (by rintro (_ | _ | i) y hy <;> first | (cases hy; exact ⟨[_], _, rfl, rfl, [_], _, rfl, rfl, [_], _, rfl, rfl, rfl⟩) | simp [cs9] at hy)) valid9' rfl (by decide) (by decide) no9
    exact h9.mono fun r w9 _ ⟨⟨ids, px, cx⟩, h1, h2, h3⟩ => by
      have hi := ref9 h2
      simp only at hi h1 h3
      subst hi
      exact ⟨(px, cx), h1, (hb.at (S := fun _ => True) (s := w) (by simp [St.put])).size, h3⟩
  obtain ⟨pr, cr⟩ := x
  obtain ⟨hloa, hxa⟩ := hxa
  simp only at hxa
  refine WO.go 9 (ds := []) rfl ?_
  simp only [sx, ty, q1, q2, q5, q6, q7, q8, q9, qa, qb, reduceIte, sy, q3, q4]
  with_reducible refine WO.nil ?_
  refine hK4 _ ?_; clear hK4
  refine W.seqK fun K5 hK5 => W.region ?_
  refine WO.callM (fun b : Nat => deA (e9 2 b)) (fun lo b s8 => w.heap.size ≤ lo ∧ OkE (fun x => lo ≤ x) s8 (e9 2 b)) (ds := []) rfl rfl rfl rfl co19 (fun ρ w1 hb => Gives.mono (demand_spec w1 2) fun r w9 _ ⟨b, h1, h2⟩ => ⟨b, h1, (hb.at (S := fun _ => True) (s := w) (by simp [St.put])).size, h2⟩) fun b6 lo6 s6 hx6 => ?_
  obtain ⟨hlo6, hx6⟩ := hx6
  simp only [deA, e9, d9]
  simp only [sx, ty, q1, q2, q5, q6, q7, q8, q9, qa, qb, reduceIte, sy, q3, q4]
  refine WO.callM (fun b : Nat => deA (e9 1 b)) (fun lo b s8 => w.heap.size ≤ lo ∧ OkE (fun x => lo ≤ x) s8 (e9 1 b)) (ds := []) rfl rfl rfl rfl co19 (fun ρ w1 hb => Gives.mono (demand_spec w1 1) fun r w9 _ ⟨b, h1, h2⟩ => ⟨b, h1, (hb.at (S := fun _ => True) (s := w) (by simp [St.put])).size, h2⟩) fun b7 lo7 s7 hx7 => ?_
  obtain ⟨hlo7, hx7⟩ := hx7
  simp only [deA, e9, d9]
  simp only [sx, ty, q1, q2, q5, q6, q7, q8, q9, qa, qb, reduceIte, sy, q3, q4]
  refine WO.callM (fun b : Nat => deA (e9 4 b)) (fun lo b s8 => w.heap.size ≤ lo ∧ OkE (fun x => lo ≤ x) s8 (e9 4 b)) (ds := []) rfl rfl rfl rfl co19 (fun ρ w1 hb => Gives.mono (demand_spec w1 4) fun r w9 _ ⟨b, h1, h2⟩ => ⟨b, h1, (hb.at (S := fun _ => True) (s := w) (by simp [St.put])).size, h2⟩) fun b8 lo8 s8 hx8 => ?_
  obtain ⟨hlo8, hx8⟩ := hx8
  simp only [deA, e9, d9]
  refine WO.go 3 (ds := []) rfl ?_
  simp only [sx, ty, q1, q2, q5, q6, q7, q8, q9, qa, qb, reduceIte, sy, q3, q4]
  refine WO.callX (fun _ : Unit => .tuple #[.bool true, .int .i64 0]) (fun _ => True) (ds := []) rfl rfl rfl rfl co20 (fun ρ w1 hb => ?_) fun _ _ => ?_
  · have h9 := refuses_spec (xs := [e9 2 b6, e9 1 b7, e9 4 b8]) (nm := [e9 1 b7, e9 2 b6, e9 4 b8]) (cs := cs9) (ids := [1, 2, 4]) (own_listS (S := fun _ => True) (A := rDE) (k := 3) (n := 3) (c := 3) (xs := [e9 2 b6, e9 1 b7, e9 4 b8]) hb rfl rfl (Nat.le_refl _) (by omega) trivial (by rintro (_ | _ | _ | i) y hy <;> first | (cases hy; rfl) | simp at hy)) rfl (fun x hx => by
      simp only [List.mem_cons, List.not_mem_nil, or_false] at hx
      rcases hx with rfl | rfl | rfl
      · exact Rp.any (Rp.keep hx6 (hb.at (by simp [St.put])))
      · exact Rp.any (Rp.keep hx7 (hb.at (by simp [St.put])))
      · exact Rp.any (Rp.keep hx8 (hb.at (by simp [St.put])))) (own_listS (S := fun _ => True) (A := rCop) (k := 0) (n := 2) (c := 2) (xs := cs9) hb rfl rfl (Nat.le_refl _) (by omega) trivial (by rintro (_ | _ | i) y hy <;> first | (cases hy; exact ⟨[_], _, rfl, rfl, [_], _, rfl, rfl, [_], _, rfl, rfl, rfl⟩) | simp [cs9] at hy)) (Rp.any (Rp.keep hxa (hb.at (by simp [St.put])))) valid9' (by decide) (by decide) rfl (fun y hy => by
      simp only [List.mem_cons, List.not_mem_nil, or_false] at hy ⊢
      rcases hy with h | h | h <;> simp [h]) (by decide) (show valid [d9 1, d9 2, d9 4] cs9 = true by decide) least9 (by simp)
    exact h9.mono fun r w9 _ h => ⟨(), h, trivial⟩
  refine WO.go 5 (ds := []) rfl ?_
  simp only [sx, ty, q1, q2, q5, q6, q7, q8, q9, qa, qb, reduceIte, sy, q3, q4]
  with_reducible refine WO.nil ?_
  refine hK5 _ ?_; clear hK5
  refine W.join 0 (.val (.bool true)) [] (W.region ?_) ?_
  · skip
    refine WO.go 27 (ds := [some 46, some 47, some 48, some 49, some 50, some 51, some 52, some 53, some 54, some 55, some 56, some 57, some 58, some 59, some 60, some 61, some 62, some 63, some 64, some 65, some 66, some 67, some 68, some 69, some 70, some 71, some 72, some 73, some 74, some 75, some 76, some 77, some 78, some 79, some 80, some 81, some 82, some 83, some 84, some 0]) rfl ?_
    simp only [sx, ty, q1, q2, q5, q6, q7, q8, q9, qa, qb, reduceIte, sy, q3, q4, h22]
    refine WO.elem (y := ((2, 5, 0) : Giv)) hout (by simp [St.put]) (ds := [some 46, some 47, some 48, some 49, some 50, some 51, some 52, some 53, some 54, some 55, some 56, some 57, some 58, some 59, some 60, some 61, some 62, some 63, some 64, some 65, some 66, some 67, some 68, some 69, some 70, some 71, some 72, some 73, some 74, some 75, some 76, some 77, some 78, some 79, some 80, some 81, some 82, some 83, some 84, some 0]) rfl rfl rfl (by simp [St.put]) (fun _ => rfl) rfl rfl rfl rfl rfl el26 agg39 sz39 (.inl rfl) (by omega) ((by simp only [planL, List.range_succ, List.range_zero, List.nil_append, List.cons_append, List.map_cons, givF, first9 hBP]; rfl)) fun p ces hces => ?_
    obtain rfl := rGiv_open hces
    clear hces
    refine WO.go 1 (ds := [some 46, some 47, some 48, some 49, some 50, some 51, some 52, some 53, some 54, some 55, some 56, some 57, some 58, some 59, some 60, some 61, some 62, some 63, some 64, some 65, some 66, some 67, some 68, some 69, some 70, some 71, some 72, some 73, some 74, some 75, some 76, some 77, some 78, some 79, some 80, some 81, some 82, some 83, some 84, some 0]) rfl ?_
    simp only [sx, ty, q1, q2, q5, q6, q7, q8, q9, qa, qb, reduceIte, sy, q3, q4, h22]
    refine WO.aggCmp [2, 5, 0] [2, 5, 0] (ds := [some 46, some 47, some 48, some 49, some 50, some 51, some 52, some 53, some 54, some 55, some 56, some 57, some 58, some 59, some 60, some 61, some 62, some 63, some 64, some 65, some 66, some 67, some 68, some 69, some 70, some 71, some 72, some 73, some 74, some 75, some 76, some 77, some 78, some 79, some 80, some 81, some 82, some 83, some 84, some 0]) rfl rfl rfl rfl ⟨_, rfl, fun _ => rfl⟩ ⟨_, rfl, fun _ => rfl⟩ it39 rfl rfl rfl ?_
    refine WO.go 6 (ds := [some 46, some 47, some 48, some 49, some 50, some 51, some 52, some 53, some 54, some 55, some 56, some 57, some 58, some 59, some 60, some 61, some 62, some 63, some 64, some 65, some 66, some 67, some 68, some 69, some 70, some 71, some 72, some 73, some 74, some 75, some 76, some 77, some 78, some 79, some 80, some 81, some 82, some 83, some 84, some 0]) rfl ?_
    simp only [sx, ty, q1, q2, q5, q6, q7, q8, q9, qa, qb, reduceIte, sy, q3, q4, h22]
    refine WO.call (.bool true) (ds := [some 46, some 47, some 48, some 49, some 50, some 51, some 52, some 53, some 54, some 55, some 56, some 57, some 58, some 59, some 60, some 61, some 62, some 63, some 64, some 65, some 66, some 67, some 68, some 69, some 70, some 71, some 72, some 73, some 74, some 75, some 76, some 77, some 78, some 79, some 80, some 81, some 82, some 83, some 84, some 0]) rfl rfl rfl rfl co11 (fun ρ w1 hb => by
    have q1 := own_listS (S := fun _ => True) (A := rInts) (k := 4) (n := 1) (c := 1) (xs := [[1, 2, 4]]) hb rfl rfl (Nat.le_refl _) (by omega) trivial (Rp.one (Rp.any (Rp.keep hxa (hb.at (by simp [St.put])))))
    have q2 := own_listS (S := fun _ => True) (A := rInts) (k := 6) (n := 1) (c := 1) (xs := [[1, 2, 4]]) hb rfl rfl (Nat.le_refl _) (by omega) trivial (Rp.one (own_listS (S := fun _ => True) (A := rInt) (k := 5) (n := 3) (c := 3) (xs := [1, 2, 4]) hb rfl rfl (Nat.le_refl _) (by omega) trivial (by rintro (_ | _ | _ | i) y hy <;> first | (cases hy; rfl) | simp at hy)))
    exact same_spec q1 q2) ?_
    refine WO.go 2 (ds := [some 46, some 47, some 48, some 49, some 50, some 51, some 52, some 53, some 54, some 55, some 56, some 57, some 58, some 59, some 60, some 61, some 62, some 63, some 64, some 65, some 66, some 67, some 68, some 69, some 70, some 71, some 72, some 73, some 74, some 75, some 76, some 77, some 78, some 79, some 80, some 81, some 82, some 83, some 84, some 0]) rfl ?_
    simp only [sx, ty, q1, q2, q5, q6, q7, q8, q9, qa, qb, reduceIte, sy, q3, q4, h22]
    with_reducible refine WO.nil ?_
    refine ⟨rfl, ?_, ⟨_, rfl⟩, by simp [Own.bnd, bndL, bnd, boxO], by simp⟩
    simp [getE, bnd, keepE]
  · simp only [sx, ty, q1, q2, q5, q6, q7, q8, q9, qa, qb, reduceIte, sxk, sy, q3, q4, h22]
    refine W.ret ⟨by simp, _, rfl, fun ρ w1 hb => ?_⟩
    rfl
end Go.Proofs.YtolmeekbjonbcaaGreat
set_option linter.unusedVariables false
set_option linter.unusedSimpArgs false
namespace Go.SX
open Go Go.RowKit
section
variable {P : Program} {ops : Array Oper} {Q : Exit → St → Prop} {σ : St} {o : Oper} {rest : List Oper} {ds : List (Option Nat)}
theorem QR.slc {t e : TypeId} {sz n c : Nat} {p : Option Addr} {x : Operand} {lo hi : Option Operand} {rl rh : Option (IntKind × Int)}
    (hop : o.op = .slice t x lo hi none) (hx : ev σ x = some (.val (.slice p n c))) (he : elemSz P t = some (e, sz)) (hl : bdS σ lo = some rl) (hh : bdS σ hi = some rh) (h0 : 0 ≤ loS rl) (h1 : loS rl ≤ hiS n rh) (h2 : hiS n rh ≤ c) : QR P o σ (.val (slcV sz p c (loS rl).toNat (hiS n rh).toNat)) := fun ρ a w hs => by
  refine ⟨_, ?_, fun _ _ => rfl⟩
  unfold execOp
  rw [hop]
  simp only [Sem.run_bind, Option.map_none, bdS_ev hs hl, bdS_ev hs hh, hs.ev hx ρ (Agree.refl _ _), den, run_slc he h0 h1 h2, Result.andThen_ok, Sem.run_pure]
  rfl
theorem QR.appendZ {x y : Operand} {t e : TypeId} {sz by' c' : Nat} {zs : List Value} {a : Option Addr} {s : SV} (hop : o.op = .call ⟨.builtin .append, #[x, y], #[t, t]⟩) (hx : ev σ x = some s) (hs9 : ∀ ρ w, Base ρ σ w → ∃ p n c, den ρ s = .slice p n c ∧ n ≤ c) (hsm : ∀ ρ ρ', Agree σ.own.length ρ ρ' → den ρ' s = den ρ s) (hy : ev σ y = some (.val (.slice a 0 c'))) (he : elemK P t = some (e, sz, by', zs)) : QR P o σ s := fun ρ act w hs => by
  obtain ⟨hu, i, z, hi, hz, hsz, hby, hzs, hpos, hzl⟩ := elemK_spec he
  refine ⟨den ρ s, ?_, fun ρ' hρ => (hsm ρ ρ' hρ).symm⟩
  obtain ⟨p, n, c, hden, hnc⟩ := hs9 ρ w hs.base
  unfold execOp
  rw [hop]
  simp only [Sem.run_bind, resolve, List.map_toArray, List.map_cons, List.map_nil, Sem.run_pure, Result.andThen_ok, invoke, builtin]
  rw [hs.ev hx ρ (Agree.refl _ _), hs.ev hy ρ (Agree.refl _ _)]
  simp only [den, hden]
  have hrun : (Builtin.append_ #[t, t] o.type #[.slice p n c, .slice a 0 c']).run P w = .ok (.slice p n c) w := by
    cases p <;> cases a <;> simp [Builtin.append_, run_underlying hu, sizeOf, typeInfo, hi, hsz, Builtin.lenOf, Builtin.firstCells, hnc, loadCells, storeCells, loadCellsFrom]
  rw [hrun]
  rfl
theorem own_cap {ρ : Nat → Nat} {w : World} {k T sz n c : Nat} {q : Option Addr} {xs : List Value} (hb : Base ρ σ w) (hk : nth σ.own k = some (.slice T sz (.slice q n c) n xs)) : n ≤ c := by
  have hown := hb.own k _ (by rw [← nth_eq]; exact hk) ρ (Agree.refl _ _)
  simp only [Own.holds] at hown
  rcases hown.2 with ⟨hv, hn0⟩ | ⟨g, cap, cur, hv, hbg, hcell, hnc, hcm, hcs, htake⟩
  · omega
  · simp only [Value.slice.injEq] at hv
    obtain ⟨_, _, rfl⟩ := hv
    exact hnc
theorem QR.inSet {t kt et : TypeId} {m x : Operand} {k r : Nat} {ks : List Int} {y : Int}
    (hop : o.op = .lookup t m x false) (hk : nth σ.own k = some (.map r (setE ks) ks.length)) (hm : ev σ m = some (.val (.map (some r)))) (hx : ev σ x = some (.val (.int .i64 y))) (ht : mapSet P t = some (kt, et)) : QR P o σ (.val (.bool (ks.contains y))) := fun ρ a w hs => by
  rw [nth_eq] at hk
  have hown := hs.base.own k _ hk ρ (Agree.refl _ _)
  simp only [Own.holds] at hown
  obtain ⟨hu, ⟨kk, hkk⟩, i, hi, hz⟩ := mapSet_spec ht
  refine ⟨.bool (ks.contains y), ?_, fun _ _ => rfl⟩
  unfold execOp
  rw [hop]
  simp only [Sem.run_bind, hs.ev hm ρ (Agree.refl _ _), hs.ev hx ρ (Agree.refl _ _), den, Instr.lookup, run_underlying hu, Result.andThen_ok]
  have hget : (getObj r).run P w = .ok (.map (setE ks) ks.length) w := by simp [getObj, Sem.run, hown]
  simp only [hget, Result.andThen_ok, Sem.run_bind, Sem.run_pure, run_checkKey hkk, Instr.findKey, run_underlying hkk]
  have hzero : (zeroValue et).run P w = .ok (.bool false) w := by simp [zeroValue, typeInfo, hi, hz]
  rcases findNow_set kk y ks 0 0 with ⟨h1, h2⟩ | ⟨n, h1, h2⟩
  · simp [setE, h1, hzero, h2]
  · simp [setE, h1, h2]
/-- what is left: a slot whose value is read in a snapshot of the end -/
def FZ (σ : St) (i : Nat) (env : List (Nat × SV)) (sn : List ((Nat → Prop) × World)) (Post : (Nat → Prop) → World → Value → Prop) (τ : St) : Prop :=
  (τ.n, τ.dfs) = (σ.n, σ.dfs) ∧ (∀ p, p ∈ env → getE τ.env p.1 = some p.2 ∧ bnd 0 p.2 = true) ∧ (∀ p, p ∈ sn → p ∈ τ.snaps) ∧ ∃ s, getE τ.env i = some s ∧ ∀ ρ w, Base ρ τ w → ∃ S, Post S w (den ρ s)
theorem W.seqFreeze {x y : Code} (i : Nat) (env : List (Nat × SV)) (sn : List ((Nat → Prop) × World)) (Post : (Nat → Prop) → World → Value → Prop)
    (h1 : W P x (andThen (FZ σ i env sn Post) Q) σ) (h2 : ∀ S s v, Post S s v → W P y Q ⟨σ.n, (i, .val v) :: env, [], (S, s) :: sn, σ.dfs⟩) : W P (.seq x y) Q σ :=
  W.seqM _ h1 fun τ ⟨hn, he, hsn, s, hs, hp⟩ => fun ρ a w hsat => by
    obtain ⟨S, hS⟩ := hp ρ w hsat.base
    refine h2 S w (den ρ s) hS ρ a w ?_
    have hn1 : τ.n = σ.n := congrArg Prod.fst hn
    have hn2 : τ.dfs = σ.dfs := congrArg Prod.snd hn
    refine ⟨by rw [← hn1]; exact hsat.size, by rw [← hn2]; exact hsat.defers, fun j u hj => ?_, ⟨fun k o hk => by simp at hk, fun k j ok oj b hk => by simp at hk, fun p hp => ?_⟩⟩
    · simp only [getE] at hj
      split at hj
      · rename_i hij
        obtain rfl := hij
        obtain rfl := Option.some.inj hj
        obtain ⟨q1, q2⟩ := hsat.env _ s hs
        exact ⟨by rw [← hn1]; exact q1, fun ρ' _ => q2 ρ (Agree.refl _ _)⟩
      · obtain ⟨q1, q2⟩ := he (j, u) (getE_in hj)
        obtain ⟨q3, q4⟩ := hsat.env j u q1
        refine ⟨by rw [← hn1]; exact q3, fun ρ' _ => ?_⟩
        rw [den_agree (m := 0) (ρ := ρ) (fun i hi => by omega) u q2]
        exact q4 ρ (Agree.refl _ _)
    · rcases List.mem_cons.1 hp with rfl | hp
      · exact ⟨Keep.refl _ _, fun k o b hk => by simp at hk⟩
      · exact ⟨(hsat.base.keep p (hsn p hp)).1, fun k o b hk => by simp at hk⟩
end
end Go.SX
set_option linter.unusedVariables false
set_option linter.unusedSimpArgs false
set_option maxHeartbeats 2000000
namespace Go.Proofs.YtolmeekbjonbcaaGreat
open Int renaming reduceEq → q1, reduceLT → q2, reduceBEq → q3, reduceBNe → q4
open Nat renaming reduceAdd → q5, reduceSub → q6, reduceMul → q7, reduceLT → q8, reduceLeDiff → q9, reduceEqDiff → qa
open List renaming reduceReplicate → qb
open Go Go.SX Go.RowKit
theorem hall_rng {x : Int} (h : 0 ≤ x ∧ x ≤ 255) : within 0 99 ((IntKind.i64.wrap x).tmod 100) = true := by
  rw [wrap_id (by omega) (by omega)]
  have h1 := Int.tmod_nonneg 100 h.1
  have h2 := Int.tmod_lt_of_pos x (show (0 : Int) < 100 by decide)
  simp only [within, Bool.and_eq_true, decide_eq_true_eq]
  omega
theorem few_size {ds : List Dem} {cs : List Cop} (h : (few36 ds cs && valid ds cs) = true) : ds.length ≤ 7 ∧ cs.length ≤ 8 ∧ valid ds cs = true ∧ few36 ds cs = true := by
  simp only [Bool.and_eq_true] at h
  have h1 := h.1
  simp only [few36, Bool.and_eq_true, decide_eq_true_eq] at h1
  exact ⟨h1.2.1, h1.2.2, h.2, h.1⟩
theorem valid_of {ds l : List Dem} {cs : List Cop} (hv : valid ds cs = true) (hm : ∀ x, x ∈ l → x ∈ ds) (hn : (l.map (·.1)).Nodup) (hl : l.length ≤ 200) : valid l cs = true := by
  obtain ⟨h1, h2, h3, h4, h5, h6⟩ := valid_mem hv
  simp only [valid, validDs, validCs, Bool.and_eq_true, decide_eq_true_eq, List.all_eq_true]
  exact ⟨⟨⟨hl, fun x hx => h2 x (hm x hx)⟩, hn⟩, ⟨h4, h5⟩, h6⟩
theorem perm_ids {ds l1 l2 : List Dem} (hn : (ds.map (·.1)).Nodup) (h1 : ∀ x, x ∈ l1 → x ∈ ds) (h2 : ∀ x, x ∈ l2 → x ∈ ds) (hn1 : (l1.map (·.1)).Nodup) (hp : (l1.map (·.1)).Perm (l2.map (·.1))) : l1.Perm l2 := by
  refine (List.perm_ext_iff_of_nodup (nodup_of_map hn1) (nodup_of_map (hp.nodup_iff.1 hn1))).2 fun x => ⟨fun hx => ?_, fun hx => ?_⟩
  · obtain ⟨y, hy, he⟩ := List.mem_map.1 (hp.mem_iff.1 (List.mem_map.2 ⟨x, hx, rfl⟩))
    rwa [← one_of hn (h2 y hy) (h1 x hx) he]
  · obtain ⟨y, hy, he⟩ := List.mem_map.1 (hp.mem_iff.2 (List.mem_map.2 ⟨x, hx, rfl⟩))
    rwa [← one_of hn (h1 y hy) (h2 x hx) he]
/-- what the demands that are named are -/
structure NamedP (ds : List Dem) (cs : List Cop) (xs nm : List DE) (ids : List Int) : Prop where
  ids : nm.map (·.1.1) = ids
  mem : ∀ y, y ∈ nm → y ∈ xs
  nd : (nm.map (·.1.1)).Nodup
  val : valid (nm.map (·.1)) cs = true
  least : Least (nm.map (·.1)) cs
  len : nm.length ≤ 7
  pos : 0 < nm.length
theorem ref_in {ds : List Dem} {cs : List Cop} {xs : List DE} {ids : List Int} (hxm : xs.map (·.1) = ds) (h : RefP ds cs ids) : ids.Pairwise (· < ·) ∧ ids.length ≤ ds.length ∧ ∀ id, id ∈ ids → ∃ x, x ∈ xs ∧ x.1.1 = id := by
  obtain ⟨left, h1, h2, h3, h4⟩ := h
  refine ⟨h3, ?_, fun id hid => ?_⟩
  · rw [h4.length_eq, List.length_map]; exact h1.length_le
  · obtain ⟨d, hd, rfl⟩ := List.mem_map.1 (h4.mem_iff.1 hid)
    have := h1.subset hd
    rw [← hxm] at this
    obtain ⟨x, hx, rfl⟩ := List.mem_map.1 this
    exact ⟨x, hx, rfl⟩
theorem named_of {ds : List Dem} {cs : List Cop} {xs nm : List DE} {ids : List Int} (hv : valid ds cs = true) (hxm : xs.map (·.1) = ds) (h7 : ds.length ≤ 7) (h : RefP ds cs ids) (h1 : nm.map (·.1.1) = ids) (h2 : ∀ y, y ∈ nm → y ∈ xs) : NamedP ds cs xs nm ids := by
  obtain ⟨left, g1, g2, g3, g4⟩ := h
  have hmm : (nm.map (·.1)).map (·.1) = ids := by rw [← h1, List.map_map]; rfl
  have hnd : ids.Nodup := g3.imp fun h => by omega
  have hsub : ∀ x, x ∈ nm.map (·.1) → x ∈ ds := fun x hx => by
    obtain ⟨y, hy, rfl⟩ := List.mem_map.1 hx
    rw [← hxm]; exact List.mem_map.2 ⟨y, h2 y hy, rfl⟩
  have hlen : nm.length ≤ 7 := by
    have e1 : nm.length = ids.length := by rw [← h1]; simp
    have e2 := g4.length_eq
    have e3 := g1.length_le
    simp only [List.length_map] at e2
    omega
  have hp : (nm.map (·.1)).Perm left := perm_ids (valid_mem hv).2.2.1 hsub (fun x hx => g1.subset hx) (by rw [hmm]; exact hnd) (by rw [hmm]; exact g4)
  refine ⟨h1, h2, by rw [h1]; exact hnd, valid_of hv hsub (by rw [hmm]; exact hnd) (by simp; omega), g2.perm hp, hlen, ?_⟩
  rcases Nat.eq_zero_or_pos nm.length with h0 | h0
  · have : nm = [] := List.length_eq_zero_iff.1 h0
    subst this
    exact absurd (by rw [List.nil_perm.1 hp]; exact meet_nil cs) g2.no
  · exact h0
theorem NamedP.again {ds : List Dem} {cs : List Cop} {xs nm : List DE} {ids ids' : List Int} (hN : NamedP ds cs xs nm ids) (hs : ids.Pairwise (· < ·)) (h : RefP (nm.map (·.1)) cs ids') : ids' = ids := by
  obtain ⟨left, g1, g2, g3, g4⟩ := h
  have hnd : ((nm.map (·.1)).map (·.1)).Nodup := by have := hN.nd; simpa [Function.comp_def] using this
  have hl := hN.least.all hnd g1 g2.no
  subst hl
  have h6 : ids'.Perm ids := by rw [← hN.ids]; simpa [Function.comp_def] using g4
  exact List.Perm.eq_of_pairwise (fun a b _ _ h1 h2 => by omega) g3 hs h6
/-- the demands that are named, without one -/
theorem rest_facts {ds : List Dem} {cs : List Cop} {xs nm : List DE} {ids : List Int} (hN : NamedP ds cs xs nm ids) {i : Nat} (hi : i < nm.length) : (∀ y, y ∈ nm.take i ++ nm.drop (i + 1) → y ∈ nm) ∧ (nm.take i ++ nm.drop (i + 1)).length = nm.length - 1 ∧ valid ((nm.take i ++ nm.drop (i + 1)).map (·.1)) cs = true ∧ MeetL ((nm.take i ++ nm.drop (i + 1)).map (·.1)) cs := by
  obtain ⟨y, hy⟩ := len_lt (rfl : nm.length = _) hi
  have he : nm.take i ++ nm.drop (i + 1) = nm.eraseIdx i := by rw [List.eraseIdx_eq_take_drop_succ]
  have hsub : (nm.take i ++ nm.drop (i + 1)).Sublist nm := by rw [he]; exact List.eraseIdx_sublist ..
  refine ⟨fun z hz => hsub.subset hz, by rw [he, List.length_eraseIdx_of_lt hi], valid_sub hN.val (hsub.map _), (hN.least.min y.1 (List.mem_map.2 ⟨y, List.mem_of_getElem? hy, rfl⟩)).mono fun x hx => ?_⟩
  obtain ⟨z, hz, rfl⟩ := List.mem_map.1 hx
  refine mem_without.2 ⟨List.mem_map.2 ⟨z, hsub.subset hz, rfl⟩, fun hid => ?_⟩
  obtain ⟨j, hj⟩ := List.mem_iff_getElem?.1 hz
  rw [he, List.getElem?_eraseIdx] at hj
  split at hj
  · have := get_inj hN.nd (x := y.1.1) (i := i) (j := j) (by rw [List.getElem?_map, hy]; rfl) (by rw [List.getElem?_map, hj]; exact congrArg some hid)
    omega
  · have := get_inj hN.nd (x := y.1.1) (i := i) (j := j + 1) (by rw [List.getElem?_map, hy]; rfl) (by rw [List.getElem?_map, hj]; exact congrArg some hid)
    omega
theorem slc_news {S : Nat → Prop} {w : World} {p : Option Addr} {n c l h : Nat} {nm : List DE} (hr : rDEs.rd S w [.slice p n c] nm) (h2 : h ≤ n) (hlt : l < h) : ∃ a, slcV 4 p c l h = .slice (some a) (h - l) (c - l) ∧ At w a (desV ((nm.drop l).take (h - l))) := by
  have h9 := Rp.slc (A := rDE) (l := l) (h := h) hr (by omega) h2
  obtain ⟨a, h1, _, h3⟩ := des_cells (p := if c = l then p else p.map (·.add (l * 4))) (n := h - l) (c := c - l) h9 (by omega)
  exact ⟨a, by unfold slcV; rw [h1], h3⟩
theorem slc_none {p : Option Addr} {c l : Nat} : ∃ a c', slcV 4 p c l l = .slice a 0 c' := ⟨_, _, by unfold slcV; rw [Nat.sub_self]⟩
/-- function 3 -/
theorem refused_no {S S2 : Nat → Prop} {w : World} {v u : Value} {ds : List Dem} {cs : List Cop} (hl : rDems.rd S w [v] ds) (hl2 : rCops.rd S2 w [u] cs) (hall other : Int) (huse : (few36 ds cs && valid ds cs) = false) : Gives Tryz.prog 3 #[v, u, .int .u8 hall, .int .u8 other] w fun r _ => r = .bool true := by
  obtain ⟨p, c, rfl, hc1, hc2⟩ := Rp.slice_val hl
  obtain ⟨p2, c2, rfl, hc3, hc4⟩ := Rp.slice_val hl2
  have hl : (Rp.slice rDem).rd (fun _ => True) w _ ds := Rp.any hl
  have hl2 : (Rp.slice rCop).rd (fun _ => True) w _ cs := Rp.any hl2
  refine gives_of [.val (.slice p ds.length c), .val (.slice p2 cs.length c2), .val (.int .u8 hall), .val (.int .u8 other)] 226 [.tmp 8] Tryz.func3 rfl rfl rfl (by simp) rfl rfl ?_
  refine W.pure (ds := []) rfl fun K1 hK1 => ?_
  simp only [sx, ty, q1, q2, q5, q6, q7, q8, q9, qa, qb, reduceIte, sy, q3, q4]; with_reducible refine hK1 _ ?_; clear hK1
  refine W.seqK fun K2 hK2 => W.region ?_
  refine WO.call (.bool true) (ds := []) rfl rfl rfl rfl co5 (fun ρ w1 hb => planned_spec w1) ?_
  refine WO.go 1 (ds := []) rfl ?_
  simp only [sx, ty, q1, q2, q5, q6, q7, q8, q9, qa, qb, reduceIte, sy, q3, q4]
  with_reducible refine WO.nil ?_
  refine hK2 _ ?_; clear hK2
  refine W.seqK fun K3 hK3 => ?_
  refine W.join 46 (.val (.bool true)) [0, 1, 2, 3, 9] (W.region ?_) ?_
  · skip
    refine WO.go 2 (ds := [some 37, some 38, some 39, some 40, some 41, some 42, some 43, some 44, some 45, some 46]) rfl ?_
    simp only [sx, ty, q1, q2, q5, q6, q7, q8, q9, qa, qb, reduceIte, sy, q3, q4]
    refine WO.call (.bool (few36 ds cs)) (ds := [some 37, some 38, some 39, some 40, some 41, some 42, some 43, some 44, some 45, some 46]) rfl rfl rfl rfl co6 (fun ρ w1 hb => few36_spec (Rp.now hl (hb.first (by simp))) (Rp.now hl2 (hb.first (by simp)))) ?_
    refine WO.go 2 (ds := [some 37, some 38, some 39, some 40, some 41, some 42, some 43, some 44, some 45, some 46]) rfl ?_
    simp only [sx, ty, q1, q2, q5, q6, q7, q8, q9, qa, qb, reduceIte, sy, q3, q4]
    refine WO.cases 41 _ rfl (fun hg41 => ?_) (fun hg41 => ?_)
    · skip
      refine WO.go 5 (ds := [some 37, some 38, some 39, some 40, some 41, some 42, some 43, some 44, some 45, some 46]) rfl ?_
      simp only [sx, ty, q1, q2, q5, q6, q7, q8, q9, qa, qb, reduceIte, sy, q3, q4]
      with_reducible refine WO.nil ?_
      refine ⟨rfl, ?_, ⟨_, rfl⟩, by simp [Own.bnd, bndL, bnd, boxO], by simp⟩
      try rw [hg41]
      try simp [getE, bnd, keepE, huse]
      try (simp at hg41; simp [getE, bnd, keepE, hg41] at huse ⊢)
      try simp_all [getE, bnd, keepE]
    · skip
      refine WO.go 2 (ds := [some 37, some 38, some 39, some 40, some 41, some 42, some 43, some 44, some 45, some 46]) rfl ?_
      simp only [sx, ty, q1, q2, q5, q6, q7, q8, q9, qa, qb, reduceIte, sy, q3, q4]
      refine WO.call (.bool (valid ds cs)) (ds := [some 37, some 38, some 39, some 40, some 41, some 42, some 43, some 44, some 45, some 46]) rfl rfl rfl rfl co7 (fun ρ w1 hb => rvalid_spec (Rp.now hl (hb.first (by simp))) (Rp.now hl2 (hb.first (by simp)))) ?_
      refine WO.go 2 (ds := [some 37, some 38, some 39, some 40, some 41, some 42, some 43, some 44, some 45, some 46]) rfl ?_
      simp only [sx, ty, q1, q2, q5, q6, q7, q8, q9, qa, qb, reduceIte, sy, q3, q4]
      with_reducible refine WO.nil ?_
      refine ⟨rfl, ?_, ⟨_, rfl⟩, by simp [Own.bnd, bndL, bnd, boxO], by simp⟩
      try rw [hg41]
      try simp [getE, bnd, keepE, huse]
      try (simp at hg41; simp [getE, bnd, keepE, hg41] at huse ⊢)
      try simp_all [getE, bnd, keepE]
  · simp only [sx, ty, q1, q2, q5, q6, q7, q8, q9, qa, qb, reduceIte, sxk, sy, q3, q4]
    refine W.cond rfl rfl (fun hc => ?_) (fun hc => ?_)
    rotate_left
    · skip
      simp at hc
    · skip
      refine W.pure (ds := []) rfl fun K5 hK5 => ?_
      simp only [sx, ty, q1, q2, q5, q6, q7, q8, q9, qa, qb, reduceIte, sy, q3, q4]; with_reducible refine hK5 _ ?_; clear hK5
      refine W.ret ⟨by simp, _, rfl, fun ρ w1 hb => ?_⟩
      rfl
/-- function 3 -/
theorem refused_yes {S S2 : Nat → Prop} {w : World} {v u : Value} {ds : List Dem} {cs : List Cop} (hl : rDems.rd S w [v] ds) (hl2 : rCops.rd S2 w [u] cs) (hall other : Int) (hh : 0 ≤ hall ∧ hall ≤ 255) (huse : (few36 ds cs && valid ds cs) = true) (hm : MeetL ds cs) : Gives Tryz.prog 3 #[v, u, .int .u8 hall, .int .u8 other] w fun r _ => r = .bool true := by
  obtain ⟨p, c, rfl, hc1, hc2⟩ := Rp.slice_val hl
  obtain ⟨p2, c2, rfl, hc3, hc4⟩ := Rp.slice_val hl2
  have hl : (Rp.slice rDem).rd (fun _ => True) w _ ds := Rp.any hl
  have hl2 : (Rp.slice rCop).rd (fun _ => True) w _ cs := Rp.any hl2
  obtain ⟨h7, h8, hv, hf⟩ := few_size huse
  have hhr := hall_rng hh
  have h00 : (((0 : Nat) : Int) == 0) = true := rfl
  refine gives_of [.val (.slice p ds.length c), .val (.slice p2 cs.length c2), .val (.int .u8 hall), .val (.int .u8 other)] 226 [.tmp 8] Tryz.func3 rfl rfl rfl (by simp) rfl rfl ?_
  refine W.pure (ds := []) rfl fun K1 hK1 => ?_
  simp only [sx, ty, q1, q2, q5, q6, q7, q8, q9, qa, qb, reduceIte, sy, q3, q4]; with_reducible refine hK1 _ ?_; clear hK1
  refine W.seqK fun K2 hK2 => W.region ?_
  refine WO.call (.bool true) (ds := []) rfl rfl rfl rfl co5 (fun ρ w1 hb => planned_spec w1) ?_
  refine WO.go 1 (ds := []) rfl ?_
  simp only [sx, ty, q1, q2, q5, q6, q7, q8, q9, qa, qb, reduceIte, sy, q3, q4]
  with_reducible refine WO.nil ?_
  refine hK2 _ ?_; clear hK2
  refine W.seqK fun K3 hK3 => ?_
  refine W.join 46 (.val (.bool false)) [0, 1, 2, 3, 9] (W.region ?_) ?_
  · skip
    refine WO.go 2 (ds := [some 37, some 38, some 39, some 40, some 41, some 42, some 43, some 44, some 45, some 46]) rfl ?_
    simp only [sx, ty, q1, q2, q5, q6, q7, q8, q9, qa, qb, reduceIte, sy, q3, q4]
    refine WO.call (.bool (few36 ds cs)) (ds := [some 37, some 38, some 39, some 40, some 41, some 42, some 43, some 44, some 45, some 46]) rfl rfl rfl rfl co6 (fun ρ w1 hb => few36_spec (Rp.now hl (hb.first (by simp))) (Rp.now hl2 (hb.first (by simp)))) ?_
    refine WO.go 2 (ds := [some 37, some 38, some 39, some 40, some 41, some 42, some 43, some 44, some 45, some 46]) rfl ?_
    simp only [sx, ty, q1, q2, q5, q6, q7, q8, q9, qa, qb, reduceIte, sy, q3, q4]
    refine WO.cases 41 _ rfl (fun hg41 => ?_) (fun hg41 => ?_)
    · skip
      refine WO.go 5 (ds := [some 37, some 38, some 39, some 40, some 41, some 42, some 43, some 44, some 45, some 46]) rfl ?_
      simp only [sx, ty, q1, q2, q5, q6, q7, q8, q9, qa, qb, reduceIte, sy, q3, q4]
      with_reducible refine WO.nil ?_
      refine ⟨rfl, ?_, ⟨_, rfl⟩, by simp [Own.bnd, bndL, bnd, boxO], by simp⟩
      try rw [hg41]
      try simp [getE, bnd, keepE, huse]
      try (simp at hg41; simp [getE, bnd, keepE, hg41] at huse ⊢)
      try simp_all [getE, bnd, keepE]
    · skip
      refine WO.go 2 (ds := [some 37, some 38, some 39, some 40, some 41, some 42, some 43, some 44, some 45, some 46]) rfl ?_
      simp only [sx, ty, q1, q2, q5, q6, q7, q8, q9, qa, qb, reduceIte, sy, q3, q4]
      refine WO.call (.bool (valid ds cs)) (ds := [some 37, some 38, some 39, some 40, some 41, some 42, some 43, some 44, some 45, some 46]) rfl rfl rfl rfl co7 (fun ρ w1 hb => rvalid_spec (Rp.now hl (hb.first (by simp))) (Rp.now hl2 (hb.first (by simp)))) ?_
      refine WO.go 2 (ds := [some 37, some 38, some 39, some 40, some 41, some 42, some 43, some 44, some 45, some 46]) rfl ?_
      simp only [sx, ty, q1, q2, q5, q6, q7, q8, q9, qa, qb, reduceIte, sy, q3, q4]
      with_reducible refine WO.nil ?_
      refine ⟨rfl, ?_, ⟨_, rfl⟩, by simp [Own.bnd, bndL, bnd, boxO], by simp⟩
      try rw [hg41]
      try simp [getE, bnd, keepE, huse]
      try (simp at hg41; simp [getE, bnd, keepE, hg41] at huse ⊢)
      try simp_all [getE, bnd, keepE]
  · simp only [sx, ty, q1, q2, q5, q6, q7, q8, q9, qa, qb, reduceIte, sxk, sy, q3, q4]
    refine W.cond rfl rfl (fun hc => ?_) (fun hc => ?_)
    · skip
      simp at hc
    · skip
      refine W.skip (hK3 _ ?_)
      refine W.pure (ds := []) rfl fun K5 hK5 => ?_
      simp only [sx, ty, q1, q2, q5, q6, q7, q8, q9, qa, qb, reduceIte, sy, q3, q4]; with_reducible refine hK5 _ ?_; clear hK5
      refine W.seqK fun K6 hK6 => W.region ?_
      refine WO.go 3 (ds := []) rfl ?_
      simp only [sx, ty, q1, q2, q5, q6, q7, q8, q9, qa, qb, reduceIte, sy, q3, q4]
      refine WO.callX (fun x : Option Addr × Nat => .tuple #[.slice x.1 ds.length x.2, .slice none 0 0, .bool true, .int .i64 0]) (fun _ => True) (ds := []) rfl rfl rfl rfl co8 (fun ρ w1 hb => Gives.mono (plan_yes (Rp.now hl (hb.first (by simp [St.put]))) (Rp.now hl2 (hb.first (by simp [St.put]))) hv hhr (by omega) (by omega) hm) fun r w9 _ ⟨x, h1, _⟩ => ⟨x.2, h1, trivial⟩) fun x _ => ?_
      refine WO.go 9 (ds := []) rfl ?_
      simp only [sx, ty, q1, q2, q5, q6, q7, q8, q9, qa, qb, reduceIte, sy, q3, q4]
      with_reducible refine WO.nil ?_
      refine hK6 _ ?_; clear hK6
      refine W.seqK fun K7 hK7 => ?_
      refine W.pure (ds := []) rfl fun K8 hK8 => ?_
      simp only [sx, ty, q1, q2, q5, q6, q7, q8, q9, qa, qb, reduceIte, sy, q3, q4]; with_reducible refine hK8 _ ?_; clear hK8
      refine W.cond rfl rfl (fun hc => ?_) (fun hc => ?_)
      · skip
        simp at hc
      · skip
        refine W.skip (hK7 _ ?_)
        refine W.seqK fun K9 hK9 => ?_
        refine W.pure (ds := []) rfl fun K10 hK10 => ?_
        simp only [sx, ty, q1, q2, q5, q6, q7, q8, q9, qa, qb, reduceIte, sy, q3, q4]; with_reducible refine hK10 _ ?_; clear hK10
        refine W.cond rfl rfl (fun hc => ?_) (fun hc => ?_)
        rotate_left
        · skip
          simp at hc
        · skip
          refine W.seqK fun K11 hK11 => W.region ?_
          refine WO.go 3 (ds := []) rfl ?_
          simp only [sx, ty, q1, q2, q5, q6, q7, q8, q9, qa, qb, reduceIte, sy, q3, q4]
          refine WO.callX (fun x : Option Addr × Nat => .tuple #[.slice x.1 0 x.2, .bool false, .int .i64 0]) (fun _ => True) (ds := []) rfl rfl rfl rfl co9 (fun ρ w1 hb => Gives.mono (wshort_spec (Rp.now hl (hb.first (by simp [St.put]))) (Rp.now hl2 (hb.first (by simp [St.put]))) hv hhr (by omega)) fun r w9 _ ⟨x, h1⟩ => ⟨x, by rw [h1, short_no (valid_mem hv).2.2.1 hm], trivial⟩) fun x _ => ?_
          refine WO.go 7 (ds := []) rfl ?_
          simp only [sx, ty, q1, q2, q5, q6, q7, q8, q9, qa, qb, reduceIte, sy, q3, q4]
          with_reducible refine WO.nil ?_
          refine hK11 _ ?_; clear hK11
          refine W.join 8 (.val (.bool true)) [] (W.region ?_) ?_
          · skip
            refine WO.go 20 (ds := [some 71, some 72, some 73, some 74, some 75, some 76, some 77, some 78, some 79, some 80, some 81, some 82, some 83, some 84, some 85, some 86, some 87, some 88, some 89, some 8]) rfl ?_
            simp only [sx, ty, q1, q2, q5, q6, q7, q8, q9, qa, qb, reduceIte, sy, q3, q4, h00]
            with_reducible refine WO.nil ?_
            refine ⟨rfl, ?_, ⟨_, rfl⟩, by simp [Own.bnd, bndL, bnd, boxO], by simp⟩
            simp [getE, bnd, keepE]
          · simp only [sx, ty, q1, q2, q5, q6, q7, q8, q9, qa, qb, reduceIte, sxk, sy, q3, q4, h00]
            refine W.ret ⟨by simp, _, rfl, fun ρ w1 hb => ?_⟩
            rfl
end Go.Proofs.YtolmeekbjonbcaaGreat
set_option linter.unusedVariables false
set_option linter.unusedSimpArgs false
set_option maxHeartbeats 4000000
namespace Go.Proofs.YtolmeekbjonbcaaGreat
open Int renaming reduceEq → q1, reduceLT → q2, reduceBEq → q3, reduceBNe → q4
open Nat renaming reduceAdd → q5, reduceSub → q6, reduceMul → q7, reduceLT → q8, reduceLeDiff → q9, reduceEqDiff → qa
open List renaming reduceReplicate → qb
open Go Go.SX Go.RowKit
theorem copy_new {ds : List Dem} {cs : List Cop} {hall : Int} {at9 : List Nat} (hcn : (cs.map (·.1)).Nodup) (hB : BP ds cs hall at9) {k a : Nat} {c : Cop} (hk : k < ds.length) (ha : at9.getD k 0 = a) (hc : cs[a]? = some c) : c.1 ∉ (at9.take k).map fun j => (cs.getD j (0, 0, 0, 0)).1 := fun hm => by
  obtain ⟨j, hj, he⟩ := List.mem_map.1 hm
  obtain ⟨i, hi⟩ := List.mem_iff_getElem?.1 hj
  have hik : i < k := by have := (List.getElem?_eq_some_iff.1 hi).1; simp at this; omega
  rw [List.getElem?_take_of_lt hik] at hi
  have hgi : at9.getD i 0 = j := getD_some hi
  have hjm := hB.mat.lt i (by omega)
  simp only [hgi] at hjm
  rw [costs_wide (by rintro rfl; simp at hk)] at hjm
  obtain ⟨c', hc'⟩ := len_lt (rfl : cs.length = _) hjm
  rw [getD_some hc'] at he
  have h1 := get_inj hcn (x := c.1) (i := a) (j := j) (by rw [List.getElem?_map, hc]; rfl) (by rw [List.getElem?_map, hc']; exact congrArg some he)
  have h2 := hB.mat.inj i k (by omega) hk (by show at9.getD i 0 = at9.getD k 0; rw [hgi, ha, h1])
  omega
/-- function 3 -/
theorem refused_some {S S2 : Nat → Prop} {w : World} {v u : Value} {ds : List Dem} {cs : List Cop} (hl : rDems.rd S w [v] ds) (hl2 : rCops.rd S2 w [u] cs) (hall other : Int) (hh : 0 ≤ hall ∧ hall ≤ 255) (ho : 0 ≤ other ∧ other ≤ 255) (huse : (few36 ds cs && valid ds cs) = true) (hno : ¬ MeetL ds cs) : Gives Tryz.prog 3 #[v, u, .int .u8 hall, .int .u8 other] w fun r _ => r = .bool true := by
  obtain ⟨xs, hxm, hxr, hxe⟩ := open_des hl
  obtain ⟨p, c, rfl, hc1, hc2⟩ := Rp.slice_val hl
  obtain ⟨p2, c2, rfl, hc3, hc4⟩ := Rp.slice_val hl2
  have hl : (Rp.slice rDem).rd (fun _ => True) w _ ds := Rp.any hl
  have hl2 : (Rp.slice rCop).rd (fun _ => True) w _ cs := Rp.any hl2
  have hxr : (Rp.slice rDE).rd (fun _ => True) w _ xs := Rp.any hxr
  have hxl : xs.length = ds.length := by rw [← hxm]; simp
  obtain ⟨h7, h8, hv, hf⟩ := few_size huse
  have hhr := hall_rng hh
  have hhr2 := hall_rng ho
  obtain ⟨h, hhe⟩ : ∃ h, (IntKind.i64.wrap hall).tmod 100 = h := ⟨_, rfl⟩
  obtain ⟨h2, hoe⟩ : ∃ h2, (IntKind.i64.wrap other).tmod 100 = h2 := ⟨_, rfl⟩
  rw [hhe] at hhr
  rw [hoe] at hhr2
  have hxn : (xs.map (·.1.1)).Nodup := by
    have := (valid_mem hv).2.2.1
    rw [← hxm] at this
    simpa [Function.comp_def] using this
  have hcn := (valid_mem hv).2.2.2.2.2
  have hb2 : ∀ n : Nat, ((n : Int) != (n : Int)) = false := fun n => bne_self_eq_false _
  refine gives_of [.val (.slice p ds.length c), .val (.slice p2 cs.length c2), .val (.int .u8 hall), .val (.int .u8 other)] 226 [.tmp 8] Tryz.func3 rfl rfl rfl (by simp) rfl rfl ?_
  refine W.pure (ds := []) rfl fun K1 hK1 => ?_
  simp only [sx, ty, q1, q2, q5, q6, q7, q8, q9, qa, qb, reduceIte, sy, q3, q4]; with_reducible refine hK1 _ ?_; clear hK1
  refine W.seqK fun K2 hK2 => W.region ?_
  refine WO.call (.bool true) (ds := []) rfl rfl rfl rfl co5 (fun ρ w1 hb => planned_spec w1) ?_
  refine WO.go 1 (ds := []) rfl ?_
  simp only [sx, ty, q1, q2, q5, q6, q7, q8, q9, qa, qb, reduceIte, sy, q3, q4]
  with_reducible refine WO.nil ?_
  refine hK2 _ ?_; clear hK2
  refine W.seqK fun K3 hK3 => ?_
  refine W.join 46 (.val (.bool false)) [0, 1, 2, 3, 9] (W.region ?_) ?_
  · skip
    refine WO.go 2 (ds := [some 37, some 38, some 39, some 40, some 41, some 42, some 43, some 44, some 45, some 46]) rfl ?_
    simp only [sx, ty, q1, q2, q5, q6, q7, q8, q9, qa, qb, reduceIte, sy, q3, q4]
    refine WO.call (.bool (few36 ds cs)) (ds := [some 37, some 38, some 39, some 40, some 41, some 42, some 43, some 44, some 45, some 46]) rfl rfl rfl rfl co6 (fun ρ w1 hb => few36_spec (Rp.now hl (hb.first (by simp))) (Rp.now hl2 (hb.first (by simp)))) ?_
    refine WO.go 2 (ds := [some 37, some 38, some 39, some 40, some 41, some 42, some 43, some 44, some 45, some 46]) rfl ?_
    simp only [sx, ty, q1, q2, q5, q6, q7, q8, q9, qa, qb, reduceIte, sy, q3, q4]
    refine WO.cases 41 _ rfl (fun hg41 => ?_) (fun hg41 => ?_)
    · skip
      refine WO.go 5 (ds := [some 37, some 38, some 39, some 40, some 41, some 42, some 43, some 44, some 45, some 46]) rfl ?_
      simp only [sx, ty, q1, q2, q5, q6, q7, q8, q9, qa, qb, reduceIte, sy, q3, q4]
      with_reducible refine WO.nil ?_
      refine ⟨rfl, ?_, ⟨_, rfl⟩, by simp [Own.bnd, bndL, bnd, boxO], by simp⟩
      try rw [hg41]
      try simp [getE, bnd, keepE, huse]
      try (simp at hg41; simp [getE, bnd, keepE, hg41] at huse ⊢)
      try simp_all [getE, bnd, keepE]
    · skip
      refine WO.go 2 (ds := [some 37, some 38, some 39, some 40, some 41, some 42, some 43, some 44, some 45, some 46]) rfl ?_
      simp only [sx, ty, q1, q2, q5, q6, q7, q8, q9, qa, qb, reduceIte, sy, q3, q4]
      refine WO.call (.bool (valid ds cs)) (ds := [some 37, some 38, some 39, some 40, some 41, some 42, some 43, some 44, some 45, some 46]) rfl rfl rfl rfl co7 (fun ρ w1 hb => rvalid_spec (Rp.now hl (hb.first (by simp))) (Rp.now hl2 (hb.first (by simp)))) ?_
      refine WO.go 2 (ds := [some 37, some 38, some 39, some 40, some 41, some 42, some 43, some 44, some 45, some 46]) rfl ?_
      simp only [sx, ty, q1, q2, q5, q6, q7, q8, q9, qa, qb, reduceIte, sy, q3, q4]
      with_reducible refine WO.nil ?_
      refine ⟨rfl, ?_, ⟨_, rfl⟩, by simp [Own.bnd, bndL, bnd, boxO], by simp⟩
      try rw [hg41]
      try simp [getE, bnd, keepE, huse]
      try (simp at hg41; simp [getE, bnd, keepE, hg41] at huse ⊢)
      try simp_all [getE, bnd, keepE]
  · simp only [sx, ty, q1, q2, q5, q6, q7, q8, q9, qa, qb, reduceIte, sxk, sy, q3, q4]
    refine W.cond rfl rfl (fun hc => ?_) (fun hc => ?_)
    · skip
      simp at hc
    · skip
      refine W.skip (hK3 _ ?_)
      refine W.pure (ds := []) rfl fun K5 hK5 => ?_
      simp only [sx, ty, q1, q2, q5, q6, q7, q8, q9, qa, qb, reduceIte, sy, q3, q4, hhe]; with_reducible refine hK5 _ ?_; clear hK5
      refine W.seqK fun K6 hK6 => W.region ?_
      refine WO.go 3 (ds := []) rfl ?_
      simp only [sx, ty, q1, q2, q5, q6, q7, q8, q9, qa, qb, reduceIte, sy, q3, q4, hhe]
      refine WO.callM (fun x : List Int × Option Addr × Nat => .tuple #[.slice none 0 0, .slice x.2.1 x.1.length x.2.2, .bool false, .int .i64 0]) (fun lo x s8 => w.heap.size ≤ lo ∧ RefP ds cs x.1 ∧ rInts.rd (fun b => lo ≤ b) s8 [.slice x.2.1 x.1.length x.2.2] x.1) (ds := []) rfl rfl rfl rfl co8 (fun ρ w1 hb => Gives.mono (plan_no (Rp.now hl (hb.first (by simp [St.put]))) (Rp.now hl2 (hb.first (by simp [St.put]))) hv hhr (by omega) (by omega) hno) fun r w9 _ ⟨x, h1, h2, h3⟩ => ⟨x, h1, (hb.at (S := fun _ => True) (s := w) (by simp [St.put])).size, h2, h3⟩) fun x lo1 s1 hx => ?_
      obtain ⟨ids, pi, ci⟩ := x
      obtain ⟨hlo1, hRef, hir⟩ := hx
      simp only at hRef hir
      obtain ⟨hsort, hidl, hin⟩ := ref_in hxm hRef
      refine WO.go 9 (ds := []) rfl ?_
      simp only [sx, ty, q1, q2, q5, q6, q7, q8, q9, qa, qb, reduceIte, sy, q3, q4, hhe]
      with_reducible refine WO.nil ?_
      refine hK6 _ ?_; clear hK6
      refine W.seqK fun K7 hK7 => ?_
      refine W.pure (ds := []) rfl fun K8 hK8 => ?_
      simp only [sx, ty, q1, q2, q5, q6, q7, q8, q9, qa, qb, reduceIte, sy, q3, q4, hhe]; with_reducible refine hK8 _ ?_; clear hK8
      refine W.cond rfl rfl (fun hc => ?_) (fun hc => ?_)
      · skip
        simp at hc
      · skip
        refine W.skip (hK7 _ ?_)
        refine W.seqK fun K9 hK9 => ?_
        refine W.pure (ds := []) rfl fun K10 hK10 => ?_
        simp only [sx, ty, q1, q2, q5, q6, q7, q8, q9, qa, qb, reduceIte, sy, q3, q4, hhe]; with_reducible refine hK10 _ ?_; clear hK10
        refine W.cond rfl rfl (fun hc => ?_) (fun hc => ?_)
        · skip
          simp at hc
        · skip
          refine W.skip (hK9 _ ?_)
          refine W.seqK fun K11 hK11 => W.region ?_
          refine WO.go 2 (ds := []) rfl ?_
          simp only [sx, ty, q1, q2, q5, q6, q7, q8, q9, qa, qb, reduceIte, sy, q3, q4, hhe]
          refine WO.callM (fun x : List DE × Option Addr × Nat => .tuple #[.slice x.2.1 ids.length x.2.2, .bool true]) (fun lo x s8 => w.heap.size ≤ lo ∧ (x.1.map (·.1.1) = ids ∧ ∀ y, y ∈ x.1 → y ∈ xs) ∧ rDEs.rd (fun b => lo ≤ b) s8 [.slice x.2.1 ids.length x.2.2] x.1) (ds := []) rfl rfl rfl rfl co10 (fun ρ w1 hb => Gives.mono (some_spec (Rp.now hxr (hb.first (by simp [St.put]))) hxl (Rp.keep hir (hb.at (S := fun b => lo1 ≤ b) (s := s1) (by simp [St.put]))) hxn hsort hin (by omega) (by omega)) fun r w9 _ ⟨x, h1, h2, h3, h4⟩ => ⟨x, h1, (hb.at (S := fun _ => True) (s := w) (by simp [St.put])).size, ⟨h2, h3⟩, h4⟩) fun x lo2 s2 hx => ?_
          obtain ⟨nm, pn, cn⟩ := x
          obtain ⟨hlo2, ⟨hnm, hnx⟩, hnr⟩ := hx
          simp only at hnm hnx hnr
          have hN := named_of hv hxm h7 hRef hnm hnx
          have hnl : ids.length = nm.length := by rw [← hnm]; simp
          rw [hnl] at hnr hir
          have hnne : ¬ nm = [] := fun h0 => by rw [h0] at hnm; rw [← hnm] at hnl; have := hN.pos; rw [h0] at this; simp at this
          have hn7 := hN.len
          have hnp := hN.pos
          simp only [hnl]
          refine WO.go 5 (ds := []) rfl ?_
          simp only [sx, ty, q1, q2, q5, q6, q7, q8, q9, qa, qb, reduceIte, sy, q3, q4, hhe]
          with_reducible refine WO.nil ?_
          refine hK11 _ ?_; clear hK11
          refine W.seqK fun K12 hK12 => ?_
          refine W.join 102 (.val (.bool false)) [1, 3, 9, 10, 12, 18] (W.region ?_) ?_
          · skip
            refine WO.go 7 (ds := [some 96, some 97, some 98, some 99, some 100, some 101, some 102]) rfl ?_
            simp only [sx, ty, q1, q2, q5, q6, q7, q8, q9, qa, qb, reduceIte, sy, q3, q4, hhe]
            with_reducible refine WO.nil ?_
            refine ⟨rfl, ?_, ⟨_, rfl⟩, by simp [Own.bnd, bndL, bnd, boxO], by simp⟩
            try simp [getE, bnd, keepE, hnne]
            try omega
          · simp only [sx, ty, q1, q2, q5, q6, q7, q8, q9, qa, qb, reduceIte, sxk, sy, q3, q4, hhe]
            refine W.cond rfl rfl (fun hc => ?_) (fun hc => ?_)
            · skip
              simp at hc
            · skip
              refine W.skip (hK12 _ ?_)
              refine W.seqK fun K14 hK14 => W.region ?_
              refine WO.go 5 (ds := []) rfl ?_
              simp only [sx, ty, q1, q2, q5, q6, q7, q8, q9, qa, qb, reduceIte, sy, q3, q4, hhe, hoe]
              refine WO.callM (fun x : Option Addr × Nat => .tuple #[.slice none 0 0, .slice x.1 nm.length x.2, .bool false, .int .i64 0]) (fun lo x s8 => w.heap.size ≤ lo ∧ rInts.rd (fun b => lo ≤ b) s8 [.slice x.1 nm.length x.2] ids) (ds := []) rfl rfl rfl rfl co8 (fun ρ w1 hb => ?_) fun x lo3 s3 hx => ?_
              · have h9 := plan_no (p0 := pn) (c0 := cn) (ds := (nm.map (fun z : DE => z.1))) (hall := h2) (by rw [List.length_map]; exact close_des (Rp.keep hnr (hb.at (S := fun b => lo2 ≤ b) (s := s2) (by simp [St.put]))) (fun z hz => (hxe z (hnx z hz)).now (hb.first (w0 := w) (by simp [St.put])))) (Rp.now hl2 (hb.first (by simp [St.put]))) hN.val hhr2 (by omega) (by rw [List.length_map]; omega) hN.least.no
                simp only [List.length_map] at h9
                exact h9.mono fun r w9 _ ⟨⟨ids', px, cx⟩, g1, g2, g3⟩ => by
                  have hi := hN.again hsort g2
                  simp only at hi g1 g3
                  subst hi
                  rw [hnl] at g1 g3
                  exact ⟨(px, cx), g1, (hb.at (S := fun _ => True) (s := w) (by simp [St.put])).size, g3⟩
              obtain ⟨pa, ca⟩ := x
              obtain ⟨hlo3, har⟩ := hx
              simp only at har
              refine WO.go 9 (ds := []) rfl ?_
              simp only [sx, ty, q1, q2, q5, q6, q7, q8, q9, qa, qb, reduceIte, sy, q3, q4, hhe, hoe]
              with_reducible refine WO.nil ?_
              refine hK14 _ ?_; clear hK14
              refine W.seqK fun K15 hK15 => W.region ?_
              refine WO.go 3 (ds := []) rfl ?_
              simp only [sx, ty, q1, q2, q5, q6, q7, q8, q9, qa, qb, reduceIte, sy, q3, q4, hhe, hoe]
              refine WO.callX (fun x : Option Addr × Nat => .tuple #[.slice x.1 nm.length x.2, .bool true, .int .i64 0]) (fun _ => True) (ds := []) rfl rfl rfl rfl co9 (fun ρ w1 hb => ?_) fun x _ => ?_
              · have h9 := wshort_spec (p0 := pn) (c0 := cn) (ds := (nm.map (fun z : DE => z.1))) (hall := h) (by rw [List.length_map]; exact close_des (Rp.keep hnr (hb.at (S := fun b => lo2 ≤ b) (s := s2) (by simp [St.put]))) (fun z hz => (hxe z (hnx z hz)).now (hb.first (w0 := w) (by simp [St.put])))) (Rp.now hl2 (hb.first (by simp [St.put]))) hN.val hhr (by omega)
                rw [short_all (valid_mem hN.val).2.2.1 hN.least] at h9
                simp only [List.length_map] at h9
                exact h9.mono fun r w9 _ ⟨x, g1⟩ => ⟨x, g1, trivial⟩
              refine WO.go 7 (ds := []) rfl ?_
              simp only [sx, ty, q1, q2, q5, q6, q7, q8, q9, qa, qb, reduceIte, sy, q3, q4, hhe, hoe]
              with_reducible refine WO.nil ?_
              refine hK15 _ ?_; clear hK15
              refine W.seqK fun K16 hK16 => ?_
              refine W.join 149 (.val (.bool false)) [1, 9, 10, 18] (W.region ?_) ?_
              · skip
                refine WO.go 25 (ds := [some 122, some 123, some 124, some 125, some 126, some 127, some 128, some 129, some 130, some 131, some 132, some 133, some 134, some 135, some 136, some 137, some 138, some 139, some 140, some 141, some 142, some 143, some 144, some 145, some 146, some 147, some 148, some 149]) rfl ?_
                simp only [sx, ty, q1, q2, q5, q6, q7, q8, q9, qa, qb, reduceIte, sy, q3, q4, hhe, hoe]
                refine WO.call (.bool true) (ds := [some 122, some 123, some 124, some 125, some 126, some 127, some 128, some 129, some 130, some 131, some 132, some 133, some 134, some 135, some 136, some 137, some 138, some 139, some 140, some 141, some 142, some 143, some 144, some 145, some 146, some 147, some 148, some 149]) rfl rfl rfl rfl co11 (fun ρ w1 hb => by
                                                            have q1 := own_listS (S := fun _ => True) (A := rInts) (k := 0) (n := 1) (c := 1) (xs := [ids]) hb rfl rfl (Nat.le_refl _) (by omega) trivial (Rp.one (Rp.any (Rp.keep har (hb.at (S := fun b => lo3 ≤ b) (s := s3) (by simp [St.put])))))
                                                            have q2 := own_listS (S := fun _ => True) (A := rInts) (k := 1) (n := 1) (c := 1) (xs := [ids]) hb rfl rfl (Nat.le_refl _) (by omega) trivial (Rp.one (Rp.any (Rp.keep hir (hb.at (S := fun b => lo1 ≤ b) (s := s1) (by simp [St.put])))))
                                                            have h9 := same_spec q1 q2
                                                            simp only [decide_true] at h9
                                                            exact h9) ?_
                refine WO.go 2 (ds := [some 122, some 123, some 124, some 125, some 126, some 127, some 128, some 129, some 130, some 131, some 132, some 133, some 134, some 135, some 136, some 137, some 138, some 139, some 140, some 141, some 142, some 143, some 144, some 145, some 146, some 147, some 148, some 149]) rfl ?_
                simp only [sx, ty, q1, q2, q5, q6, q7, q8, q9, qa, qb, reduceIte, sy, q3, q4, hhe, hoe]
                with_reducible refine WO.nil ?_
                refine ⟨rfl, ?_, ⟨_, rfl⟩, by simp [Own.bnd, bndL, bnd, boxO], by simp⟩
                simp [getE, bnd, keepE]
              · simp only [sx, ty, q1, q2, q5, q6, q7, q8, q9, qa, qb, reduceIte, sxk, sy, q3, q4, hhe, hoe]
                refine W.cond rfl rfl (fun hc => ?_) (fun hc => ?_)
                · skip
                  simp at hc
                · skip
                  refine W.skip (hK16 _ ?_)
                  refine W.seqK fun K18 hK18 => ?_
                  refine W.pure (ds := []) rfl fun K19 hK19 => ?_
                  simp only [sx, ty, q1, q2, q5, q6, q7, q8, q9, qa, qb, reduceIte, sy, q3, q4, hhe, hoe]; with_reducible refine hK19 _ ?_; clear hK19
                  refine W.block ?_
                  refine W.loopO (X := Nat) [1, 9, 10, 18, 151] (fun x => [(152, .val (.int .i64 (x : Int)))]) (fun x => []) (fun x => [((fun b => lo2 ≤ b), s2), ((fun _ => True), w)]) (fun x => x ≤ nm.length) (fun x => nm.length - x) 0 ?_ ?_ ?_
                  · exact ⟨rfl, by simp [getE, bnd, keepE], ⟨_, by simp; rfl⟩, by simp [Own.bnd, bndL, bnd, boxO], by simp⟩
                  · skip
                    exact Nat.zero_le _
                  · rintro i hic
                    simp only [sx, ty, q1, q2, q5, q6, q7, q8, q9, qa, qb, reduceIte, sxk, sy, q3, q4, hhe, hoe]
                    refine W.pure (ds := []) rfl fun K20 hK20 => ?_
                    simp only [sx, ty, q1, q2, q5, q6, q7, q8, q9, qa, qb, reduceIte, sy, q3, q4, hhe, hoe]; with_reducible refine hK20 _ ?_; clear hK20
                    refine W.seqK fun K21 hK21 => ?_
                    refine W.cond rfl rfl (fun hc => ?_) (fun hc => ?_)
                    · skip
                      have hlt : i < nm.length := by simpa using hc
                      refine W.skip (hK21 _ ?_)
                      refine W.seqK fun K22 hK22 => ?_
                      refine W.block ?_
                      refine W.pure (ds := []) rfl fun K23 hK23 => ?_
                      simp only [sx, ty, q1, q2, q5, q6, q7, q8, q9, qa, qb, reduceIte, sy, q3, q4, hhe, hoe]; with_reducible refine hK23 _ ?_; clear hK23
                      refine W.seqFreeze 28 [(1, .val (.slice p2 cs.length c2)), (9, .val (.bool true)), (10, .val (.int .i64 h)), (18, .val (.slice pn nm.length cn)), (151, .val (.int .i64 (nm.length : Int))), (152, .val (.int .i64 (i : Int)))] [((fun b => lo2 ≤ b), s2), ((fun _ => True), w)] (fun S s v => ∃ q c, v = .slice q (nm.length - 1) c ∧ rDEs.rd S s [v] (nm.take i ++ nm.drop (i + 1))) ?_ ?_
                      · skip
                        have hrl := (rest_facts hN hlt).2.1
                        have hwi : IntKind.i64.wrap ((i : Int) + 1) = ((i + 1 : Nat) : Int) := by rw [wrap_id (by omega) (by omega)]; omega
                        have hcap := (Rp.slice_val hnr)
                        obtain ⟨_, _, hq1, hq2, hq3⟩ := hcap
                        obtain ⟨rfl, _, rfl⟩ := (Value.slice.injEq _ _ _ _ _ _).mp hq1
                        by_cases hi0 : i = 0 <;> by_cases hil : i + 1 = nm.length
                        · skip
                          obtain ⟨a1, c1, hv1⟩ : ∃ a c', slcV 4 pn cn 0 i = .slice a 0 c' := by rw [hi0]; exact slc_none
                          obtain ⟨a2, c2', hv2⟩ : ∃ a c', slcV 4 pn cn (i + 1) nm.length = .slice a 0 c' := by rw [hil]; exact slc_none
                          refine W.regionF [1, 2, 3, 5, 6, 7, 8] [0, 4, 9, 10] ([]) mixed (by kernel_rfl) rfl (by simp [keptL, boxO]) rfl (fun _ _ h => h) ?_
                          simp only [sx, ty, q1, q2, q5, q6, q7, q8, q9, qa, qb, reduceIte, sxt, List.toList_toArray, RunP, sy, q3, q4, hhe, hoe, hwi]
                          refine WF.go rfl rfl rfl ?_
                          simp only [sx, ty, q1, q2, q5, q6, q7, q8, q9, qa, qb, reduceIte, sxt, List.toList_toArray, RunP, sy, q3, q4, hhe, hoe, hwi]
                          refine WF.go rfl rfl rfl ?_
                          simp only [sx, ty, q1, q2, q5, q6, q7, q8, q9, qa, qb, reduceIte, sxt, List.toList_toArray, RunP, sy, q3, q4, hhe, hoe, hwi]
                          refine WF.q rfl rfl (QR.slc rfl rfl el22 rfl rfl (by simp [loS]) (by simp [loS, hiS]) (by simp [hiS] <;> omega)) ?_
                          rw [show (loS none).toNat = 0 from rfl, show (hiS nm.length (some (IntKind.i64, (i : Int)))).toNat = i from by simp [hiS], hv1]
                          simp only [sx, ty, q1, q2, q5, q6, q7, q8, q9, qa, qb, reduceIte, sxt, List.toList_toArray, RunP, sy, q3, q4, hhe, hoe, hwi]
                          refine WF.go rfl rfl rfl ?_
                          simp only [sx, ty, q1, q2, q5, q6, q7, q8, q9, qa, qb, reduceIte, sxt, List.toList_toArray, RunP, sy, q3, q4, hhe, hoe, hwi]
                          refine WF.go rfl rfl rfl ?_
                          simp only [sx, ty, q1, q2, q5, q6, q7, q8, q9, qa, qb, reduceIte, sxt, List.toList_toArray, RunP, sy, q3, q4, hhe, hoe, hwi]
                          refine WF.go rfl rfl rfl ?_
                          simp only [sx, ty, q1, q2, q5, q6, q7, q8, q9, qa, qb, reduceIte, sxt, List.toList_toArray, RunP, sy, q3, q4, hhe, hoe, hwi]
                          refine WF.q rfl rfl (QR.slc rfl rfl el22 rfl rfl (by simp [loS] <;> omega) (by simp [loS, hiS] <;> omega) (by simp [hiS] <;> omega)) ?_
                          rw [show (loS (some (IntKind.i64, ((i + 1 : Nat) : Int)))).toNat = i + 1 from by simp [loS] <;> omega, show (hiS nm.length none).toNat = nm.length from by simp [hiS], hv2]
                          simp only [sx, ty, q1, q2, q5, q6, q7, q8, q9, qa, qb, reduceIte, sxt, List.toList_toArray, RunP, sy, q3, q4, hhe, hoe, hwi]
                          refine WF.nil ?_
                          simp only [sx, ty, q1, q2, q5, q6, q7, q8, q9, qa, qb, reduceIte, sxt, List.toList_toArray, RunP, sy, q3, q4, hhe, hoe, hwi]
                          refine WC.one ?_
                          refine WO.go 1 (ds := []) rfl ?_
                          simp only [sx, ty, q1, q2, q5, q6, q7, q8, q9, qa, qb, reduceIte, List.append_assoc, List.cons_append, List.nil_append, sy, q3, q4, hhe, hoe, hwi]
                          with_reducible refine WC.next (by simp [keptL, boxO]) (by simp) ?_
                          refine WC.one ?_
                          refine WO.q (ds := []) rfl rfl rfl (QR.appendZ rfl rfl (fun ρ w1 hb => ⟨_, _, _, rfl, Nat.le_refl _⟩) (fun ρ ρ' h => den_agree h _ rfl) rfl ek22) ?_
                          simp only [sx, ty, q1, q2, q5, q6, q7, q8, q9, qa, qb, reduceIte, List.append_assoc, List.cons_append, List.nil_append, sy, q3, q4, hhe, hoe, hwi]
                          with_reducible refine WC.next (by simp [keptL, boxO]) (by simp) ?_
                          refine WC.one ?_
                          refine WO.q (ds := []) rfl rfl rfl (QR.appendZ rfl rfl (fun ρ w1 hb => ⟨_, _, _, rfl, Nat.le_refl _⟩) (fun ρ ρ' h => den_agree h _ rfl) rfl ek22) ?_
                          simp only [sx, ty, q1, q2, q5, q6, q7, q8, q9, qa, qb, reduceIte, List.append_assoc, List.cons_append, List.nil_append, sy, q3, q4, hhe, hoe, hwi]
                          with_reducible refine WC.next (by simp [keptL, boxO]) (by simp) ?_
                          refine WC.one ?_
                          refine WO.go 1 (ds := []) rfl ?_
                          simp only [sx, ty, q1, q2, q5, q6, q7, q8, q9, qa, qb, reduceIte, List.append_assoc, List.cons_append, List.nil_append, sy, q3, q4, hhe, hoe, hwi]
                          with_reducible refine WC.next (by simp [keptL, boxO]) (by simp) ?_
                          with_reducible refine WC.nil ?_
                          have hz : nm.take i ++ nm.drop (i + 1) = [] := List.length_eq_zero_iff.1 (by omega)
                          rw [hz]
                          refine ⟨rfl, by simp [getE, bnd], by simp, _, rfl, fun ρ w1 hb => ⟨fun _ => True, some ⟨ρ 0, 0, none⟩, 0, by simp only [den]; congr 1; omega, ?_⟩⟩
                          exact Rp.slice_nil (by omega)
                        · skip
                          obtain ⟨a1, c1, hv1⟩ : ∃ a c', slcV 4 pn cn 0 i = .slice a 0 c' := by rw [hi0]; exact slc_none
                          obtain ⟨a2, c2', hv2⟩ : ∃ a c', slcV 4 pn cn (i + 1) nm.length = .slice a (nm.length - (i + 1)) c' := ⟨_, _, rfl⟩
                          refine W.regionF [1, 2, 3, 5, 6, 7, 8] [0, 4, 9, 10] ([]) mixed (by kernel_rfl) rfl (by simp [keptL, boxO]) rfl (fun _ _ h => h) ?_
                          simp only [sx, ty, q1, q2, q5, q6, q7, q8, q9, qa, qb, reduceIte, sxt, List.toList_toArray, RunP, sy, q3, q4, hhe, hoe, hwi]
                          refine WF.go rfl rfl rfl ?_
                          simp only [sx, ty, q1, q2, q5, q6, q7, q8, q9, qa, qb, reduceIte, sxt, List.toList_toArray, RunP, sy, q3, q4, hhe, hoe, hwi]
                          refine WF.go rfl rfl rfl ?_
                          simp only [sx, ty, q1, q2, q5, q6, q7, q8, q9, qa, qb, reduceIte, sxt, List.toList_toArray, RunP, sy, q3, q4, hhe, hoe, hwi]
                          refine WF.q rfl rfl (QR.slc rfl rfl el22 rfl rfl (by simp [loS]) (by simp [loS, hiS]) (by simp [hiS] <;> omega)) ?_
                          rw [show (loS none).toNat = 0 from rfl, show (hiS nm.length (some (IntKind.i64, (i : Int)))).toNat = i from by simp [hiS], hv1]
                          simp only [sx, ty, q1, q2, q5, q6, q7, q8, q9, qa, qb, reduceIte, sxt, List.toList_toArray, RunP, sy, q3, q4, hhe, hoe, hwi]
                          refine WF.go rfl rfl rfl ?_
                          simp only [sx, ty, q1, q2, q5, q6, q7, q8, q9, qa, qb, reduceIte, sxt, List.toList_toArray, RunP, sy, q3, q4, hhe, hoe, hwi]
                          refine WF.go rfl rfl rfl ?_
                          simp only [sx, ty, q1, q2, q5, q6, q7, q8, q9, qa, qb, reduceIte, sxt, List.toList_toArray, RunP, sy, q3, q4, hhe, hoe, hwi]
                          refine WF.go rfl rfl rfl ?_
                          simp only [sx, ty, q1, q2, q5, q6, q7, q8, q9, qa, qb, reduceIte, sxt, List.toList_toArray, RunP, sy, q3, q4, hhe, hoe, hwi]
                          refine WF.q rfl rfl (QR.slc rfl rfl el22 rfl rfl (by simp [loS] <;> omega) (by simp [loS, hiS] <;> omega) (by simp [hiS] <;> omega)) ?_
                          rw [show (loS (some (IntKind.i64, ((i + 1 : Nat) : Int)))).toNat = i + 1 from by simp [loS] <;> omega, show (hiS nm.length none).toNat = nm.length from by simp [hiS], hv2]
                          simp only [sx, ty, q1, q2, q5, q6, q7, q8, q9, qa, qb, reduceIte, sxt, List.toList_toArray, RunP, sy, q3, q4, hhe, hoe, hwi]
                          refine WF.nil ?_
                          simp only [sx, ty, q1, q2, q5, q6, q7, q8, q9, qa, qb, reduceIte, sxt, List.toList_toArray, RunP, sy, q3, q4, hhe, hoe, hwi]
                          refine WC.one ?_
                          refine WO.go 1 (ds := []) rfl ?_
                          simp only [sx, ty, q1, q2, q5, q6, q7, q8, q9, qa, qb, reduceIte, List.append_assoc, List.cons_append, List.nil_append, sy, q3, q4, hhe, hoe, hwi]
                          with_reducible refine WC.next (by simp [keptL, boxO]) (by simp) ?_
                          refine WC.one ?_
                          refine WO.q (ds := []) rfl rfl rfl (QR.appendZ rfl rfl (fun ρ w1 hb => ⟨_, _, _, rfl, Nat.le_refl _⟩) (fun ρ ρ' h => den_agree h _ rfl) rfl ek22) ?_
                          simp only [sx, ty, q1, q2, q5, q6, q7, q8, q9, qa, qb, reduceIte, List.append_assoc, List.cons_append, List.nil_append, sy, q3, q4, hhe, hoe, hwi]
                          with_reducible refine WC.next (by simp [keptL, boxO]) (by simp) ?_
                          refine WC.one ?_
                          refine WO.appendFull (n := 0) (m := (nm.length - (i + 1))) [] (desV (nm.drop (i + 1))) (ds := []) rfl rfl rfl rfl ⟨_, rfl, fun ρ w1 hb => ⟨_, rfl, fun j v h => by simp at h⟩⟩ rfl ek22 (by simp) (by omega) (fun ρ w1 hb => by
                              obtain ⟨a9, g1, g2⟩ := (slc_news (l := i + 1) (h := nm.length) (Rp.keep hnr (hb.at (S := fun b => lo2 ≤ b) (s := s2) (by simp [St.put]))) (by omega) (by omega))
                              rw [hv2] at g1
                              rw [List.take_of_length_le (by simp)] at g2
                              exact ⟨a9, _, g1, g2⟩) (by rw [desV_len]; simp <;> omega) (by rw [maxLen_eq]; omega) (by omega) fun p6 c6 => ?_
                          rw [Nat.zero_add, List.nil_append]
                          simp only [sx, ty, q1, q2, q5, q6, q7, q8, q9, qa, qb, reduceIte, List.append_assoc, List.cons_append, List.nil_append, sy, q3, q4, hhe, hoe, hwi]
                          with_reducible refine WC.next (by simp [keptL, boxO]) (by simp) ?_
                          refine WC.one ?_
                          refine WO.go 1 (ds := []) rfl ?_
                          simp only [sx, ty, q1, q2, q5, q6, q7, q8, q9, qa, qb, reduceIte, List.append_assoc, List.cons_append, List.nil_append, sy, q3, q4, hhe, hoe, hwi]
                          with_reducible refine WC.next (by simp [keptL, boxO]) (by simp) ?_
                          with_reducible refine WC.nil ?_
                          refine ⟨rfl, by simp [getE, bnd], by simp, _, rfl, fun ρ w1 hb => ⟨fun _ => True, _, _, by simp only [den]; rw [show nm.length - (i + 1) = nm.length - 1 by omega], ?_⟩⟩
                          have h9 := part_read (S := fun _ => True) (m := nm.length - (i + 1)) hb (k := 1) rfl (fs := (nm.take i ++ nm.drop (i + 1))) (by rw [List.take_of_length_le (by rw [desV_len]; simp <;> omega)] <;> first | done | (congr 1; rw [hi0]; simp)) (by omega) (Nat.le_refl _) (fun _ _ => trivial)
                          exact h9
                        · skip
                          obtain ⟨a1, c1, hv1⟩ : ∃ a c', slcV 4 pn cn 0 i = .slice a i c' := ⟨_, _, rfl⟩
                          obtain ⟨a2, c2', hv2⟩ : ∃ a c', slcV 4 pn cn (i + 1) nm.length = .slice a 0 c' := by rw [hil]; exact slc_none
                          refine W.regionF [1, 2, 3, 5, 6, 7, 8] [0, 4, 9, 10] ([]) mixed (by kernel_rfl) rfl (by simp [keptL, boxO]) rfl (fun _ _ h => h) ?_
                          simp only [sx, ty, q1, q2, q5, q6, q7, q8, q9, qa, qb, reduceIte, sxt, List.toList_toArray, RunP, sy, q3, q4, hhe, hoe, hwi]
                          refine WF.go rfl rfl rfl ?_
                          simp only [sx, ty, q1, q2, q5, q6, q7, q8, q9, qa, qb, reduceIte, sxt, List.toList_toArray, RunP, sy, q3, q4, hhe, hoe, hwi]
                          refine WF.go rfl rfl rfl ?_
                          simp only [sx, ty, q1, q2, q5, q6, q7, q8, q9, qa, qb, reduceIte, sxt, List.toList_toArray, RunP, sy, q3, q4, hhe, hoe, hwi]
                          refine WF.q rfl rfl (QR.slc rfl rfl el22 rfl rfl (by simp [loS]) (by simp [loS, hiS]) (by simp [hiS] <;> omega)) ?_
                          rw [show (loS none).toNat = 0 from rfl, show (hiS nm.length (some (IntKind.i64, (i : Int)))).toNat = i from by simp [hiS], hv1]
                          simp only [sx, ty, q1, q2, q5, q6, q7, q8, q9, qa, qb, reduceIte, sxt, List.toList_toArray, RunP, sy, q3, q4, hhe, hoe, hwi]
                          refine WF.go rfl rfl rfl ?_
                          simp only [sx, ty, q1, q2, q5, q6, q7, q8, q9, qa, qb, reduceIte, sxt, List.toList_toArray, RunP, sy, q3, q4, hhe, hoe, hwi]
                          refine WF.go rfl rfl rfl ?_
                          simp only [sx, ty, q1, q2, q5, q6, q7, q8, q9, qa, qb, reduceIte, sxt, List.toList_toArray, RunP, sy, q3, q4, hhe, hoe, hwi]
                          refine WF.go rfl rfl rfl ?_
                          simp only [sx, ty, q1, q2, q5, q6, q7, q8, q9, qa, qb, reduceIte, sxt, List.toList_toArray, RunP, sy, q3, q4, hhe, hoe, hwi]
                          refine WF.q rfl rfl (QR.slc rfl rfl el22 rfl rfl (by simp [loS] <;> omega) (by simp [loS, hiS] <;> omega) (by simp [hiS] <;> omega)) ?_
                          rw [show (loS (some (IntKind.i64, ((i + 1 : Nat) : Int)))).toNat = i + 1 from by simp [loS] <;> omega, show (hiS nm.length none).toNat = nm.length from by simp [hiS], hv2]
                          simp only [sx, ty, q1, q2, q5, q6, q7, q8, q9, qa, qb, reduceIte, sxt, List.toList_toArray, RunP, sy, q3, q4, hhe, hoe, hwi]
                          refine WF.nil ?_
                          simp only [sx, ty, q1, q2, q5, q6, q7, q8, q9, qa, qb, reduceIte, sxt, List.toList_toArray, RunP, sy, q3, q4, hhe, hoe, hwi]
                          refine WC.one ?_
                          refine WO.go 1 (ds := []) rfl ?_
                          simp only [sx, ty, q1, q2, q5, q6, q7, q8, q9, qa, qb, reduceIte, List.append_assoc, List.cons_append, List.nil_append, sy, q3, q4, hhe, hoe, hwi]
                          with_reducible refine WC.next (by simp [keptL, boxO]) (by simp) ?_
                          refine WC.one ?_
                          refine WO.appendFull (n := 0) (m := i) [] (desV (nm.take i)) (ds := []) rfl rfl rfl rfl ⟨_, rfl, fun ρ w1 hb => ⟨_, rfl, fun j v h => by simp at h⟩⟩ rfl ek22 (by simp) (by omega) (fun ρ w1 hb => by
                              obtain ⟨a9, g1, g2⟩ := (slc_news (l := 0) (h := i) (Rp.keep hnr (hb.at (S := fun b => lo2 ≤ b) (s := s2) (by simp [St.put]))) (by omega) (by omega))
                              rw [hv1] at g1
                              exact ⟨a9, _, g1, g2⟩) (by rw [desV_len]; simp <;> omega) (by rw [maxLen_eq]; omega) (by omega) fun p6 c6 => ?_
                          rw [Nat.zero_add, List.nil_append]
                          simp only [sx, ty, q1, q2, q5, q6, q7, q8, q9, qa, qb, reduceIte, List.append_assoc, List.cons_append, List.nil_append, sy, q3, q4, hhe, hoe, hwi]
                          with_reducible refine WC.next (by simp [keptL, boxO]) (by simp) ?_
                          refine WC.one ?_
                          refine WO.q (ds := []) rfl rfl rfl (QR.appendZ rfl rfl (fun ρ w1 hb => ⟨_, _, _, rfl, own_cap (k := 1) hb rfl⟩) (fun ρ ρ' h => den_agree h _ rfl) rfl ek22) ?_
                          simp only [sx, ty, q1, q2, q5, q6, q7, q8, q9, qa, qb, reduceIte, List.append_assoc, List.cons_append, List.nil_append, sy, q3, q4, hhe, hoe, hwi]
                          with_reducible refine WC.next (by simp [keptL, boxO]) (by simp) ?_
                          refine WC.one ?_
                          refine WO.go 1 (ds := []) rfl ?_
                          simp only [sx, ty, q1, q2, q5, q6, q7, q8, q9, qa, qb, reduceIte, List.append_assoc, List.cons_append, List.nil_append, sy, q3, q4, hhe, hoe, hwi]
                          with_reducible refine WC.next (by simp [keptL, boxO]) (by simp) ?_
                          with_reducible refine WC.nil ?_
                          refine ⟨rfl, by simp [getE, bnd], by simp, _, rfl, fun ρ w1 hb => ⟨fun _ => True, _, _, by simp only [den]; rw [show i = nm.length - 1 by omega], ?_⟩⟩
                          have h9 := part_read (S := fun _ => True) (m := i) hb (k := 1) rfl (fs := (nm.take i ++ nm.drop (i + 1))) (by rw [List.take_of_length_le (by rw [desV_len]; simp <;> omega)] <;> first | done | (congr 1; rw [hil]; simp)) (by omega) (Nat.le_refl _) (fun _ _ => trivial)
                          exact h9
                        · skip
                          obtain ⟨a1, c1, hv1⟩ : ∃ a c', slcV 4 pn cn 0 i = .slice a i c' := ⟨_, _, rfl⟩
                          obtain ⟨a2, c2', hv2⟩ : ∃ a c', slcV 4 pn cn (i + 1) nm.length = .slice a (nm.length - (i + 1)) c' := ⟨_, _, rfl⟩
                          refine W.regionF [1, 2, 3, 5, 6, 7, 8] [0, 4, 9, 10] ([]) mixed (by kernel_rfl) rfl (by simp [keptL, boxO]) rfl (fun _ _ h => h) ?_
                          simp only [sx, ty, q1, q2, q5, q6, q7, q8, q9, qa, qb, reduceIte, sxt, List.toList_toArray, RunP, sy, q3, q4, hhe, hoe, hwi]
                          refine WF.go rfl rfl rfl ?_
                          simp only [sx, ty, q1, q2, q5, q6, q7, q8, q9, qa, qb, reduceIte, sxt, List.toList_toArray, RunP, sy, q3, q4, hhe, hoe, hwi]
                          refine WF.go rfl rfl rfl ?_
                          simp only [sx, ty, q1, q2, q5, q6, q7, q8, q9, qa, qb, reduceIte, sxt, List.toList_toArray, RunP, sy, q3, q4, hhe, hoe, hwi]
                          refine WF.q rfl rfl (QR.slc rfl rfl el22 rfl rfl (by simp [loS]) (by simp [loS, hiS]) (by simp [hiS] <;> omega)) ?_
                          rw [show (loS none).toNat = 0 from rfl, show (hiS nm.length (some (IntKind.i64, (i : Int)))).toNat = i from by simp [hiS], hv1]
                          simp only [sx, ty, q1, q2, q5, q6, q7, q8, q9, qa, qb, reduceIte, sxt, List.toList_toArray, RunP, sy, q3, q4, hhe, hoe, hwi]
                          refine WF.go rfl rfl rfl ?_
                          simp only [sx, ty, q1, q2, q5, q6, q7, q8, q9, qa, qb, reduceIte, sxt, List.toList_toArray, RunP, sy, q3, q4, hhe, hoe, hwi]
                          refine WF.go rfl rfl rfl ?_
                          simp only [sx, ty, q1, q2, q5, q6, q7, q8, q9, qa, qb, reduceIte, sxt, List.toList_toArray, RunP, sy, q3, q4, hhe, hoe, hwi]
                          refine WF.go rfl rfl rfl ?_
                          simp only [sx, ty, q1, q2, q5, q6, q7, q8, q9, qa, qb, reduceIte, sxt, List.toList_toArray, RunP, sy, q3, q4, hhe, hoe, hwi]
                          refine WF.q rfl rfl (QR.slc rfl rfl el22 rfl rfl (by simp [loS] <;> omega) (by simp [loS, hiS] <;> omega) (by simp [hiS] <;> omega)) ?_
                          rw [show (loS (some (IntKind.i64, ((i + 1 : Nat) : Int)))).toNat = i + 1 from by simp [loS] <;> omega, show (hiS nm.length none).toNat = nm.length from by simp [hiS], hv2]
                          simp only [sx, ty, q1, q2, q5, q6, q7, q8, q9, qa, qb, reduceIte, sxt, List.toList_toArray, RunP, sy, q3, q4, hhe, hoe, hwi]
                          refine WF.nil ?_
                          simp only [sx, ty, q1, q2, q5, q6, q7, q8, q9, qa, qb, reduceIte, sxt, List.toList_toArray, RunP, sy, q3, q4, hhe, hoe, hwi]
                          refine WC.one ?_
                          refine WO.go 1 (ds := []) rfl ?_
                          simp only [sx, ty, q1, q2, q5, q6, q7, q8, q9, qa, qb, reduceIte, List.append_assoc, List.cons_append, List.nil_append, sy, q3, q4, hhe, hoe, hwi]
                          with_reducible refine WC.next (by simp [keptL, boxO]) (by simp) ?_
                          refine WC.one ?_
                          refine WO.appendFull (n := 0) (m := i) [] (desV (nm.take i)) (ds := []) rfl rfl rfl rfl ⟨_, rfl, fun ρ w1 hb => ⟨_, rfl, fun j v h => by simp at h⟩⟩ rfl ek22 (by simp) (by omega) (fun ρ w1 hb => by
                              obtain ⟨a9, g1, g2⟩ := (slc_news (l := 0) (h := i) (Rp.keep hnr (hb.at (S := fun b => lo2 ≤ b) (s := s2) (by simp [St.put]))) (by omega) (by omega))
                              rw [hv1] at g1
                              exact ⟨a9, _, g1, g2⟩) (by rw [desV_len]; simp <;> omega) (by rw [maxLen_eq]; omega) (by omega) fun p6 c6 => ?_
                          rw [Nat.zero_add, List.nil_append]
                          simp only [sx, ty, q1, q2, q5, q6, q7, q8, q9, qa, qb, reduceIte, List.append_assoc, List.cons_append, List.nil_append, sy, q3, q4, hhe, hoe, hwi]
                          with_reducible refine WC.next (by simp [keptL, boxO]) (by simp) ?_
                          refine WC.one ?_
                          refine WO.append (k := 1) (m := nm.length - (i + 1)) (desV (nm.drop (i + 1))) (ds := []) rfl rfl rfl rfl rfl rfl rfl ek22 (fun ρ w1 hb => by
                              obtain ⟨a9, g1, g2⟩ := (slc_news (l := i + 1) (h := nm.length) (Rp.keep hnr (hb.at (S := fun b => lo2 ≤ b) (s := s2) (by simp [St.put]))) (by omega) (by omega))
                              rw [hv2] at g1
                              rw [List.take_of_length_le (by simp)] at g2
                              exact ⟨a9, _, g1, g2⟩) (by rw [desV_len]; simp <;> omega) (desV_one _) (by rw [maxLen_eq]; omega) (by omega) fun p7 c7 => ?_
                          rw [← desV_app]
                          simp only [sx, ty, q1, q2, q5, q6, q7, q8, q9, qa, qb, reduceIte, List.append_assoc, List.cons_append, List.nil_append, sy, q3, q4, hhe, hoe, hwi]
                          with_reducible refine WC.next (by simp [keptL, boxO]) (by simp) ?_
                          refine WC.one ?_
                          refine WO.go 1 (ds := []) rfl ?_
                          simp only [sx, ty, q1, q2, q5, q6, q7, q8, q9, qa, qb, reduceIte, List.append_assoc, List.cons_append, List.nil_append, sy, q3, q4, hhe, hoe, hwi]
                          with_reducible refine WC.next (by simp [keptL, boxO]) (by simp) ?_
                          with_reducible refine WC.nil ?_
                          refine ⟨rfl, by simp [getE, bnd], by simp, _, rfl, fun ρ w1 hb => ⟨fun _ => True, _, _, by simp only [den]; rw [show (i + (nm.length - (i + 1))) = nm.length - 1 by omega], ?_⟩⟩
                          have h9 := part_read (S := fun _ => True) (m := (i + (nm.length - (i + 1)))) hb (k := 1) rfl (fs := (nm.take i ++ nm.drop (i + 1))) (by rw [List.take_of_length_le (by rw [desV_len]; simp <;> omega)] <;> first | done | (congr 1; rfl)) (by omega) (Nat.le_refl _) (fun _ _ => trivial)
                          exact h9
                      · rintro S9 s9 _ ⟨qr, cr, rfl, hrr⟩
                        obtain ⟨hrm, hrl, hrv, hrM⟩ := rest_facts hN hlt
                        obtain ⟨rs, hrs⟩ : ∃ rs, nm.take i ++ nm.drop (i + 1) = rs := ⟨_, rfl⟩
                        rw [hrs] at hrr hrm hrl hrv hrM
                        simp only [← hrl] at hrr ⊢
                        refine W.seqK fun K25 hK25 => W.region ?_
                        refine WO.go 3 (ds := []) rfl ?_
                        simp only [sx, ty, q1, q2, q5, q6, q7, q8, q9, qa, qb, reduceIte, sy, q3, q4, hhe, hoe]
                        refine WO.callM (fun x : List Nat × Option Addr × Nat => .tuple #[.slice x.2.1 rs.length x.2.2, .slice none 0 0, .bool true, .int .i64 0]) (fun lo x s8 => w.heap.size ≤ lo ∧ BP (rs.map (fun z : DE => z.1)) cs h x.1 ∧ rGivs.rd (fun b => lo ≤ b) s8 [.slice x.2.1 rs.length x.2.2] (planL (rs.map (fun z : DE => z.1)) cs h x.1 rs.length)) (ds := []) rfl rfl rfl rfl co8 (fun ρ w1 hb => ?_) fun x lo4 s4 hx => ?_
                        · have h9 := plan_yes (p0 := qr) (c0 := cr) (ds := (rs.map (fun z : DE => z.1))) (hall := h) (by rw [List.length_map]; exact close_des (Rp.keep hrr (hb.at (S := S9) (s := s9) (by simp [St.put]))) (fun z hz => (hxe z (hnx z (hrm z hz))).now (hb.first (w0 := w) (by simp [St.put])))) (Rp.now hl2 (hb.first (by simp [St.put]))) hrv hhr (by omega) (by rw [List.length_map]; omega) hrM
                          simp only [List.length_map] at h9
                          exact h9.mono fun r w9 _ ⟨x, g1, g2, g3⟩ => ⟨x, g1, (hb.at (S := fun _ => True) (s := w) (by simp [St.put])).size, g2, g3⟩
                        obtain ⟨at9, pg, cg⟩ := x
                        obtain ⟨hlo4, hBP, hgr⟩ := hx
                        simp only at hBP hgr
                        refine WO.go 9 (ds := []) rfl ?_
                        simp only [sx, ty, q1, q2, q5, q6, q7, q8, q9, qa, qb, reduceIte, sy, q3, q4, hhe, hoe]
                        with_reducible refine WO.nil ?_
                        refine hK25 _ ?_; clear hK25
                        refine W.seqK fun K26 hK26 => ?_
                        refine W.join 186 (.val (.bool false)) [1, 9, 10, 18, 28, 29, 151, 152] (W.region ?_) ?_
                        · skip
                          refine WO.go 13 (ds := [some 174, some 175, some 176, some 177, some 178, some 179, some 180, some 181, some 182, some 183, some 184, some 185, some 186]) rfl ?_
                          simp only [sx, ty, q1, q2, q5, q6, q7, q8, q9, qa, qb, reduceIte, sy, q3, q4, hhe, hoe]
                          with_reducible refine WO.nil ?_
                          refine ⟨rfl, ?_, ⟨_, rfl⟩, by simp [Own.bnd, bndL, bnd, boxO], by simp⟩
                          simp [getE, bnd, keepE]
                        · simp only [sx, ty, q1, q2, q5, q6, q7, q8, q9, qa, qb, reduceIte, sxk, sy, q3, q4, hhe, hoe]
                          refine W.cond rfl rfl (fun hc => ?_) (fun hc => ?_)
                          · skip
                            simp at hc
                          · skip
                            refine W.skip (hK26 _ ?_)
                            refine W.seqK fun K28 hK28 => W.region ?_
                            refine WO.makeSet (ds := []) rfl rfl rfl rfl fun r => ?_
                            simp only [St.pushO]
                            refine WO.go 1 (ds := []) rfl ?_
                            simp only [sx, ty, q1, q2, q5, q6, q7, q8, q9, qa, qb, reduceIte, sy, q3, q4, hhe, hoe]
                            with_reducible refine WO.nil ?_
                            refine hK28 _ ?_; clear hK28
                            refine W.pure (ds := []) rfl fun K29 hK29 => ?_
                            simp only [sx, ty, q1, q2, q5, q6, q7, q8, q9, qa, qb, reduceIte, sy, q3, q4, hhe, hoe]; with_reducible refine hK29 _ ?_; clear hK29
                            refine W.block ?_
                            refine W.loopO (X := Nat) [1, 9, 10, 18, 28, 33, 151, 152, 188, 189] (fun x => [(190, .val (.int .i64 (x : Int)))]) (fun x => [.map r (setE ((at9.take x).map fun j => (cs.getD j (0, 0, 0, 0)).1)) ((at9.take x).map fun j => (cs.getD j (0, 0, 0, 0)).1).length]) (fun x => [((fun b => lo4 ≤ b), s4), (S9, s9), ((fun b => lo2 ≤ b), s2), ((fun _ => True), w)]) (fun x => x ≤ rs.length) (fun x => rs.length - x) 0 ?_ ?_ ?_
                            · exact ⟨rfl, by simp [getE, bnd, keepE], ⟨[], by simp⟩, by simp [Own.bnd, bndL, bnd, boxO], by simp⟩
                            · skip
                              exact Nat.zero_le _
                            · rintro k hkc
                              simp only [sx, ty, q1, q2, q5, q6, q7, q8, q9, qa, qb, reduceIte, sxk, sy, q3, q4, hhe, hoe]
                              refine W.pure (ds := []) rfl fun K30 hK30 => ?_
                              simp only [sx, ty, q1, q2, q5, q6, q7, q8, q9, qa, qb, reduceIte, sy, q3, q4, hhe, hoe]; with_reducible refine hK30 _ ?_; clear hK30
                              refine W.seqK fun K31 hK31 => ?_
                              refine W.cond rfl rfl (fun hc => ?_) (fun hc => ?_)
                              · skip
                                have hlk : k < rs.length := by simpa using hc
                                obtain ⟨y, hy⟩ := len_lt (rfl : rs.length = _) hlk
                                obtain ⟨a, ha⟩ : ∃ a, at9.getD k 0 = a := ⟨_, rfl⟩
                                have hmp : (rs.map (fun z : DE => z.1)).length = rs.length := by simp
                                have ham := hBP.mat.lt k (by rw [hmp]; exact hlk)
                                have hok := hBP.mat.ok k (by rw [hmp]; exact hlk)
                                simp only [ha] at ham hok
                                rw [costs_wide (by intro h0; rw [h0] at hmp; simp at hmp; omega)] at ham
                                obtain ⟨cc, hcc⟩ := len_lt (rfl : cs.length = _) ham
                                have hdk : (rs.map (fun z : DE => z.1))[k]? = some y.1 := by rw [List.getElem?_map, hy]; rfl
                                have hcf : CF (rs.map (fun z : DE => z.1)) cs h k a = costF y.1 cc h := cF_costs hdk hcc
                                rw [hcf] at hok
                                have hgv : (planL (rs.map (fun z : DE => z.1)) cs h at9 rs.length)[k]? = some ((y.1.1, cc.1, costF y.1 cc h) : Giv) := by
                                  unfold planL
                                  rw [List.getElem?_map, List.getElem?_range hlk]
                                  simp only [Option.map_some, givF, ha, hcf, getD_some hdk, getD_some hcc]
                                have hnk := copy_new hcn hBP (by rw [hmp]; exact hlk) ha hcc
                                have hya := hxe y (hnx y (hrm y (List.mem_of_getElem? hy)))
                                have hyle : y.1.2.2.2.length ≤ 1000 := by
                                  have h9 := (valid_mem hv).2.1 y.1 (by rw [← hxm]; exact List.mem_map.2 ⟨y, hnx y (hrm y (List.mem_of_getElem? hy)), rfl⟩)
                                  simp only [validD, Bool.and_eq_true, within, decide_eq_true_eq] at h9
                                  omega
                                refine W.skip (hK31 _ ?_)
                                refine W.seqK fun K32 hK32 => ?_
                                refine W.block ?_
                                refine W.seqK fun K33 hK33 => W.region ?_
                                refine WO.go 1 (ds := []) rfl ?_
                                simp only [sx, ty, q1, q2, q5, q6, q7, q8, q9, qa, qb, reduceIte, sy, q3, q4, hhe, hoe]
                                refine WO.elem (y := ((y.1.1, cc.1, costF y.1 cc h) : Giv)) hgr (by simp [St.put]) (ds := []) rfl rfl rfl (by simp [St.put]) (fun _ => rfl) rfl rfl rfl rfl rfl el26 agg39 sz39 (.inl rfl) (by omega) (hgv) fun p ces hces => ?_
                                obtain rfl := rGiv_open hces
                                clear hces
                                simp only
                                refine WO.go 3 (ds := []) rfl ?_
                                simp only [sx, ty, q1, q2, q5, q6, q7, q8, q9, qa, qb, reduceIte, sy, q3, q4, hhe, hoe]
                                with_reducible refine WO.nil ?_
                                refine hK33 _ ?_; clear hK33
                                refine W.seqK fun K34 hK34 => ?_
                                refine W.join 219 (.val (.bool false)) [1, 9, 10, 18, 28, 33, 35, 151, 152, 188, 189, 190] (W.regionQ mixed (by kernel_rfl) ?_) ?_
                                · skip
                                  refine WQ.go 4 (ds := [some 195, some 196, some 197, some 198, some 199, some 200, some 201, some 202, some 203, some 204, some 205, some 206, some 207, some 208, some 209, some 210, some 211, some 212, some 213, some 214, some 215, some 216, some 217, some 218, some 219]) rfl ?_
                                  simp only [sx, ty, q1, q2, q5, q6, q7, q8, q9, qa, qb, reduceIte, sxq, sy, q3, q4, hhe, hoe]
                                  refine WQ.elemF (y := y) hrr (by simp [St.put]) (ds := [some 195, some 196, some 197, some 198, some 199, some 200, some 201, some 202, some 203, some 204, some 205, some 206, some 207, some 208, some 209, some 210, some 211, some 212, some 213, some 214, some 215, some 216, some 217, some 218, some 219]) rfl rfl rfl (by simp [St.put]) (fun _ => rfl) rfl (by simp [St.put]) (fun _ _ => rfl) rfl rfl rfl rfl rfl rfl el22 fo41_0 agg3 sz3 (by decide) (.inr rfl) (by omega) (hy) fun p q ces hces => ?_
                                  have hces : ces = deV y := hces
                                  subst hces
                                  simp only [deV]
                                  refine WQ.go 5 (ds := [some 195, some 196, some 197, some 198, some 199, some 200, some 201, some 202, some 203, some 204, some 205, some 206, some 207, some 208, some 209, some 210, some 211, some 212, some 213, some 214, some 215, some 216, some 217, some 218, some 219]) rfl ?_
                                  simp only [sx, ty, q1, q2, q5, q6, q7, q8, q9, qa, qb, reduceIte, sxq, sy, q3, q4, hhe, hoe]
                                  refine WQ.q (ds := [some 195, some 196, some 197, some 198, some 199, some 200, some 201, some 202, some 203, some 204, some 205, some 206, some 207, some 208, some 209, some 210, some 211, some 212, some 213, some 214, some 215, some 216, some 217, some 218, some 219]) rfl rfl rfl (QR.inSet (k := 0) (ks := ((at9.take k).map fun j => (cs.getD j (0, 0, 0, 0)).1)) rfl rfl rfl rfl ms37) ?_
                                  rw [List.contains_eq_mem, decide_eq_false hnk]
                                  refine WQ.go 4 (ds := [some 195, some 196, some 197, some 198, some 199, some 200, some 201, some 202, some 203, some 204, some 205, some 206, some 207, some 208, some 209, some 210, some 211, some 212, some 213, some 214, some 215, some 216, some 217, some 218, some 219]) rfl ?_
                                  simp only [sx, ty, q1, q2, q5, q6, q7, q8, q9, qa, qb, reduceIte, sxq, sy, q3, q4, hhe, hoe]
                                  refine WQ.elem (y := y) hrr (by simp [St.put]) (ds := [some 195, some 196, some 197, some 198, some 199, some 200, some 201, some 202, some 203, some 204, some 205, some 206, some 207, some 208, some 209, some 210, some 211, some 212, some 213, some 214, some 215, some 216, some 217, some 218, some 219]) rfl rfl rfl (by simp [St.put]) (fun _ => rfl) rfl rfl rfl rfl rfl el22 agg41 sz41 (.inl rfl) (by omega) (hy) fun p ces hces => ?_
                                  have hces : ces = deV y := hces
                                  subst hces
                                  simp only [deV]
                                  refine WQ.go 3 (ds := [some 195, some 196, some 197, some 198, some 199, some 200, some 201, some 202, some 203, some 204, some 205, some 206, some 207, some 208, some 209, some 210, some 211, some 212, some 213, some 214, some 215, some 216, some 217, some 218, some 219]) rfl ?_
                                  simp only [sx, ty, q1, q2, q5, q6, q7, q8, q9, qa, qb, reduceIte, sxq, sy, q3, q4, hhe, hoe]
                                  refine WQ.call (.bool true) (ds := [some 195, some 196, some 197, some 198, some 199, some 200, some 201, some 202, some 203, some 204, some 205, some 206, some 207, some 208, some 209, some 210, some 211, some 212, some 213, some 214, some 215, some 216, some 217, some 218, some 219]) rfl rfl rfl rfl co12 (fun ρ w1 hb => meets_spec (d := y.1) (p8 := y.2.1) (c8 := y.2.2) (c := cc) (k := a) (hall := h) (cs := cs) (p2 := p2) (c2 := c2) (g := (y.1.1, cc.1, costF y.1 cc h)) (hya.now (hb.first (by simp [St.put]))) (Rp.now hl2 (hb.first (by simp [St.put]))) hyle hcn (by omega) hcc rfl rfl hok) ?_
                                  refine WQ.go 2 (ds := [some 195, some 196, some 197, some 198, some 199, some 200, some 201, some 202, some 203, some 204, some 205, some 206, some 207, some 208, some 209, some 210, some 211, some 212, some 213, some 214, some 215, some 216, some 217, some 218, some 219]) rfl ?_
                                  simp only [sx, ty, q1, q2, q5, q6, q7, q8, q9, qa, qb, reduceIte, sxq, sy, q3, q4, hhe, hoe]
                                  with_reducible refine WQ.nil ?_
                                  refine ⟨rfl, ?_, ⟨_, rfl⟩, by simp [Own.bnd, bndL, bnd, boxO], by simp⟩
                                  simp [getE, bnd, keepE]
                                · simp only [sx, ty, q1, q2, q5, q6, q7, q8, q9, qa, qb, reduceIte, sxk, sy, q3, q4, hhe, hoe]
                                  refine W.cond rfl rfl (fun hc => ?_) (fun hc => ?_)
                                  · skip
                                    simp at hc
                                  · skip
                                    refine W.skip (hK34 _ ?_)
                                    refine W.region ?_
                                    refine WO.go 3 (ds := []) rfl ?_
                                    simp only [sx, ty, q1, q2, q5, q6, q7, q8, q9, qa, qb, reduceIte, sy, q3, q4, hhe, hoe]
                                    refine WO.addSet (k := 0) (ks := ((at9.take k).map fun j => (cs.getD j (0, 0, 0, 0)).1)) (ds := []) rfl rfl rfl rfl rfl rfl rfl rfl ms37 hnk ?_
                                    simp only [setOwn]
                                    rw [show ((at9.take k).map fun j => (cs.getD j (0, 0, 0, 0)).1) ++ [cc.1] = ((at9.take (k + 1)).map fun j => (cs.getD j (0, 0, 0, 0)).1) by rw [← getD_some (d := (0, 0, 0, 0)) hcc, ← ha]; exact (take_map_snoc (fun j => (cs.getD j (0, 0, 0, 0)).1) at9 (by obtain ⟨z, hz⟩ := len_lt hBP.len (show k < _ by rw [hmp]; exact hlk); rw [getD_some hz]; exact hz)).symm]
                                    simp only [sx, ty, q1, q2, q5, q6, q7, q8, q9, qa, qb, reduceIte, sy, q3, q4, hhe, hoe]
                                    with_reducible refine WO.nil ?_
                                    refine hK32 _ ?_
                                    refine W.region ?_
                                    refine WO.go 2 (ds := []) rfl ?_
                                    simp only [sx, ty, q1, q2, q5, q6, q7, q8, q9, qa, qb, reduceIte, sy, q3, q4, hhe, hoe]
                                    with_reducible refine WO.nil ?_
                                    refine ⟨k + 1, hlk, by omega, rfl, by simp [getE, bnd, keepE, wrap_succ (show k + 1 ≤ 9223372036854775807 by omega)], ⟨_, by simp; rfl⟩, by simp [Own.bnd, bndL, bnd], by simp⟩
                              · skip
                                have hkm : k = rs.length := Nat.le_antisymm hkc (by simpa using hc)
                                refine W.exit (hK22 _ ?_)
                                refine W.region ?_
                                refine WO.go 2 (ds := []) rfl ?_
                                simp only [sx, ty, q1, q2, q5, q6, q7, q8, q9, qa, qb, reduceIte, sy, q3, q4, hhe, hoe]
                                with_reducible refine WO.nil ?_
                                refine ⟨i + 1, hlt, by omega, rfl, by simp [getE, bnd, keepE, wrap_succ (show i + 1 ≤ 9223372036854775807 by omega)], ⟨_, by simp; rfl⟩, by simp [Own.bnd, bndL, bnd], by simp⟩
                    · skip
                      have him : i = nm.length := Nat.le_antisymm hic (by simpa using hc)
                      refine W.exit (hK18 _ ?_)
                      refine W.pure (ds := []) rfl fun K36 hK36 => ?_
                      simp only [sx, ty, q1, q2, q5, q6, q7, q8, q9, qa, qb, reduceIte, sy, q3, q4, hhe, hoe]; with_reducible refine hK36 _ ?_; clear hK36
                      refine W.ret ⟨by simp, _, rfl, fun ρ w1 hb => ?_⟩
                      rfl
end Go.Proofs.YtolmeekbjonbcaaGreat
set_option linter.unusedVariables false
set_option linter.unusedSimpArgs false
set_option maxHeartbeats 1000000
namespace Go.Proofs.YtolmeekbjonbcaaGreat
open Int renaming reduceEq → q1, reduceLT → q2, reduceBEq → q3, reduceBNe → q4
open Nat renaming reduceAdd → q5, reduceSub → q6, reduceMul → q7, reduceLT → q8, reduceLeDiff → q9, reduceEqDiff → qa
open List renaming reduceReplicate → qb
open Go Go.SX Go.RowKit
theorem u8_range {x : Int} (h : (Lit.int .u8 x).wf = true) : 0 ≤ x ∧ x ≤ 255 := by
  simp [Lit.wf, IntKind.min, IntKind.max, IntKind.signed, IntKind.bits] at h; omega
theorem refused_law {S S2 : Nat → Prop} {w : World} {v u : Value} {ds : List Dem} {cs : List Cop} (hl : rDems.rd S w [v] ds) (hl2 : rCops.rd S2 w [u] cs) (hall other : Int) (hh : 0 ≤ hall ∧ hall ≤ 255) (ho : 0 ≤ other ∧ other ≤ 255) : Gives Tryz.prog 3 #[v, u, .int .u8 hall, .int .u8 other] w fun r _ => r = .bool true := by
  cases huse : (few36 ds cs && valid ds cs) with
  | false => exact refused_no hl hl2 hall other huse
  | true =>
    by_cases hm : MeetL ds cs
    · exact refused_yes hl hl2 hall other hh huse hm
    · exact refused_some hl hl2 hall other hh ho huse hm
end Go.Proofs.YtolmeekbjonbcaaGreat
set_option linter.unusedVariables false
namespace Go.SX
open Go Go.RowKit Go.ChangeShapes Go.WideShapes Go.Deep
section
variable {P : Program}
/-- What reads as type t reads as A. -/
def Cov (P : Program) (t : TypeId) {α : Type} (A : Rp α) : Prop :=
  P.cellsOf t = A.sz ∧ ∀ (H : Type) (enc : TypeId × Value → H) (w : World) (base : Nat) (spare : Nat → Bool) (held : Bool) (fuel : Nat) (cs : List Value) (x : DataW H × List MemPlace), DataW.trod enc P w base spare held fuel t cs = some x → ∃ y, A.rd (fun _ => True) w cs y
theorem Cov.int {t : TypeId} {k : IntKind} (ht : P.underlying t = some (.int k)) (hc : P.cellsOf t = 1) : Cov P t (Rp.int k) :=
  ⟨hc, fun H enc w base spare held fuel cs x h => by
    obtain ⟨n, rfl, _⟩ := DataW.trod_int ht h
    exact ⟨n, rfl⟩⟩
theorem Cov.bool {t : TypeId} (ht : P.underlying t = some .bool) (hc : P.cellsOf t = 1) : Cov P t Rp.bool :=
  ⟨hc, fun H enc w base spare held fuel cs x h => by
    obtain ⟨n, rfl, _⟩ := DataW.trod_bool ht h
    exact ⟨n, rfl⟩⟩
theorem list_of {α : Type} {R : Nat → α → Prop} : ∀ n, (∀ i, i < n → ∃ y, R i y) → ∃ ys : List α, ys.length = n ∧ ∀ i y, ys[i]? = some y → R i y
  | 0, _ => ⟨[], rfl, fun i y h => by simp at h⟩
  | n + 1, h => by
    obtain ⟨ys, h1, h2⟩ := list_of n fun i hi => h i (by omega)
    obtain ⟨y, hy⟩ := h n (by omega)
    refine ⟨ys ++ [y], by simp [h1], fun i z hz => ?_⟩
    rcases Nat.lt_trichotomy i n with hi | hi | hi
    · rw [List.getElem?_append_left (by omega)] at hz; exact h2 i z hz
    · subst hi
      rw [List.getElem?_append_right (by omega), h1] at hz
      simp at hz
      exact hz ▸ hy
    · rw [List.getElem?_eq_none (by simp; omega)] at hz; cases hz
theorem Cov.slice {t e : TypeId} {α : Type} {A : Rp α} (ht : P.underlying t = some (.slice e)) (hc : P.cellsOf t = 1) (hA : Cov P e A) (hpos : 0 < A.sz) : Cov P t (Rp.slice A) :=
  ⟨hc, fun H enc w base spare held fuel cs x h => by
    rcases open_slice ht h with ⟨rfl, _⟩ | ⟨a, len, cap, m, n, D, Pl, rfl, hb, hl, hm, hmm, hx, hi⟩
    · exact ⟨[], none, 0, 0, rfl, rfl, Nat.le_refl _, Nat.zero_le _, .inl rfl⟩
    · have hml : len ≤ m := by rw [hmm]; split <;> omega
      rw [hA.1] at hi
      have key : ∀ i, i < len → ∃ y, ∃ ces, At w (a.add (i * A.sz)) ces ∧ A.rd (fun _ => True) w ces y := fun i him => by
        obtain ⟨cs', hcs, ht'⟩ := hi i (by omega)
        obtain ⟨_, hlen, hat⟩ := World.cells?_some hcs
        obtain ⟨y, hy⟩ := hA.2 H enc w base spare held n cs' _ ht'
        refine ⟨y, cs', fun j v hv => ?_, hy⟩
        have hj := (List.getElem?_eq_some_iff.1 hv).1
        rw [hat j (by omega), hv]
      obtain ⟨ys, h1, h2⟩ := list_of len key
      refine ⟨ys, some a, len, cap, rfl, h1.symm, hl, hm, ?_⟩
      by_cases hz : len = 0
      · left; exact List.eq_nil_of_length_eq_zero (by omega)
      · right
        refine ⟨a, rfl, trivial, ?_, h2⟩
        obtain ⟨cs', hcs, _⟩ := hi 0 (by omega)
        obtain ⟨_, hlen, hat⟩ := World.cells?_some hcs
        have := hat 0 hpos
        rw [List.getElem?_eq_getElem (by omega)] at this
        have h3 := World.block_lt_of_cell? w _ this
        simpa [block_add] using h3⟩
/-- The fields of a struct, from cell o on. -/
def CovF (P : Program) (fs : List Field) (o : Nat) {α : Type} (A : Rp α) : Prop :=
  ∀ (H : Type) (enc : TypeId × Value → H) (w : World) (base : Nat) (spare : Nat → Bool) (held : Bool) (fuel : Nat) (cs : List Value), (∀ f, f ∈ fs → ∃ x, DataW.trod enc P w base spare held fuel f.type ((cs.drop f.offset).take (P.cellsOf f.type)) = some x) → cs.length = o + A.sz → ∃ y, A.rd (fun _ => True) w (cs.drop o) y
theorem CovF.one {f : Field} {o : Nat} {α : Type} {A : Rp α} (ho : f.offset = o) (hA : Cov P f.type A) : CovF P [f] o A := fun H enc w base spare held fuel cs h hl => by
  obtain ⟨x, hx⟩ := h f (by simp)
  rw [ho, hA.1, List.take_of_length_le (by simp; omega)] at hx
  exact hA.2 H enc w base spare held fuel _ x hx
theorem CovF.cons {f : Field} {fs : List Field} {o : Nat} {α β : Type} {A : Rp α} {B : Rp β} (ho : f.offset = o) (hA : Cov P f.type A) (hB : CovF P fs (o + A.sz) B) : CovF P (f :: fs) o (Rp.pair A B) := fun H enc w base spare held fuel cs h hl => by
  obtain ⟨x, hx⟩ := h f (by simp)
  rw [ho, hA.1] at hx
  obtain ⟨y, hy⟩ := hA.2 H enc w base spare held fuel _ x hx
  have hl' : cs.length = o + (A.sz + B.sz) := hl
  obtain ⟨z, hz⟩ := hB H enc w base spare held fuel cs (fun f' hf' => h f' (by simp [hf'])) (by omega)
  refine ⟨(y, z), _, _, ?_, hy, hz⟩
  rw [← List.drop_drop, List.take_append_drop]
theorem Cov.struct {t : TypeId} {fs : List Field} {α : Type} {A : Rp α} (ht : P.underlying t = some (.struct fs.toArray)) (hc : P.cellsOf t = A.sz) (hA : CovF P fs 0 A) : Cov P t A :=
  ⟨hc, fun H enc w base spare held fuel cs x h => by
    obtain ⟨xs, n, _, hx, hlen, hxl, hf⟩ := DataW.trod_struct ht h
    have := hA H enc w base spare held n cs (fun f hfm => ?_) (by omega)
    · simpa using this
    · obtain ⟨i, hi, hfi⟩ := List.getElem_of_mem hfm
      have h1 := hf i f (by simp [← hfi, hi])
      have h2 : i < xs.length := by rw [hxl]; simpa using hi
      rw [List.getElem?_eq_getElem h2] at h1
      exact ⟨_, h1⟩⟩
variable {H : Type} {enc : TypeId × Value → H} {w : World} {base b0 : Nat} {spare : Nat → Bool} {held : Bool} {r : Reach} {v : Value} {d : DataW H} {ps : List MemPlace}
theorem open_sl {t e : TypeId} {α : Type} {A : Rp α} (ht : P.underlying t = some (.slice e)) (hA : Cov P t (Rp.slice A)) (hval : Value.okWide P w r b0 t v) (hd : DataW.Trod enc P w base spare held t v d ps) : ∃ y, (Rp.slice A).rd (fun _ => True) w [v] y := by
  obtain ⟨a, len, cap, rfl⟩ := okWide_slice ht hval
  obtain ⟨fuel, hf⟩ := hd
  exact hA.2 H enc w base spare held fuel _ _ hf
/-- All arguments read as they did. -/
theorem trodAll_below {W W' : World} (hl : laidOutB P = true) (hb : Below W.heap.size W W') : ∀ {ts : List TypeId} {vs : List Value} {ds : List (DataW H)} {ps : List MemPlace}, (∀ t, t ∈ ts → P.readableRec t = true ∧ t < P.types.size) → (∀ x, x ∈ ps → x.block < W.heap.size) →
    DataW.TrodAll enc P W 0 (fun _ => true) true ts vs ds ps → ∀ sp : Nat → Bool, (∀ p ∈ ps, sp p.block = true) → DataW.TrodAll enc P W' 0 sp true ts vs ds ps
  | [], [], [], ps, _, _, h, sp, hsp => h
  | [], _ :: _, _, _, _, _, h, _, _ => h.elim
  | [], [], _ :: _, _, _, _, h, _, _ => h.elim
  | _ :: _, [], _, _, _, _, h, _, _ => h.elim
  | _ :: _, _ :: _, [], _, _, _, h, _, _ => h.elim
  | t :: ts, v :: vs, d :: ds, ps, hr, hlt, h, sp, hsp => by
    obtain ⟨p, q, h1, h2, rfl⟩ := h
    exact ⟨p, q, WideElems.Trod_stays hl (hr t (by simp)).1 (hr t (by simp)).2 h1 (fun x hx => hb.same (hlt x (by simp [hx]))) (fun x hx => hsp x (by simp [hx])),
      trodAll_below hl hb (fun t' ht' => hr t' (by simp [ht'])) (fun x hx => hlt x (by simp [hx])) h2 sp (fun x hx => hsp x (by simp [hx])), rfl⟩
/-- The closing of a law that answers true and leaves old memory alone. -/
theorem law_post {f : Func} {s : ChangeSpec} {apart fresh handsOn : Bool} {W W' : World} {args : Array Value} {ds gs : List (DataW H)} {before : List MemPlace} {tb : TypeId} (hl : laidOutB P = true)
    (hW : DataW.Whole enc P f.params.toList s.vars apart W args.toList ds gs before) (hb : Below W.heap.size W W') (hvs : s.vars = []) (hts : ∀ t, t ∈ f.params.toList → P.readableRec t = true ∧ t < P.types.size)
    (hrt : f.resultTypes = #[tb]) (htb : P.underlying tb = some .bool) (hr : (s.fn H (ds ++ gs)).results = [.lit (.bool true)]) (ha : (s.fn H (ds ++ gs)).args = ds) (hv : (s.fn H (ds ++ gs)).vars = []) :
    s.post enc P f apart fresh handsOn false W args (.bool true) W' := by
  have hlt := hW.lt
  have hW' := hW
  obtain ⟨p, q, hA, hV, rfl, _, _⟩ := hW
  rw [hvs] at hV
  refine ⟨ds, gs, p ++ q, [], p, [], hW', ?_, ?_, ?_, hb.frame _, fun h => by cases h⟩
  · rw [hr, hrt]
    exact trodAll_cons_mk (shut_bool htb _) trodAll_mk0
  · rw [ha]
    exact trodAll_below hl hb hts (fun x hx => hlt x (by simp [hx])) hA _ fun x hx => by simpa using hlt x (by simp [hx])
  · rw [hv, hvs]; rfl
end
end Go.SX
set_option linter.unusedVariables false
namespace Go.Proofs.YtolmeekbjonbcaaGreat
open Go Go.SX Go.ChangeShapes Go.WideShapes Go.ChangeAt Go.RowKit Go.Deep
theorem ownNone : ownKnob Tryz.prog.godebug = none := by kernel_rfl
theorem laidOut : laidOutB Tryz.prog = true := by kernel_rfl
theorem rr5 : Tryz.prog.readableRec 5 = true ∧ 5 < Tryz.prog.types.size := ⟨by kernel_rfl, of_decide_eq_true (by kernel_rfl)⟩
theorem rr22 : Tryz.prog.readableRec 22 = true ∧ 22 < Tryz.prog.types.size := ⟨by kernel_rfl, of_decide_eq_true (by kernel_rfl)⟩
theorem rr23 : Tryz.prog.readableRec 23 = true ∧ 23 < Tryz.prog.types.size := ⟨by kernel_rfl, of_decide_eq_true (by kernel_rfl)⟩
theorem cov3 : Go.SX.Cov Tryz.prog 3 (Rp.int .i64) := Go.SX.Cov.int Tryz.underlying3 (by kernel_rfl)
theorem cov27 : Go.SX.Cov Tryz.prog 27 (Rp.slice (Rp.int .i64)) := Go.SX.Cov.slice Tryz.underlying27 (by kernel_rfl) cov3 (by decide)
theorem cov41 : Go.SX.Cov Tryz.prog 41 (Rp.pair (Rp.int .i64) (Rp.pair (Rp.int .i64) (Rp.pair (Rp.int .i64) (Rp.slice (Rp.int .i64))))) := Go.SX.Cov.struct (fs := _) Tryz.underlying41 (by kernel_rfl) (CovF.cons rfl cov3 (CovF.cons rfl cov3 (CovF.cons rfl cov3 (CovF.one rfl cov27))))
theorem cov22 : Go.SX.Cov Tryz.prog 22 (Rp.slice (Rp.pair (Rp.int .i64) (Rp.pair (Rp.int .i64) (Rp.pair (Rp.int .i64) (Rp.slice (Rp.int .i64)))))) := Go.SX.Cov.slice Tryz.underlying22 (by kernel_rfl) cov41 (by decide)
theorem cov45 : Go.SX.Cov Tryz.prog 45 (Rp.pair (Rp.int .i64) (Rp.pair (Rp.int .i64) (Rp.pair (Rp.int .i64) (Rp.int .i64)))) := Go.SX.Cov.struct (fs := _) Tryz.underlying45 (by kernel_rfl) (CovF.cons rfl cov3 (CovF.cons rfl cov3 (CovF.cons rfl cov3 (CovF.one rfl cov3))))
theorem cov23 : Go.SX.Cov Tryz.prog 23 (Rp.slice (Rp.pair (Rp.int .i64) (Rp.pair (Rp.int .i64) (Rp.pair (Rp.int .i64) (Rp.int .i64))))) := Go.SX.Cov.slice Tryz.underlying23 (by kernel_rfl) cov45 (by decide)
set_option maxRecDepth 100000 in
theorem topRefused_contract (H : Type) (enc : TypeId × Value → H) (W : World) (base : Nat) (args : Array Value) (ds gs : List (DataW H)) (before : List MemPlace)
    (hval : ∀ (j : Nat) t v, Tryz.f3.params[j]? = some t → args[j]? = some v → Value.okWide Tryz.prog W .any base t v)
    (hW : DataW.Whole enc Tryz.prog Tryz.f3.params.toList Rows.topRefusedSpec.vars false W args.toList ds gs before) :
    Calls Tryz.prog 3 args W fun e W' => ∃ v, e = .returned v ∧ Rows.topRefusedSpec.post enc Tryz.prog Tryz.f3 false true false false W args v W' := by
  have hW' := hW
  obtain ⟨p, q, hA0, hV, rfl, hfz, hnd⟩ := hW
  have hA : DataW.TrodAll enc Tryz.prog W 0 (fun _ => true) true Tryz.f3.params.toList args.toList ds p := hA0
  rw [Tryz.params3] at hA hval
  obtain ⟨v0, vs0, d0, ds0, p0, q0, hargs, rfl, rfl, h0, r0⟩ := trodAll_cons hA
  obtain ⟨v1, vs1, d1, ds1, p1, q1, rfl, rfl, rfl, h1, r1⟩ := trodAll_cons r0
  obtain ⟨v2, vs2, d2, ds2, p2, q2, rfl, rfl, rfl, h2, r2⟩ := trodAll_cons r1
  obtain ⟨v3, vs3, d3, ds3, p3, q3, rfl, rfl, rfl, h3, r3⟩ := trodAll_cons r2
  obtain ⟨rfl, rfl, rfl⟩ := trodAll_nil r3
  obtain rfl : args = #[v0, v1, v2, v3] := by cases args; simp_all
  obtain ⟨rfl, rfl⟩ := trodVars_none hV
  obtain ⟨x0, hx0⟩ := open_sl (A := (Rp.pair (Rp.int .i64) (Rp.pair (Rp.int .i64) (Rp.pair (Rp.int .i64) (Rp.slice (Rp.int .i64)))))) Tryz.underlying22 cov22 (hval 0 22 v0 rfl rfl) h0
  obtain ⟨x1, hx1⟩ := open_sl (A := (Rp.pair (Rp.int .i64) (Rp.pair (Rp.int .i64) (Rp.pair (Rp.int .i64) (Rp.int .i64))))) Tryz.underlying23 cov23 (hval 1 23 v1 rfl rfl) h1
  obtain ⟨x2, rfl, rfl, rfl, hx2⟩ := open_int Tryz.underlying5 (hval 2 5 v2 rfl rfl) h2
  obtain ⟨x3, rfl, rfl, rfl, hx3⟩ := open_int Tryz.underlying5 (hval 3 5 v3 rfl rfl) h3
  refine Calls.mono (refused_law hx0 hx1 x2 x3 (u8_range hx2) (u8_range hx3)) fun e W' ⟨v, he, hb, hv⟩ => ?_
  subst he; subst hv
  exact ⟨_, rfl, law_post laidOut hW' hb rfl (by rw [Tryz.params3]; simp only [List.mem_cons, List.not_mem_nil, or_false]; rintro t (rfl | rfl | rfl | rfl) <;> first | exact rr22 | exact rr23 | exact rr5) rfl Tryz.underlying4 rfl rfl rfl⟩
set_option maxRecDepth 100000 in
theorem topRefused_lifted (os : Os) (started : os.Started) (H : Type) (enc : TypeId × Value → H) :
    ReturnsInHanded {} Tryz.checked os 3 .any (Rows.topRefusedSpec.pre6 enc Tryz.prog Tryz.f3 Rows.topRefusedRow.domain false) (Rows.topRefusedSpec.post enc Tryz.prog Tryz.f3 false true false false) := by
  refine returnsInHanded_of_change (C := Tryz.checked) ownNone started (by kernel_rfl) Tryz.func3
    (ChangeSpec.witness6 (enc := enc) (C := Tryz.checked) false ⟨#[], #[.slice none 0 0, .slice none 0 0, .int .u8 0, .int .u8 0], []⟩ 8 (by kernel_rfl) (by kernel_rfl) (by kernel_rfl) (by kernel_rfl)) ?_
  intro W base args ds gs before hval hW _ _
  exact topRefused_contract H enc W base args ds gs before hval hW
theorem topRefused_holds : Rows.TopRefusedSaid :=
  OpenClaim.holds_of_wide 3 Tryz.f3 rfl rfl rfl rfl rfl rfl rfl ⟨rfl, rfl, rfl, rfl, rfl⟩ rfl rfl rfl rfl rfl (by kernel_rfl) Tryz.func3 (by kernel_rfl)
    (of_decide_eq_true (by kernel_rfl)) (by unfold Func.isWrapper; first | (rw [if_pos (by decide +kernel)]; kernel_rfl) | (rw [if_neg (by decide +kernel)]; exact ⟨rfl, rfl⟩))
    (fun os started H enc _ => topRefused_lifted os started H enc)
end Go.Proofs.YtolmeekbjonbcaaGreat
