/-
  Codec: frames, one behind the other, cut, and changed, without the program.
-/
import Derived.Test.YtnbfdncmlbegmaaPlainF
set_option linter.unusedVariables false
namespace Go.Proofs.Ytnbfdncmlbegmaa
open Go Go.SX Go.RowKit

def okL (l : List Int) : Prop := l.length ≤ 4000 ∧ ∀ x, x ∈ l → isI x
def allF (ls : List (List Int)) : List Int := (ls.map fun l => frameF (putF l)).flatten
theorem allF_nil : allF [] = [] := rfl
theorem allF_cons (l : List Int) (ls : List (List Int)) : allF (l :: ls) = frameF (putF l) ++ allF ls := by simp [allF]
theorem allF_app (l m : List (List Int)) : allF (l ++ m) = allF l ++ allF m := by simp [allF]
theorem lenN_hdr {n : Nat} (h : n ≤ 16777215) (t : List Int) : lenN (hdr n ++ t) = n := by
  simp only [hdr, lenN, List.cons_append, List.getD_cons_zero, List.getD_cons_succ]; omega
theorem frame_split (b rest : List Int) : frameF b ++ rest = (hdr b.length ++ b) ++ (bigE (digF beginD (hdr b.length ++ b)) ++ rest) := by simp [frameF]
theorem frame_split3 (b rest : List Int) : frameF b ++ rest = hdr b.length ++ (b ++ (bigE (digF beginD (hdr b.length ++ b)) ++ rest)) := by simp [frameF]
theorem hdr_len (n : Nat) : (hdr n).length = 3 := rfl
theorem full_len (b : List Int) : (hdr b.length ++ b).length = 3 + b.length := by simp [hdr_len]
theorem bigE_len (d : Int) : (bigE d).length = 8 := by simp [bigE, preB_len]
theorem putF_small {l : List Int} (h : okL l) : (putF l).length ≤ 16777215 := by have := putF_len l; have := h.1; omega
theorem lenN_frame {b : List Int} (h : b.length ≤ 16777215) (rest : List Int) : lenN (frameF b ++ rest) = b.length := by rw [frame_split3, lenN_hdr h]
theorem wholeF_frame {l : List Int} (h : okL l) (rest : List Int) : wholeF (frameF (putF l) ++ rest) = some (l, (frameF (putF l)).length) := by
  have hs := putF_small h
  have hlen := frameF_len (putF l)
  unfold wholeF
  rw [lenN_frame hs, if_neg (by rw [List.length_append]; omega), if_neg (by rw [List.length_append]; omega)]
  have e1 : (frameF (putF l) ++ rest).drop (3 + (putF l).length) = bigE (digF beginD (hdr (putF l).length ++ putF l)) ++ rest := by
    rw [frame_split, List.drop_left' (full_len _)]
  have e2 : (frameF (putF l) ++ rest).take (3 + (putF l).length) = hdr (putF l).length ++ putF l := by
    rw [frame_split, List.take_left' (full_len _)]
  have e3 : ((frameF (putF l) ++ rest).drop 3).take (putF l).length = putF l := by
    rw [frame_split3, List.drop_left' (hdr_len _), List.take_left' rfl]
  rw [e1, e2, e3, List.take_left' (bigE_len _), if_pos rfl, getF_putF h.2 h.1, hlen]; rfl
theorem wholeF_nil : wholeF [] = none := rfl
theorem framesN_nil (g : Nat) : framesN g [] = ([], 0) := by
  cases g with
  | zero => rfl
  | succ g => rw [framesN, wholeF_nil]
theorem framesN_fuel : ∀ (f g : Nat) (b : List Int), b.length ≤ f → b.length ≤ g → framesN f b = framesN g b
  | 0, g, b, hf, hg => by
    obtain rfl : b = [] := List.length_eq_zero_iff.1 (by omega)
    rw [framesN_nil, framesN_nil]
  | f + 1, 0, b, hf, hg => by
    obtain rfl : b = [] := List.length_eq_zero_iff.1 (by omega)
    rw [framesN_nil, framesN_nil]
  | f + 1, g + 1, b, hf, hg => by
    rw [framesN, framesN]
    cases h : wholeF b with
    | none => rfl
    | some x =>
      obtain ⟨l, n⟩ := x
      have h2 := wholeF_len h
      simp only
      rw [framesN_fuel f g (b.drop n) (by rw [List.length_drop]; omega) (by rw [List.length_drop]; omega)]
theorem framesF_none {b : List Int} (h : wholeF b = none) : framesF b = ([], 0) := by
  unfold framesF
  cases b with
  | nil => rfl
  | cons x b => rw [List.length_cons, framesN, h]
theorem framesF_some {b l : List Int} {n : Nat} (h : wholeF b = some (l, n)) : framesF b = (l :: (framesF (b.drop n)).1, n + (framesF (b.drop n)).2) := by
  have h2 := wholeF_len h
  unfold framesF
  obtain ⟨m, hm⟩ : ∃ m, b.length = m + 1 := ⟨b.length - 1, by omega⟩
  rw [hm, framesN, h]
  simp only
  rw [framesN_fuel m (b.drop n).length (b.drop n) (by rw [List.length_drop]; omega) (Nat.le_refl _)]
theorem framesF_all {rest : List Int} : ∀ {ls : List (List Int)}, (∀ l, l ∈ ls → okL l) → framesF (allF ls ++ rest) = (ls ++ (framesF rest).1, (allF ls).length + (framesF rest).2)
  | [], _ => by simp [allF_nil]
  | l :: ls, h => by
    rw [allF_cons, List.append_assoc, framesF_some (wholeF_frame (h l List.mem_cons_self) _), List.drop_left, framesF_all fun x hx => h x (List.mem_cons_of_mem _ hx)]
    simp only [List.cons_append, List.length_append, Prod.mk.injEq, true_and]; omega
theorem framesF_whole {ls : List (List Int)} (h : ∀ l, l ∈ ls → okL l) : framesF (allF ls) = (ls, (allF ls).length) := by
  have := framesF_all (rest := []) h
  rwa [List.append_nil, framesF_none wholeF_nil, List.append_nil, Nat.add_zero] at this

/-! ### frames that are cut -/
theorem getD_take {b : List Int} {m i : Nat} (h : i < m) : (b.take m).getD i 0 = b.getD i 0 := by
  simp only [List.getD_eq_getElem?_getD, List.getElem?_take, if_pos h]
theorem lenN_take {b : List Int} {m : Nat} (h : 3 ≤ m) : lenN (b.take m) = lenN b := by
  unfold lenN; rw [getD_take (by omega), getD_take (by omega), getD_take (by omega)]
theorem wholeF_torn {l : List Int} (h : okL l) {m : Nat} (hm : m < (frameF (putF l)).length) : wholeF ((frameF (putF l)).take m) = none := by
  have hlen := frameF_len (putF l)
  have htl : ((frameF (putF l)).take m).length = m := by rw [List.length_take]; omega
  unfold wholeF
  split
  · rfl
  · rename_i h11
    rw [htl] at h11
    have hl := lenN_frame (putF_small h) []
    rw [List.append_nil] at hl
    rw [if_pos]
    rw [lenN_take (by omega), hl, htl]; omega
structure WantI (ls : List (List Int)) (at' i k : Nat) : Prop where
  le : k ≤ i
  fit : (allF (ls.take k)).length ≤ at'
  over : ∀ j, k < j → j ≤ i → at' < (allF (ls.take j)).length
theorem WantI.start (ls : List (List Int)) (at' : Nat) : WantI ls at' 0 0 := ⟨Nat.le_refl _, by simp [allF], fun j h1 h2 => by omega⟩
theorem WantI.yes {ls : List (List Int)} {at' i k : Nat} (h : (allF (ls.take (i + 1))).length ≤ at') : WantI ls at' (i + 1) (i + 1) := ⟨Nat.le_refl _, h, fun j h1 h2 => by omega⟩
theorem WantI.no {ls : List (List Int)} {at' i k : Nat} (hI : WantI ls at' i k) (h : ¬ (allF (ls.take (i + 1))).length ≤ at') : WantI ls at' (i + 1) k := ⟨Nat.le_succ_of_le hI.le, hI.fit, fun j h1 h2 => by
  rcases Nat.lt_or_ge j (i + 1) with h3 | h3
  · exact hI.over j h1 (by omega)
  · obtain rfl : j = i + 1 := by omega
    omega⟩
theorem framesF_torn {ls : List (List Int)} (h : ∀ l, l ∈ ls → okL l) {at' k : Nat} (hI : WantI ls at' ls.length k) (ha : at' ≤ (allF ls).length) : framesF ((allF ls).take at') = (ls.take k, (allF (ls.take k)).length) := by
  have hk := hI.le
  have hf := hI.fit
  have e0 : (allF ls).take at' = allF (ls.take k) ++ (allF (ls.drop k)).take (at' - (allF (ls.take k)).length) := by
    conv => lhs; rw [← List.take_append_drop k ls, allF_app, List.take_append]
    rw [List.take_of_length_le (by exact hf)]
  have hn : wholeF ((allF (ls.drop k)).take (at' - (allF (ls.take k)).length)) = none := by
    rcases Nat.lt_or_ge k ls.length with h1 | h1
    · have ho := hI.over (k + 1) (by omega) (by omega)
      rw [List.take_add_one, List.getElem?_eq_getElem h1, allF_app] at ho
      simp only [Option.toList_some, allF_cons, allF_nil, List.append_nil, List.length_append] at ho
      rw [List.drop_eq_getElem_cons h1, allF_cons, List.take_append, show at' - (allF (ls.take k)).length - (frameF (putF ls[k])).length = 0 by omega, List.take_zero, List.append_nil]
      exact wholeF_torn (h _ (List.getElem_mem h1)) (by omega)
    · rw [List.drop_eq_nil_of_le h1]; simp [allF, wholeF_nil]
  rw [e0, framesF_all fun x hx => h x (List.mem_of_mem_take hx), framesF_none hn, List.append_nil, Nat.add_zero]

/-! ### a byte that is changed -/
def isU (d : Int) : Prop := 0 ≤ d ∧ d < 18446744073709551616
theorem mul_inj {a c : Int} (ha : isU a) (hc : isU c) (h : a * 1099511628211 % 18446744073709551616 = c * 1099511628211 % 18446744073709551616) : a = c := by
  have key : ∀ x : Int, isU x → (x * 1099511628211 % 18446744073709551616) * 14886173955864302971 % 18446744073709551616 = x := fun x hx => by
    unfold isU at hx
    rw [Int.mul_emod, Int.emod_emod_of_dvd _ (Int.dvd_refl _), ← Int.mul_emod, Int.mul_assoc, show (1099511628211 : Int) * 14886173955864302971 = 18446744073709551616 * 887285111055 + 1 by decide]
    rw [Int.mul_add, Int.mul_one, ← Int.mul_assoc, Int.mul_comm x, Int.mul_assoc, Int.mul_add_emod_self_left, Int.emod_eq_of_lt hx.1 hx.2]
  rw [← key a ha, ← key c hc, h]
theorem stepF_eq (d : Int) {x : Int} (h : isB x) : stepF d x = ((BitVec.ofInt 64 d ^^^ BitVec.ofInt 64 x).toNat : Int) * 1099511628211 % 18446744073709551616 := by
  have hx := h
  unfold isB at hx
  have h1 := (BitVec.ofInt 64 d ^^^ BitVec.ofInt 64 x).isLt
  unfold stepF
  rw [show IntKind.u64.bits = 64 from rfl, u64_wrap x, Int.emod_eq_of_lt hx.1 (by omega), u64_wrap, u64_wrap]
  rw [Int.emod_eq_of_lt (b := 18446744073709551616) (a := ((BitVec.ofInt 64 d ^^^ BitVec.ofInt 64 x).toNat : Int)) (by omega) (by omega)]
theorem stepF_isU (d x : Int) : isU (stepF d x) := by unfold stepF isU; rw [u64_wrap]; omega
theorem ofInt_inj {a c : Int} (ha : isU a) (hc : isU c) (h : BitVec.ofInt 64 a = BitVec.ofInt 64 c) : a = c := by
  have := congrArg BitVec.toNat h
  unfold isU at *
  rw [ofInt64 ha.1 ha.2, ofInt64 hc.1 hc.2] at this; omega
theorem toNat_isU (v : BitVec 64) : isU (v.toNat : Int) := by have := v.isLt; unfold isU; omega
theorem isB_isU {x : Int} (h : isB x) : isU x := by unfold isB isU at *; omega
theorem stepF_left {d e x : Int} (hx : isB x) (hd : isU d) (he : isU e) (h : stepF d x = stepF e x) : d = e := by
  rw [stepF_eq d hx, stepF_eq e hx] at h
  have h2 := mul_inj (toNat_isU _) (toNat_isU _) h
  have h3 : BitVec.ofInt 64 d ^^^ BitVec.ofInt 64 x = BitVec.ofInt 64 e ^^^ BitVec.ofInt 64 x := BitVec.eq_of_toNat_eq (by exact_mod_cast h2)
  exact ofInt_inj hd he ((BitVec.xor_left_inj _).1 h3)
theorem stepF_right {d x y : Int} (hx : isB x) (hy : isB y) (h : stepF d x = stepF d y) : x = y := by
  rw [stepF_eq d hx, stepF_eq d hy] at h
  have h2 := mul_inj (toNat_isU _) (toNat_isU _) h
  have h3 : BitVec.ofInt 64 d ^^^ BitVec.ofInt 64 x = BitVec.ofInt 64 d ^^^ BitVec.ofInt 64 y := BitVec.eq_of_toNat_eq (by exact_mod_cast h2)
  exact ofInt_inj (isB_isU hx) (isB_isU hy) ((BitVec.xor_right_inj _).1 h3)
theorem digF_isU : ∀ (b : List Int) {d : Int}, isU d → isU (digF d b)
  | [], _, h => h
  | x :: b, d, _ => digF_isU b (stepF_isU d x)
theorem digF_inj : ∀ (b : List Int) {d e : Int}, (∀ x, x ∈ b → isB x) → isU d → isU e → digF d b = digF e b → d = e
  | [], _, _, _, _, _, h => h
  | x :: b, d, e, hb, hd, he, h => stepF_left (hb x List.mem_cons_self) hd he (digF_inj b (fun y hy => hb y (List.mem_cons_of_mem _ hy)) (stepF_isU _ _) (stepF_isU _ _) h)
theorem digF_set : ∀ (b : List Int) (p : Nat) {d c : Int}, (∀ x, x ∈ b → isB x) → isB c → b[p]? ≠ some c → p < b.length → isU d → digF d (b.set p c) ≠ digF d b
  | [], _, _, _, _, _, _, hp, _ => by simp at hp
  | x :: b, 0, d, c, hb, hc, hn, hp, hd => fun h => by
    have h1 := digF_inj b (fun y hy => hb y (List.mem_cons_of_mem _ hy)) (stepF_isU _ _) (stepF_isU _ _) h
    exact hn (by rw [stepF_right hc (hb x List.mem_cons_self) h1]; rfl)
  | x :: b, p + 1, d, c, hb, hc, hn, hp, hd => digF_set b p (fun y hy => hb y (List.mem_cons_of_mem _ hy)) hc (by simpa using hn) (by simpa using hp) (stepF_isU _ _)
theorem bigE_inj {d e : Int} (hd : isU d) (he : isU e) (h : bigE d = bigE e) : d = e := by
  unfold isU at *
  simp [bigE, preB, List.range_succ, byteF] at h
  omega
theorem set_ne {b : List Int} {p : Nat} {c : Int} (hp : p < b.length) (hn : b[p]? ≠ some c) : b.set p c ≠ b := fun h => hn (by rw [← h, List.getElem?_set_self hp])
theorem wholeF_changed {l : List Int} (h : okL l) {p : Nat} {c : Int} (h3 : 3 ≤ p) (hp : p < (frameF (putF l)).length) (hc : isB c) (hn : (frameF (putF l))[p]? ≠ some c) : wholeF ((frameF (putF l)).set p c) = none := by
  have hs := putF_small h
  have hlen := frameF_len (putF l)
  have hlN : lenN ((frameF (putF l)).set p c) = (putF l).length := by
    have := lenN_frame hs []
    rw [List.append_nil] at this
    rw [← this]
    unfold lenN
    simp only [List.getD_eq_getElem?_getD]
    rw [List.getElem?_set_ne (by omega), List.getElem?_set_ne (by omega), List.getElem?_set_ne (by omega)]
  have hfb : ∀ x, x ∈ hdr (putF l).length ++ putF l → isB x := fun x hx => by
    rcases List.mem_append.1 hx with hx | hx
    · exact hdr_isB _ x hx
    · exact putF_isB h.2 h.1 x hx
  have hsp : frameF (putF l) = (hdr (putF l).length ++ putF l) ++ bigE (digF beginD (hdr (putF l).length ++ putF l)) := rfl
  have hfl := full_len (putF l)
  generalize hX : hdr (putF l).length ++ putF l = X at *
  have hbu : isU beginD := by unfold isU beginD; omega
  unfold wholeF
  rw [List.length_set, hlN, if_neg (by omega), if_neg (by omega), if_neg]
  rw [hsp] at hn ⊢
  intro he
  rcases Nat.lt_or_ge p X.length with hx | hx
  · rw [List.set_append_left _ _ hx, List.drop_left' (by rw [List.length_set]; exact hfl), List.take_left' (by rw [List.length_set]; exact hfl), List.take_of_length_le (by rw [bigE_len]; omega)] at he
    have h9 := bigE_inj (digF_isU X hbu) (digF_isU (X.set p c) hbu) he
    rw [List.getElem?_append_left hx] at hn
    exact digF_set X p hfb hc hn hx hbu h9.symm
  · rw [List.set_append_right _ _ hx, List.drop_left' hfl, List.take_left' hfl, List.take_of_length_le (by rw [List.length_set, bigE_len]; omega)] at he
    rw [List.getElem?_append_right hx] at hn
    exact set_ne (by rw [bigE_len]; omega) hn he
end Go.Proofs.Ytnbfdncmlbegmaa
