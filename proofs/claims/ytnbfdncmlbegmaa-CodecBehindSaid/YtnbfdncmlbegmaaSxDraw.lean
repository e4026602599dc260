/-
  Regions that draw their order: plain operations may be taken ahead; then quiet ones, of which each yields one value in every world that the state describes; then the rest in its only order.
-/
import Derived.Test.YtnbfdncmlbegmaaSxMem
set_option linter.unusedVariables false
set_option linter.unusedSimpArgs false
namespace Go.SX
open Go Go.RowKit

section
variable {P : Program} {ops : Array Oper} {md : Region.Mode} {C : World → Prop}

/-! ### The head, quiet in a class of worlds, and a tail with one order -/

/-- Of what has come up all that it waits for has; from n on nothing has come up. -/
structure HInv (md : Region.Mode) (ops : Array Oper) (n : Nat) (base listed : Array Bool) : Prop where
  size : listed.size = ops.size
  closed : ∀ j oj, ops[j]? = some oj → listed.getD j false = true → ∀ e ∈ oj.after, Region.binds md e = true → listed.getD e.on false = true
  tail : ∀ t, n ≤ t → t < ops.size → listed.getD t true = false
  above : ∀ j, base.getD j false = true → listed.getD j false = true

def sinkD (md : Region.Mode) (ops : Array Oper) (base : Array Bool) (n : Nat) : Bool :=
  (List.range n).all fun i => base.getD i false || (List.range (n + 1)).any fun j => decide (i < j) && Region.waitsFor md ops j i

theorem HInv.set {n i : Nat} {base listed : Array Bool} (inv : HInv md ops n base listed) (hi : i ∈ Region.ready md ops listed) (hin : i < n) : HInv md ops n base (listed.setIfInBounds i true) := by
  obtain ⟨_, oi, hoi, hall⟩ := mem_ready.1 hi
  refine ⟨by simp [inv.size], fun j oj hj hl e he hb => ?_, fun t ht ht' => by rw [getD_set_ne true (by omega)]; exact inv.tail t ht ht', fun j hj => ?_⟩
  · by_cases hij : i = j
    · subst hij
      have : oj = oi := Option.some.inj (hj.symm.trans hoi)
      subst this
      exact getD_set_true (hall e he hb)
    · rw [getD_set_ne false hij] at hl
      exact getD_set_true (inv.closed j oj hj hl e he hb)
  · exact getD_set_true (inv.above j hj)

theorem tail_waitsD {n : Nat} {base listed : Array Bool} (hs : sinkD md ops base n = true) (hc : Region.chainB md ops n = true) (hn : n < ops.size) (inv : HInv md ops n base listed) :
    ∀ (d i : Nat), n - i = d → i < n → listed.getD i true = false → ∀ t, n ≤ t → t ∉ Region.ready md ops listed := by
  intro d
  induction d using Nat.strongRecOn with
  | _ d ih =>
    intro i hd hi hun t ht hr
    obtain ⟨_, ot, hot, hall⟩ := mem_ready.1 hr
    have htlt : t < ops.size := (Array.getElem?_eq_some_iff.1 hot).1
    by_cases htn : t = n
    · subst htn
      have h1 := List.all_eq_true.1 hs i (List.mem_range.2 hi)
      simp only [Bool.or_eq_true] at h1
      rcases h1 with h1 | h1
      · have := inv.above i h1
        rw [getD_both hun] at this; cases this
      obtain ⟨j, hj, hj2⟩ := List.any_eq_true.1 h1
      simp only [Bool.and_eq_true, decide_eq_true_eq] at hj2
      obtain ⟨oj, hoj, e, he, hb, hon⟩ := Region.waitsFor_spec hj2.2
      have hjle : j ≤ t := by have := List.mem_range.1 hj; omega
      by_cases hjt : j = t
      · subst hjt
        have : oj = ot := Option.some.inj (hoj.symm.trans hot)
        subst this
        have h2 := hall e he hb
        rw [hon, getD_both hun] at h2
        cases h2
      · cases hl : listed.getD j false with
        | true =>
          have h2 := inv.closed j oj hoj hl e he hb
          rw [hon, getD_both hun] at h2
          cases h2
        | false =>
          have hjs : j < listed.size := by rw [inv.size]; omega
          exact ih (t - j) (by omega) j rfl (by omega) (getD_in hjs hl) t (Nat.le_refl _) hr
    · have h1 := List.all_eq_true.1 hc t (List.mem_range.2 htlt)
      simp only [Bool.or_eq_true, decide_eq_true_eq] at h1
      rcases h1 with h1 | h1
      · omega
      · obtain ⟨o', ho', e, he, hb, hon⟩ := Region.waitsFor_spec h1
        have : o' = ot := Option.some.inj (ho'.symm.trans hot)
        subst this
        have h2 := hall e he hb
        rw [hon, getD_both (inv.tail (t - 1) (by omega) (by omega))] at h2
        cases h2

def wpHead (P : Program) (md : Region.Mode) (ops : Array Oper) (C : World → Prop) (n : Nat) (L : Array Bool → Act → Prop) : Nat → Array Bool → Act → Prop
  | 0, listed, a => L listed a
  | f + 1, listed, a =>
    Region.ready md ops listed ≠ [] ∧ ∀ i ∈ Region.ready md ops listed, i < n ∧ qOp P ops C i (wpHead P md ops C n L f (listed.setIfInBounds i true)) a

theorem wpAny_of_wpHead {n g : Nat} {L : Array Bool → Act → Prop} {Q' : Exit → Act → World → Prop} (hL : ∀ listed a w, C w → L listed a → wpAny P md ops Q' g listed a w) :
    ∀ (f : Nat) (listed : Array Bool) (a : Act) (w : World), C w → wpHead P md ops C n L f listed a → wpAny P md ops Q' (f + g) listed a w
  | 0, listed, a, w, hw, h => by rw [Nat.zero_add]; exact hL _ _ _ hw h
  | f + 1, listed, a, w, hw, h => by
    rw [show f + 1 + g = (f + g) + 1 by omega]
    exact ⟨fun h0 => absurd h0 h.1, fun i hi => wpOp_of_qOp hw (fun a' w' hw' h' => wpAny_of_wpHead hL f _ a' w' hw' h') (h.2 i hi).2⟩

theorem wpHead_first {n i : Nat} {oi : Oper} {v : Value} {base : Array Bool} {L : Array Bool → Act → Prop} (hi : ops[i]? = some oi) (hsel : ∀ (j : Nat) (o : Oper) cs b, ops[j]? = some o → o.op ≠ .select cs b)
    (hs : sinkD md ops base n = true) (hc : Region.chainB md ops n = true) (hn : n < ops.size) (hin : i < n)
    (hdone : ∀ listed a, L listed a → ∀ j ∈ Region.ready md ops listed, n ≤ j) :
    ∀ (f : Nat) (listed : Array Bool) (a : Act), HInv md ops n base listed →
      (∀ j oj, ops[j]? = some oj → j ≠ i → listed.getD j true = false → (∀ e ∈ oj.after, Region.binds md e = true → e.on ≠ i) → oi.apart ops oj = true) →
      i ∈ Region.ready md ops listed → YieldsIn P ops C oi v a →
      wpHead P md ops C n L f (listed.setIfInBounds i true) (a.put oi.dst v) → wpHead P md ops C n L (f + 1) listed a := by
  intro f
  induction f with
  | zero =>
    intro listed a inv _ hr hy H
    have hun := (mem_ready.1 hr).1
    refine ⟨fun h => (by rw [h] at hr; cases hr), fun j hj => ?_⟩
    have hjn : j < n := by
      rcases Nat.lt_or_ge j n with h | h
      · exact h
      · exact absurd hj (tail_waitsD hs hc hn inv _ i rfl hin hun j h)
    refine ⟨hjn, ?_⟩
    by_cases hji : j = i
    · subst hji; exact hy.qOp hi H
    · have := hdone _ _ H j (ready_mono hj hji)
      omega
  | succ f ih =>
    intro listed a inv hfree hr hy H
    have hun := (mem_ready.1 hr).1
    refine ⟨fun h => (by rw [h] at hr; cases hr), fun j hj => ?_⟩
    have hjn : j < n := by
      rcases Nat.lt_or_ge j n with h | h
      · exact h
      · exact absurd hj (tail_waitsD hs hc hn inv _ i rfl hin hun j h)
    refine ⟨hjn, ?_⟩
    by_cases hji : j = i
    · subst hji; exact hy.qOp hi H
    · have h1 := (H.2 j (ready_mono hj hji)).2
      obtain ⟨hjun, oj, hoj, hall⟩ := mem_ready.1 hj
      have hnot : ∀ e ∈ oj.after, Region.binds md e = true → e.on ≠ i := fun e he hb heq => by
        have h1 := hall e he hb
        rw [heq, getD_both hun] at h1
        cases h1
      have h2 := qOp_put hoj (hfree j oj hoj hji hjun hnot) (fun cs b => hsel i oi cs b hi) (fun cs b => hsel j oj cs b hoj) hy h1
      have hfree' : ∀ k ok, ops[k]? = some ok → k ≠ i → (listed.setIfInBounds j true).getD k true = false →
          (∀ e ∈ ok.after, Region.binds md e = true → e.on ≠ i) → oi.apart ops ok = true := fun k ok hk hki hun hno => by
        refine hfree k ok hk hki ?_ hno
        by_cases hjk : j = k
        · subst hjk; exact hjun
        · rw [getD_set_ne true hjk] at hun; exact hun
      refine qOp_mono (fun a' h3 => ih (listed.setIfInBounds j true) a' (inv.set hj hjn) hfree' (ready_mono hr (Ne.symm hji)) h3.1 ?_) h2
      rw [Array.setIfInBounds_comm _ _ hji]
      exact h3.2

/-- the head in the order H, then the tail from n on in its only order -/
def headB (md : Region.Mode) (ops : Array Oper) (n g : Nat) : List Nat → Array Bool → Bool
  | [], listed => Region.seqB md ops g n listed
  | k :: H, listed => decide (k < n) && (Region.ready md ops listed).contains k && Region.free md ops listed k && headB md ops n g H (listed.setIfInBounds k true)

def pickL (ops : Array Oper) : List Nat → List Oper
  | [] => []
  | i :: l => match ops[i]? with
    | some o => o :: pickL ops l
    | none => pickL ops l

theorem wpHead_lex {n g : Nat} {base : Array Bool} {Lq : Act → Prop} (hsel : Region.noSelect ops = true) (hs : sinkD md ops base n = true) (hc : Region.chainB md ops n = true) (hn : n < ops.size) :
    ∀ (H : List Nat) (listed : Array Bool) (a : Act), HInv md ops n base listed →
    headB md ops n g H listed = true → wpQuiet P ops C Lq (pickL ops H) a →
    wpHead P md ops C n (fun listed' a' => Region.seqB md ops g n listed' = true ∧ Lq a') H.length listed a
  | [], listed, a, _, hB, h => ⟨by simpa [headB] using hB, h⟩
  | k :: H, listed, a, inv, hB, h => by
    simp only [headB, Bool.and_eq_true, decide_eq_true_eq] at hB
    obtain ⟨⟨⟨hkn, hr⟩, hf⟩, hB'⟩ := hB
    have hr' : k ∈ Region.ready md ops listed := by simpa using hr
    obtain ⟨_, o, h0, _⟩ := mem_ready.1 hr'
    have hp : pickL ops (k :: H) = o :: pickL ops H := by simp [pickL, h0]
    rw [hp] at h
    have hst : qOp P ops C k (wpQuiet P ops C Lq (pickL ops H)) a := by unfold qOp; simp only [h0]; exact h
    obtain ⟨v, hy, hK⟩ := yieldsIn_of_qOp h0 hst
    exact wpHead_first h0 (Region.noSelect_spec hsel) hs hc hn hkn (fun listed' a' hL => seqB_ready hL.1) H.length listed a inv (Region.free_spec h0 hf) hr' hy
      (wpHead_lex hsel hs hc hn H _ _ (inv.set hr' hkn) hB' hK)

/-! ### What is taken ahead: operations that yield the same in every world -/
def takeB (md : Region.Mode) (ops : Array Oper) (n : Nat) : List Nat → Array Bool → Bool
  | [], _ => true
  | k :: T, listed => decide (k < n) && (Region.ready md ops listed).contains k && Region.free md ops listed k && takeB md ops n T (listed.setIfInBounds k true)
def markL : List Nat → Array Bool → Array Bool
  | [], l => l
  | k :: T, l => markL T (l.setIfInBounds k true)

theorem markL_inv {n : Nat} : ∀ (T : List Nat) (listed : Array Bool), takeB md ops n T listed = true → HInv md ops n #[] listed → HInv md ops n #[] (markL T listed)
  | [], listed, _, inv => inv
  | k :: T, listed, h, inv => by
    simp only [takeB, Bool.and_eq_true, decide_eq_true_eq] at h
    exact markL_inv T _ h.2 (inv.set (by simpa using h.1.1.2) h.1.1.1)

/-- plain operations, by index -/
def wpPlain (P : Program) (ops : Array Oper) (Q : Act → Prop) : List Nat → Act → Prop
  | [], a => Q a
  | i :: T, a => ∃ o v, ops[i]? = some o ∧ Yields P ops o v a ∧ wpPlain P ops Q T (a.put o.dst v)

theorem wpAny_takeL {Q' : Exit → Act → World → Prop} {n : Nat} (hsel : Region.noSelect ops = true) (hQ : ∀ c a w, ¬ Q' (.panic c) a w) : ∀ (T : List Nat) (fuel : Nat) (listed : Array Bool) (a : Act) (w : World),
    takeB md ops n T listed = true → wpPlain P ops (fun a' => wpAny P md ops Q' fuel (markL T listed) a' w) T a → wpAny P md ops Q' (T.length + fuel) listed a w
  | [], fuel, listed, a, w, _, h => by rw [List.length_nil, Nat.zero_add]; exact h
  | k :: T, fuel, listed, a, w, hB, h => by
    simp only [takeB, Bool.and_eq_true, decide_eq_true_eq] at hB
    obtain ⟨o, v, ho, hy, hr⟩ := h
    rw [List.length_cons, show T.length + 1 + fuel = (T.length + fuel) + 1 by omega]
    exact wpAny_take ho hsel hB.1.2 hB.1.1.2 (fun c a w h => absurd h (hQ c _ w)) hy (wpAny_takeL hsel hQ T fuel _ _ w hB.2 hr)

def drawB (ops : Array Oper) (n : Nat) (T H : List Nat) : Bool :=
  Region.noSelect ops && decide (n < ops.size) && decide (T.length + H.length = n) && takeB .any ops n T (Array.replicate ops.size false) && sinkD .any ops (markL T (Array.replicate ops.size false)) n && Region.chainB .any ops n &&
    headB .any ops n (ops.size - n) H (markL T (Array.replicate ops.size false))

theorem wp_draw {id : Nat} {Q' : Exit → Act → World → Prop} {a : Act} {w : World} (n : Nat) (T H : List Nat) (hm : P.follows .mixedOrders = true) (hB : drawB ops n T H = true) (hQ : ∀ c a w, ¬ Q' (.panic c) a w) (hC : C { w with drawn := w.drawn + 1 })
    (h : wpPlain P ops (fun a' => wpQuiet P ops C (fun a'' => ∀ w', C w' → wpList P ops Q' (ops.toList.drop n) a'' w') (pickL ops H) a') T a) : (Code.region id ops true).wp P Q' a w := by
  simp only [drawB, Bool.and_eq_true, decide_eq_true_eq] at hB
  obtain ⟨⟨⟨⟨⟨⟨hsel, hn⟩, hlen⟩, ht⟩, hs⟩, hc⟩, hh⟩ := hB
  refine wp_region_any hm ?_
  have inv0 : HInv .any ops n #[] (Array.replicate ops.size false) :=
    ⟨by simp, fun j oj _ hl => (by rw [getD_replicate_false] at hl; cases hl), fun t _ ht => getD_in (by simpa using ht) (getD_replicate_false _ _), fun j hj => by simp at hj⟩
  have inv1 := markL_inv T _ ht inv0
  have inv2 : HInv .any ops n (markL T (Array.replicate ops.size false)) (markL T (Array.replicate ops.size false)) := ⟨inv1.size, inv1.closed, inv1.tail, fun _ h => h⟩
  have key : ∀ a', wpQuiet P ops C (fun a'' => ∀ w', C w' → wpList P ops Q' (ops.toList.drop n) a'' w') (pickL ops H) a' →
      wpAny P .any ops Q' (H.length + (ops.size - n)) (markL T (Array.replicate ops.size false)) a' { w with drawn := w.drawn + 1 } := fun a' hq => by
    have hH := wpHead_lex (md := .any) (g := ops.size - n) hsel hs hc hn H _ a' inv2 hh hq
    refine wpAny_of_wpHead (fun listed' a'' w' hw' hL => ?_) _ _ _ _ hC hH
    have hdl : (ops.toList.drop n).length = ops.size - n := by simp
    have := wpAny_of_seq (md := .any) (Q' := Q') (ops.toList.drop n) n listed' a'' w' (fun j => by simp [List.getElem?_drop]) (by rw [hdl]; exact hL.1) (hL.2 w' hw')
    rwa [hdl] at this
  have := wpAny_takeL (Q' := Q') (n := n) hsel hQ T (H.length + (ops.size - n)) _ a { w with drawn := w.drawn + 1 } ht (wpPlain_mono key T a h)
  rw [show T.length + (H.length + (ops.size - n)) = ops.size by omega] at this
  exact this
where
  wpPlain_mono {K K' : Act → Prop} (hk : ∀ a, K a → K' a) : ∀ (T : List Nat) (a : Act), wpPlain P ops K T a → wpPlain P ops K' T a
    | [], a, h => hk a h
    | i :: T, a, ⟨o, v, h1, h2, h3⟩ => ⟨o, v, h1, h2, wpPlain_mono hk T _ h3⟩
end
end Go.SX
