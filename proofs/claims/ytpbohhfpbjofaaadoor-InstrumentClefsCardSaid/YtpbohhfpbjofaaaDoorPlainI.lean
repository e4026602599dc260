/-
  Instruments: what the functions compute, without the program.
-/
import Derived.Test.YtpbohhfpbjofaaaDoorK9
import Derived.Test.YtpbohhfpbjofaaaDoorK3
set_option linter.unusedVariables false
namespace Go.Proofs.YtpbohhfpbjofaaaDoor
open Go Go.SX

theorem alter_bound (k s : Int) : -1 ≤ alterF k s ∧ alterF k s ≤ 1 := by unfold alterF; split <;> (try split) <;> omega
/-- a key moved: its fifths, how far its interval is turned -/
theorem move_fact {k a b : Int} (hk : isKey k = true) (hf : formed a b = true) : ∃ t, moveF k a b = (7 * b - 12 * (a + t) + k, a + t, b, 0) ∧ (-7 ≤ 7 * b - 12 * (a + t) + k ∧ 7 * b - 12 * (a + t) + k ≤ 7) ∧ (t = 0 ∨ 0 < t ∧ 7 < 7 * b - 12 * a + k ∧ -4 ≤ 7 * b - 12 * (a + t) + k ∨ t < 0 ∧ 7 * b - 12 * a + k < -7 ∧ 7 * b - 12 * (a + t) + k ≤ 4) := by
  have hkb := within_iff.1 hk
  have hfb := formed_iff.1 hf
  have ht : ∃ t, turns (7 * b - 12 * a + k) = t ∧ -7 ≤ 7 * b - 12 * (a + t) + k ∧ 7 * b - 12 * (a + t) + k ≤ 7 ∧ (t = 0 ∨ 0 < t ∧ 7 < 7 * b - 12 * a + k ∧ -4 ≤ 7 * b - 12 * (a + t) + k ∨ t < 0 ∧ 7 * b - 12 * a + k < -7 ∧ 7 * b - 12 * (a + t) + k ≤ 4) := by
    refine ⟨_, rfl, ?_⟩
    unfold turns
    split
    · omega
    · split <;> omega
  obtain ⟨t, ht, h1, h2, h3⟩ := ht
  refine ⟨t, ?_, ⟨h1, h2⟩, h3⟩
  rw [moveF_yes (by rw [hf, hk]; rfl), ht]
  congr 1; omega
theorem move_bad {k a b : Int} (hk : isKey k = false) : moveF k a b = (0, 0, 0, 1) := moveF_no (by rw [hk, Bool.and_false])

def numG (p : Pit) : Int := if validP p = true then numF p else 0
def writtenF (a b : Int) (lo hi : Pit) : Bool := (formed a b && (within (-21) 21 a && (within (-36) 36 b && within (-12) 12 (7 * b - 12 * a)))) && (validP lo && (validP hi && decide (numF lo ≤ numF hi)))
theorem written_iff {a b : Int} {lo hi : Pit} : writtenF a b lo hi = true ↔ (formed a b = true ∧ (-21 ≤ a ∧ a ≤ 21) ∧ (-36 ≤ b ∧ b ≤ 36) ∧ (-12 ≤ 7 * b - 12 * a ∧ 7 * b - 12 * a ≤ 12)) ∧ validP lo = true ∧ validP hi = true ∧ numF lo ≤ numF hi := by
  simp only [writtenF, Bool.and_eq_true, within_iff, decide_eq_true_eq]
def okI (a b : Int) (lo hi : Pit) (k : Int) : Bool := writtenF a b lo hi && isKey k
/-- the written key and the interval -/
def mvI (a b k : Int) : Int × Int × Int := ((moveF k (-a) (-b)).1, (moveF k (-a) (-b)).2.1, (moveF k (-a) (-b)).2.2.1)
theorem ok_fact {a b k : Int} {lo hi : Pit} (h : okI a b lo hi k = true) : ∃ t, moveF k (-a) (-b) = (7 * -b - 12 * (-a + t) + k, -a + t, -b, 0) ∧ mvI a b k = (7 * -b - 12 * (-a + t) + k, -a + t, -b) ∧ (-7 ≤ 7 * -b - 12 * (-a + t) + k ∧ 7 * -b - 12 * (-a + t) + k ≤ 7) ∧ (-1 ≤ t ∧ t ≤ 1) ∧ formed (-a + t) (-b) = true ∧ isKey k = true ∧ writtenF a b lo hi = true := by
  simp only [okI, Bool.and_eq_true] at h
  have hw := written_iff.1 h.1
  have hfb := formed_iff.1 hw.1.1
  have hf : formed (-a) (-b) = true := formed_iff.2 (by omega)
  have hkb := within_iff.1 h.2
  obtain ⟨t, h1, h2, h3⟩ := move_fact h.2 hf
  refine ⟨t, h1, by unfold mvI; rw [h1], h2, by omega, formed_iff.2 (by omega), h.2, h.1⟩
def keyF (a b : Int) (lo hi : Pit) (k : Int) : Int × Int := if okI a b lo hi k = true then ((mvI a b k).1, 0) else (0, 1)
def writeF (a b : Int) (lo hi : Pit) (k : Int) (q : Pit) : Pit × Int := if (okI a b lo hi k && validP q) = true then addF q (mvI a b k).2.1 (mvI a b k).2.2 else ((0, 0, 0), 1)
def soundF (a b : Int) (lo hi : Pit) (k : Int) (q : Pit) : Pit × Int := if (okI a b lo hi k && validP q) = true then addF q (-(mvI a b k).2.1) (-(mvI a b k).2.2) else ((0, 0, 0), 1)
def fitsF (a b : Int) (lo hi : Pit) (q : Pit) : Bool × Int := if (writtenF a b lo hi && validP q) = true then (decide (numF lo ≤ numF q) && decide (numF q ≤ numF hi), 0) else (false, 1)
theorem keyF_yes {a b k : Int} {lo hi : Pit} (h : okI a b lo hi k = true) : keyF a b lo hi k = ((mvI a b k).1, 0) := if_pos h
theorem keyF_no {a b k : Int} {lo hi : Pit} (h : okI a b lo hi k = false) : keyF a b lo hi k = (0, 1) := if_neg (by rw [h]; decide)
theorem writeF_yes {a b k : Int} {lo hi q : Pit} (h : (okI a b lo hi k && validP q) = true) : writeF a b lo hi k q = addF q (mvI a b k).2.1 (mvI a b k).2.2 := if_pos h
theorem writeF_no {a b k : Int} {lo hi q : Pit} (h : (okI a b lo hi k && validP q) = false) : writeF a b lo hi k q = ((0, 0, 0), 1) := if_neg (by rw [h]; decide)
theorem soundF_yes {a b k : Int} {lo hi q : Pit} (h : (okI a b lo hi k && validP q) = true) : soundF a b lo hi k q = addF q (-(mvI a b k).2.1) (-(mvI a b k).2.2) := if_pos h
theorem soundF_no {a b k : Int} {lo hi q : Pit} (h : (okI a b lo hi k && validP q) = false) : soundF a b lo hi k q = ((0, 0, 0), 1) := if_neg (by rw [h]; decide)
theorem fitsF_yes {a b : Int} {lo hi q : Pit} (h : (writtenF a b lo hi && validP q) = true) : fitsF a b lo hi q = (decide (numF lo ≤ numF q) && decide (numF q ≤ numF hi), 0) := if_pos h
theorem fitsF_no {a b : Int} {lo hi q : Pit} (h : (writtenF a b lo hi && validP q) = false) : fitsF a b lo hi q = (false, 1) := if_neg (by rw [h]; decide)
theorem num_bound {p : Pit} (h : validP p = true) : -200 ≤ numF p ∧ numF p ≤ 300 := by
  have h1 := validP_iff.1 h
  have h2 := nat_bound h1.1
  unfold numF; omega
theorem place_bound' {p : Pit} (h : validP p = true) : -60 ≤ placeN p ∧ placeN p ≤ 150 := by
  have h1 := validP_iff.1 h
  unfold placeN; omega

/-! ### Pitches moved -/
theorem add_place (p : Pit) (a b : Int) : placeN (addP p a b) = placeN p + a := by simp only [placeN, addP]; omega
theorem add_num (p : Pit) (a b : Int) : numF (addP p a b) = numF p + b := by simp only [numF, addP]; omega
theorem add_step (p : Pit) (a b : Int) : 0 ≤ (addP p a b).1 ∧ (addP p a b).1 ≤ 6 := by simp only [addP]; omega
theorem addP_back {p : Pit} (h : 0 ≤ p.1 ∧ p.1 ≤ 6) (a b : Int) : addP (addP p a b) (-a) (-b) = p := by
  obtain ⟨s, al, o⟩ := p
  have e1 : placeN (addP (s, al, o) a b) + -a = 7 * o + s := by rw [add_place]; simp only [placeN]; omega
  have e2 : numF (addP (s, al, o) a b) + -b = 12 * o + natF s + al := by rw [add_num]; simp only [numF]; omega
  have e3 : (7 * o + s) % 7 = s := by simp only at h; omega
  have e4 : (7 * o + s) / 7 = o := by simp only at h; omega
  unfold addP at e1 e2 ⊢
  rw [e1, e2, e3, e4]
  simp only [numF, Prod.mk.injEq, true_and, and_true]; omega
theorem addF_ok {p q : Pit} {a b : Int} (h : addF p a b = (q, 0)) : validP p = true ∧ formed a b = true ∧ validP q = true ∧ q = addP p a b := by
  cases hvf : (validP p && formed a b) with
  | false => rw [addF_bad hvf] at h; simp at h
  | true =>
    have hv := hvf
    simp only [Bool.and_eq_true] at hv
    by_cases h0 : a = 0 ∧ b = 0
    · rw [addF_same hvf h0] at h
      obtain ⟨rfl, _⟩ := Prod.mk.inj h
      refine ⟨hv.1, hv.2, hv.1, ?_⟩
      have h1 := validP_iff.1 hv.1
      have h2 : (7 * p.2.2 + p.1) % 7 = p.1 := by omega
      have h3 : (7 * p.2.2 + p.1) / 7 = p.2.2 := by omega
      unfold addP
      rw [h0.1, h0.2]
      simp only [placeN, Int.add_zero, h2, h3, numF]
      obtain ⟨s, al, o⟩ := p
      simp only [Prod.mk.injEq, true_and, and_true]; omega
    · cases h3 : validP (addP p a b) with
      | false => rw [addF_out hvf h0 h3] at h; simp at h
      | true => rw [addF_yes hvf h0 h3] at h; obtain ⟨rfl, _⟩ := Prod.mk.inj h; exact ⟨hv.1, hv.2, h3, rfl⟩
theorem addF_of {p : Pit} {a b : Int} (h1 : validP p = true) (h2 : formed a b = true) (h3 : validP (addP p a b) = true) : addF p a b = (addP p a b, 0) := by
  have hvf : (validP p && formed a b) = true := by rw [h1, h2]; rfl
  by_cases h0 : a = 0 ∧ b = 0
  · rw [addF_same hvf h0]
    have h4 := validP_iff.1 h1
    have h5 : (7 * p.2.2 + p.1) % 7 = p.1 := by omega
    have h6 : (7 * p.2.2 + p.1) / 7 = p.2.2 := by omega
    unfold addP
    rw [h0.1, h0.2]
    simp only [placeN, Int.add_zero, h5, h6, numF]
    obtain ⟨s, al, o⟩ := p
    simp only [Prod.mk.injEq, true_and, and_true]; omega
  · exact addF_yes hvf h0 h3
theorem addF_err {p : Pit} {a b : Int} (h : (addF p a b).2 ≠ 0) : (addF p a b).1 = (0, 0, 0) := by
  cases hvf : (validP p && formed a b) with
  | false => rw [addF_bad hvf]
  | true =>
    by_cases h0 : a = 0 ∧ b = 0
    · rw [addF_same hvf h0] at h; exact absurd rfl h
    · cases h3 : validP (addP p a b) with
      | false => rw [addF_out hvf h0 h3]
      | true => rw [addF_yes hvf h0 h3] at h; exact absurd rfl h
/-- what was moved is moved back -/
theorem addF_back {p q : Pit} {a b : Int} (h : addF p a b = (q, 0)) : addF q (-a) (-b) = (p, 0) := by
  obtain ⟨h1, h2, h3, rfl⟩ := addF_ok h
  have hf : formed (-a) (-b) = true := by have := formed_iff.1 h2; exact formed_iff.2 (by omega)
  have he := addP_back (validP_iff.1 h1).1 a b
  rw [addF_of h3 hf (by rw [he]; exact h1), he]
theorem fifth_all : ∀ (s : Fin 7), -1 ≤ 7 * natF s.val - 12 * s.val ∧ 7 * natF s.val - 12 * s.val ≤ 5 := by decide
theorem fifth_bound {s : Int} (hs : 0 ≤ s ∧ s ≤ 6) : -1 ≤ 7 * natF s - 12 * s ∧ 7 * natF s - 12 * s ≤ 5 := by
  have := fifth_all ⟨s.toNat, by omega⟩
  simp only [show ((s.toNat : Nat) : Int) = s by omega] at this
  exact this
/-- a pitch that is altered little stays within reach -/
theorem add_alter {p : Pit} {a b d : Int} (hs : 0 ≤ p.1 ∧ p.1 ≤ 6) (hd : 7 * b - 12 * a = d) (hdb : -14 ≤ d ∧ d ≤ 14) : p.2.1 - 2 ≤ (addP p a b).2.1 ∧ (addP p a b).2.1 ≤ p.2.1 + 2 := by
  have h1 := add_place p a b
  have h2 := add_num p a b
  have h3 := add_step p a b
  have h4 := fifth_bound hs
  have h5 := fifth_bound h3
  simp only [placeN, numF] at h1 h2
  omega
theorem add_oct {p : Pit} {a b : Int} (hs : 0 ≤ p.1 ∧ p.1 ≤ 6) (ha : -28 ≤ a ∧ a ≤ 28) : p.2.2 - 4 ≤ (addP p a b).2.2 ∧ (addP p a b).2.2 ≤ p.2.2 + 4 := by
  have h1 := add_place p a b
  have h3 := add_step p a b
  simp only [placeN] at h1
  omega
theorem win_all : ∀ (q : Fin 15) (s : Fin 7), -1 ≤ 7 * natF s.val - 12 * s.val + 7 * alterF ((q.val : Int) - 7) s.val - ((q.val : Int) - 7) ∧ 7 * natF s.val - 12 * s.val + 7 * alterF ((q.val : Int) - 7) s.val - ((q.val : Int) - 7) ≤ 5 := by decide
theorem win {k s : Int} (hk : -7 ≤ k ∧ k ≤ 7) (hs : 0 ≤ s ∧ s ≤ 6) : -1 ≤ 7 * natF s - 12 * s + 7 * alterF k s - k ∧ 7 * natF s - 12 * s + 7 * alterF k s - k ≤ 5 := by
  have := win_all ⟨(k + 7).toNat, by omega⟩ ⟨s.toNat, by omega⟩
  simp only [show (((k + 7).toNat : Nat) : Int) - 7 = k by omega, show ((s.toNat : Nat) : Int) = s by omega] at this
  exact this
theorem scale_alter {k k1 a1 b s o : Int} (hk : -7 ≤ k ∧ k ≤ 7) (hk1 : -7 ≤ k1 ∧ k1 ≤ 7) (hf : 7 * b - 12 * a1 = k1 - k) (hs : 0 ≤ s ∧ s ≤ 6) : (addP (s, alterF k s, o) a1 b).2.1 = alterF k1 (addP (s, alterF k s, o) a1 b).1 := by
  have h1 := add_place (s, alterF k s, o) a1 b
  have h2 := add_num (s, alterF k s, o) a1 b
  have h3 := add_step (s, alterF k s, o) a1 b
  have h4 := win hk hs
  have h5 := win hk1 h3
  simp only [placeN, numF] at h1 h2
  omega
end Go.Proofs.YtpbohhfpbjofaaaDoor
