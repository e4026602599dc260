/-
  Instruments: the laws, without the program.
-/
import Derived.Test.YtpbohhfpbjofaaaDoorPlainI
set_option linter.unusedVariables false
namespace Go.Proofs.YtpbohhfpbjofaaaDoor
open Go Go.SX

theorem addF_cases (p : Pit) (a b : Int) : addF p a b = ((addF p a b).1, (addF p a b).2) := rfl
theorem write_back {a b k : Int} {lo hi c : Pit} (h : (writeF a b lo hi k c).2 = 0) : soundF a b lo hi k (writeF a b lo hi k c).1 = (c, 0) ∧ validP (writeF a b lo hi k c).1 = true := by
  cases hv : (okI a b lo hi k && validP c) with
  | false => rw [writeF_no hv] at h; simp at h
  | true =>
    rw [writeF_yes hv] at h ⊢
    have e : addF c (mvI a b k).2.1 (mvI a b k).2.2 = ((addF c (mvI a b k).2.1 (mvI a b k).2.2).1, 0) := Prod.ext rfl h
    have hx := (addF_ok e).2.2.1
    simp only [Bool.and_eq_true] at hv
    exact ⟨by rw [soundF_yes (by rw [hv.1, hx]; rfl)]; exact addF_back e, hx⟩
theorem sound_back {a b k : Int} {lo hi c : Pit} (h : (soundF a b lo hi k c).2 = 0) : writeF a b lo hi k (soundF a b lo hi k c).1 = (c, 0) := by
  cases hv : (okI a b lo hi k && validP c) with
  | false => rw [soundF_no hv] at h; simp at h
  | true =>
    rw [soundF_yes hv] at h ⊢
    have e : addF c (-(mvI a b k).2.1) (-(mvI a b k).2.2) = ((addF c (-(mvI a b k).2.1) (-(mvI a b k).2.2)).1, 0) := Prod.ext rfl h
    have hx := (addF_ok e).2.2.1
    simp only [Bool.and_eq_true] at hv
    have := addF_back e
    rw [Int.neg_neg, Int.neg_neg] at this
    rw [writeF_yes (by rw [hv.1, hx]; rfl)]; exact this
theorem sound_err {a b k : Int} {lo hi c : Pit} (h : (soundF a b lo hi k c).2 ≠ 0) : (soundF a b lo hi k c).1 = (0, 0, 0) := by
  cases hv : (okI a b lo hi k && validP c) with
  | false => rw [soundF_no hv]
  | true => rw [soundF_yes hv] at h ⊢; exact addF_err h
theorem ok_key {a b k : Int} {lo hi : Pit} (h : okI a b lo hi k = true) : -7 ≤ k ∧ k ≤ 7 := by
  obtain ⟨t, _, _, _, _, _, h6, _⟩ := ok_fact h
  exact within_iff.1 h6
/-- a pitch with a small alter and an octave from -2 to 11 can be written -/
theorem write_ok {a b k : Int} {lo hi c : Pit} (hok : okI a b lo hi k = true) (hc : validP c = true) (ha : -2 ≤ c.2.1 ∧ c.2.1 ≤ 2) (ho : -2 ≤ c.2.2 ∧ c.2.2 ≤ 11) : writeF a b lo hi k c = (addP c (mvI a b k).2.1 (mvI a b k).2.2, 0) := by
  obtain ⟨t, h1, h2, h3, h4, h5, h6, h7⟩ := ok_fact hok
  have hk := within_iff.1 h6
  have hw := written_iff.1 h7
  have hs := (validP_iff.1 hc).1
  rw [writeF_yes (by rw [hok, hc]; rfl), h2]
  refine addF_of hc h5 (validP_iff.2 ⟨add_step _ _ _, ?_, ?_⟩)
  · have := add_alter (p := c) (a := -a + t) (b := -b) (d := 7 * -b - 12 * (-a + t)) hs rfl (by omega)
    simp only; omega
  · have := add_oct (p := c) (a := -a + t) (b := -b) hs (by omega)
    simp only; omega
theorem tm12 {n : Int} (t : Int) (h : n = 12 * t) : n.tmod 12 = 0 := by subst h; exact Int.mul_tmod_right 12 t
theorem written_plain {a b : Int} {lo hi : Pit} (h : writtenF a b lo hi = true) : writtenF 0 0 lo hi = true := by
  have := written_iff.1 h
  exact written_iff.2 ⟨⟨by decide, by omega, by omega, by omega⟩, this.2⟩
theorem ok_plain {a b k : Int} {lo hi : Pit} (h : okI a b lo hi k = true) : keyF 0 0 lo hi k = (k, 0) := by
  obtain ⟨t, _, _, _, _, _, h6, h7⟩ := ok_fact h
  have hok : okI 0 0 lo hi k = true := by unfold okI; rw [written_plain h7, h6]; rfl
  have hk := within_iff.1 h6
  obtain ⟨t, h1, h2, h3, h4, _, _, _⟩ := ok_fact hok
  have e : moveF k (-0) (-0) = (k, 0, 0, 0) := by
    rw [show (-0 : Int) = 0 from rfl, moveF_yes (by rw [h6]; decide)]
    have : turns (7 * 0 - 12 * 0 + k) = 0 := by unfold turns; rw [if_neg (by omega), if_neg (by omega)]
    rw [this]; congr 1; omega
  rw [keyF_yes hok]; unfold mvI; rw [e]
def betW (p q : Pit) : Int × Int × Int := if (validP p && validP q) = true then checkedF (placeN q - placeN p) (numF q - numF p) else (0, 0, 1)
theorem bet_of {a b : Int} {p : Pit} (hp : validP p = true) (hq : validP (addP p a b) = true) (hf : formed a b = true) : betW p (addP p a b) = (a, b, 0) := by
  unfold betW
  rw [if_pos (by rw [hp, hq]; rfl), add_place, add_num, show placeN p + a - placeN p = a by omega, show numF p + b - numF p = b by omega, checkedF_yes hf]
end Go.Proofs.YtpbohhfpbjofaaaDoor
