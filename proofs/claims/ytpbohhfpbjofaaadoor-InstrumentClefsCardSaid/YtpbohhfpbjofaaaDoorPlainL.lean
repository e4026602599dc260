/-
  Clefs: what the functions compute, without the program.
-/
import Derived.Test.YtpbohhfpbjofaaaDoorPlainI
set_option linter.unusedVariables false
namespace Go.Proofs.YtpbohhfpbjofaaaDoor
open Go Go.SX

def mx3 (a b c : Int) : Int := if c > (if b > a then b else a) then c else (if b > a then b else a)
def lowOf (c : Nat) : Int := [30, 24, 22, 18].getD (c - 1) 0
/-- ledger lines of a pitch over or under the lines from lo -/
def led (lo : Int) (p : Pit) : Int := mx3 0 ((lo - placeN p).tdiv 2) ((placeN p - (lo + 8)).tdiv 2)
def linesF (lo : Int) : List Pit → Int
  | [] => 0
  | p :: l => led lo p + linesF lo l
theorem linesF_app (lo : Int) : ∀ l m : List Pit, linesF lo (l ++ m) = linesF lo l + linesF lo m
  | [], m => by simp [linesF]
  | p :: l, m => by simp only [List.cons_append, linesF, linesF_app lo l m]; omega
theorem linesF_snoc (lo : Int) (l : List Pit) {i : Nat} (h : i < l.length) : linesF lo (l.take (i + 1)) = linesF lo (l.take i) + led lo l[i] := by
  rw [List.take_add_one, List.getElem?_eq_getElem h, Option.toList_some, linesF_app]; simp [linesF]
theorem tdiv2 (n : Int) : n.tdiv 2 = if 0 ≤ n then n / 2 else -(-n / 2) := by
  split
  · rename_i h; exact Int.tdiv_eq_ediv_of_nonneg h
  · rename_i h
    obtain ⟨m, rfl⟩ : ∃ m : Int, n = -m := ⟨-n, by omega⟩
    rw [Int.neg_tdiv, Int.tdiv_eq_ediv_of_nonneg (by omega), Int.neg_neg]
theorem tdiv2_bound {n : Int} (h : -100000 ≤ n ∧ n ≤ 100000) : -100000 ≤ n.tdiv 2 ∧ n.tdiv 2 ≤ 100000 := by rw [tdiv2]; split <;> omega
theorem led_eq (lo : Int) (p : Pit) : led lo p = if placeN p < lo then (lo - placeN p) / 2 else if lo + 8 < placeN p then (placeN p - lo - 8) / 2 else 0 := by
  unfold led mx3
  rw [tdiv2, tdiv2]
  repeat' split
  all_goals omega
theorem low_bound (c : Nat) : 0 ≤ lowOf c ∧ lowOf c ≤ 30 := by
  rcases Nat.lt_or_ge (c - 1) 4 with h | h
  · have : c - 1 = 0 ∨ c - 1 = 1 ∨ c - 1 = 2 ∨ c - 1 = 3 := by omega
    unfold lowOf
    rcases this with h | h | h | h <;> rw [h] <;> decide
  · unfold lowOf
    rw [List.getD_eq_getElem?_getD, List.getElem?_eq_none (by simpa using h)]; decide
theorem low_one {c : Nat} (h : 1 ≤ c ∧ c ≤ 4) : 18 ≤ lowOf c := by
  have : c = 1 ∨ c = 2 ∨ c = 3 ∨ c = 4 := by omega
  rcases this with rfl | rfl | rfl | rfl <;> decide
theorem led_bound {lo : Int} {p : Pit} (h : validP p = true) (hl : 0 ≤ lo ∧ lo ≤ 30) : 0 ≤ led lo p ∧ led lo p ≤ 100 := by
  have := place_bound' h
  rw [led_eq]
  repeat' split
  all_goals omega
theorem lines_bound {lo : Int} (hl : 0 ≤ lo ∧ lo ≤ 30) : ∀ {l : List Pit}, l.all validP = true → 0 ≤ linesF lo l ∧ linesF lo l ≤ 100 * l.length
  | [], _ => by simp [linesF]
  | p :: l, h => by
    simp only [List.all_cons, Bool.and_eq_true] at h
    have h1 := led_bound h.1 hl
    have h2 := lines_bound hl h.2
    simp only [linesF, List.length_cons]; omega
theorem take_bound {lo : Int} (hl : 0 ≤ lo ∧ lo ≤ 30) {l : List Pit} (h : l.all validP = true) (hn : l.length ≤ 20000) (i : Nat) : 0 ≤ linesF lo (l.take i) ∧ linesF lo (l.take i) ≤ 2000000 := by
  have h1 := lines_bound hl (l := l.take i) (by rw [List.all_eq_true] at h ⊢; exact fun x hx => h x (List.mem_of_mem_take hx))
  have h2 : (l.take i).length ≤ l.length := by rw [List.length_take]; omega
  omega
/-- the best of the clefs from 1 to n + 1 -/
def bestN (L : Nat → Int) : Nat → Nat
  | 0 => 1
  | n + 1 => if L (n + 2) < L (bestN L n) then n + 2 else bestN L n
theorem bestN_range (L : Nat → Int) : ∀ n, 1 ≤ bestN L n ∧ bestN L n ≤ n + 1
  | 0 => by simp [bestN]
  | n + 1 => by have := bestN_range L n; unfold bestN; split <;> omega
theorem bestN_le (L : Nat → Int) : ∀ n k, 1 ≤ k → k ≤ n + 1 → L (bestN L n) ≤ L k ∧ (k < bestN L n → L (bestN L n) < L k)
  | 0, k, h1, h2 => by obtain rfl : k = 1 := by omega
                       simp [bestN]
  | n + 1, k, h1, h2 => by
    have hr := bestN_range L n
    have hb := fun hk => bestN_le L n k h1 hk
    unfold bestN
    split
    · rename_i hlt
      rcases Nat.lt_or_ge k (n + 2) with h | h
      · have := hb (by omega)
        exact ⟨by omega, fun _ => by omega⟩
      · obtain rfl : k = n + 2 := by omega
        exact ⟨Int.le_refl _, fun h => by omega⟩
    · rename_i hge
      rcases Nat.lt_or_ge k (n + 2) with h | h
      · exact hb (by omega)
      · obtain rfl : k = n + 2 := by omega
        exact ⟨by omega, fun h => by omega⟩
def linesL (l : List Pit) (c : Nat) : Int := linesF (lowOf c) l
def clefF (l : List Pit) : Int × Int := if 20000 < l.length then (0, 2) else if l.all validP = true then ((bestN (linesL l) 3 : Nat), 0) else (0, 1)
theorem clefF_long {l : List Pit} (h : 20000 < l.length) : clefF l = (0, 2) := if_pos h
theorem clefF_bad {l : List Pit} (h : l.length ≤ 20000) (h2 : l.all validP = false) : clefF l = (0, 1) := by unfold clefF; rw [if_neg (by omega), if_neg (by rw [h2]; decide)]
theorem clefF_yes {l : List Pit} (h : l.length ≤ 20000) (h2 : l.all validP = true) : clefF l = (((bestN (linesL l) 3 : Nat) : Int), 0) := by unfold clefF; rw [if_neg (by omega), if_pos h2]
def clefL : List Pit := [(1, 30, 38), (2, 24, 32), (3, 22, 30), (4, 18, 26)]
def clefT : List Pit := [(2, 24, 32), (3, 22, 30), (4, 18, 26)]
theorem clefT_get {i : Nat} (h : i < 3) : clefT[i]? = some (((i + 2 : Nat) : Int), lowOf (i + 2), lowOf (i + 2) + 8) := by
  have : i = 0 ∨ i = 1 ∨ i = 2 := by omega
  rcases this with rfl | rfl | rfl <;> rfl

/-! ### Orders, octaves -/
theorem linesF_rev (lo : Int) : ∀ l : List Pit, linesF lo l.reverse = linesF lo l
  | [] => rfl
  | p :: l => by rw [List.reverse_cons, linesF_app, linesF_rev lo l]; simp only [linesF]; omega
theorem linesL_rev (l : List Pit) : linesL l.reverse = linesL l := funext fun c => linesF_rev _ l
theorem clefF_rev (l : List Pit) : clefF l.reverse = clefF l := by
  unfold clefF
  rw [List.length_reverse, linesL_rev, List.all_reverse]
def upP (p : Pit) : Pit := (p.1, p.2.1, p.2.2 + 1)
theorem led_up (a b : Nat) (ha : 1 ≤ a) (hab : a < b) (hb : b ≤ 4) (p : Pit) : led (lowOf a) (upP p) - led (lowOf b) (upP p) ≤ led (lowOf a) p - led (lowOf b) p := by
  have hp : placeN (upP p) = placeN p + 7 := by simp only [placeN, upP]; omega
  rw [led_eq, led_eq, led_eq, led_eq, hp]
  have hc : (lowOf a = 30 ∧ (lowOf b = 24 ∨ lowOf b = 22 ∨ lowOf b = 18)) ∨ (lowOf a = 24 ∧ (lowOf b = 22 ∨ lowOf b = 18)) ∨ (lowOf a = 22 ∧ lowOf b = 18) := by
    have : (a = 1 ∧ (b = 2 ∨ b = 3 ∨ b = 4)) ∨ (a = 2 ∧ (b = 3 ∨ b = 4)) ∨ (a = 3 ∧ b = 4) := by omega
    rcases this with ⟨rfl, rfl | rfl | rfl⟩ | ⟨rfl, rfl | rfl⟩ | ⟨rfl, rfl⟩ <;> simp [lowOf]
  rcases hc with ⟨h1, h2 | h2 | h2⟩ | ⟨h1, h2 | h2⟩ | ⟨h1, h2⟩ <;> rw [h1, h2] <;> (repeat' split) <;> omega
theorem lines_up (a b : Nat) (ha : 1 ≤ a) (hab : a < b) (hb : b ≤ 4) : ∀ l : List Pit, linesL (l.map upP) a - linesL (l.map upP) b ≤ linesL l a - linesL l b
  | [] => by simp [linesL, linesF]
  | p :: l => by
    have h1 := lines_up a b ha hab hb l
    have h2 := led_up a b ha hab hb p
    simp only [linesL, List.map_cons, linesF] at h1 ⊢; omega
/-- one octave higher there is no lower clef -/
theorem best_up (l : List Pit) : bestN (linesL (l.map upP)) 3 ≤ bestN (linesL l) 3 := by
  have r1 := bestN_range (linesL l) 3
  have r2 := bestN_range (linesL (l.map upP)) 3
  rcases Nat.lt_or_ge (bestN (linesL l) 3) (bestN (linesL (l.map upP)) 3) with h | h
  · have h1 := lines_up _ _ r1.1 h (by omega) l
    have h2 := (bestN_le (linesL (l.map upP)) 3 (bestN (linesL l) 3) r1.1 r1.2).2 h
    have h3 := (bestN_le (linesL l) 3 (bestN (linesL (l.map upP)) 3) r2.1 r2.2).1
    omega
  · exact h
end Go.Proofs.YtpbohhfpbjofaaaDoor
