/-
  Codec: what is written is read, and what is read is what is written, without the program.
-/
import Derived.Test.YtnbfdncmlbegmaaC16
set_option linter.unusedVariables false
namespace Go.Proofs.Ytnbfdncmlbegmaa
open Go Go.SX Go.RowKit

theorem readG_leb : ∀ (f i : Nat) (u v0 : Int) (rest : List Int), i + f = 9 → 0 ≤ u → u < 2 * 128 ^ f → (0 < i → 0 < u) → readG (leb f u ++ rest) i v0 = some (v0 + u * 2 ^ (7 * i), i + (leb f u).length)
  | 0, i, u, v0, rest, hi, h0, h1, hp => by
    obtain rfl : i = 9 := by omega
    have := hp (by omega)
    simp only [Int.pow_zero] at h1
    obtain rfl : u = 1 := by omega
    simp [leb, readG]
  | f + 1, i, u, v0, rest, hi, h0, h1, hp => by
    unfold leb
    split
    · rename_i hu
      rw [List.singleton_append]
      unfold readG
      rw [if_neg (by omega), if_neg (by omega), if_neg (by omega), Int.emod_eq_of_lt h0 hu]; rfl
    · rename_i hu
      rw [List.cons_append]
      unfold readG
      rw [if_neg (by omega), if_pos (by omega), readG_leb f (i + 1) (u / 128) _ rest (by omega) (by omega) ?_ (by omega)]
      · have hp7 : (2 : Int) ^ (7 * (i + 1)) = 2 ^ (7 * i) * 128 := by rw [show 7 * (i + 1) = 7 * i + 7 by omega, Int.pow_add]; rfl
        have hm : (u % 128 + 128) % 128 = u % 128 := by omega
        have hd : u = u % 128 + 128 * (u / 128) := by omega
        rw [hp7, hm, List.length_cons]
        congr 1
        refine Prod.ext ?_ (by simp only; omega)
        simp only
        generalize hpw : (2 : Int) ^ (7 * i) = P
        calc v0 + u % 128 * P + u / 128 * (P * 128) = v0 + (u % 128 + 128 * (u / 128)) * P := by rw [Int.add_mul, Int.mul_comm P 128, ← Int.mul_assoc, Int.mul_comm (u / 128) 128, Int.add_assoc]
          _ = v0 + u * P := by rw [← hd]
      · rw [Int.pow_succ, ← Int.mul_assoc] at h1
        exact Int.ediv_lt_of_lt_mul (by decide) h1
theorem readF_one {n : Int} (h : isI n) (rest : List Int) : readF (oneF n ++ rest) = some (n, (oneF n).length) := by
  have hz := zig_range h
  unfold readF oneF
  rw [readG_leb 9 0 (zig n) 0 rest rfl hz.1 (by rw [show (2 : Int) * 128 ^ 9 = 18446744073709551616 by decide]; exact hz.2) (by omega)]
  simp [unzig_zig]
theorem getN_puts : ∀ (l rest : List Int), (∀ x, x ∈ l → isI x) → getN l.length (putsF l ++ rest) = some (l, rest)
  | [], rest, _ => rfl
  | n :: l, rest, h => by
    rw [show putsF (n :: l) = oneF n ++ putsF l by simp [putsF], List.append_assoc, List.length_cons, getN, readF_one (h n List.mem_cons_self)]
    simp only [List.drop_left]
    rw [getN_puts l rest fun x hx => h x (List.mem_cons_of_mem _ hx)]
    rfl
theorem getF_putF {l : List Int} (h : ∀ x, x ∈ l → isI x) (hl : l.length ≤ 4000) : getF (putF l) = some l := by
  unfold getF putF
  rw [readF_one (by unfold isI; omega)]
  simp only [List.drop_left, Int.toNat_natCast]
  rw [if_neg (by omega)]
  have := getN_puts l [] h
  rw [List.append_nil] at this
  rw [this]
theorem getF_behind {l : List Int} (h : ∀ x, x ∈ l → isI x) (hl : l.length ≤ 4000) {rest : List Int} (hr : rest ≠ []) : getF (putF l ++ rest) = none := by
  unfold getF putF
  rw [List.append_assoc, readF_one (by unfold isI; omega)]
  simp only [List.drop_left, Int.toNat_natCast]
  rw [if_neg (by omega), getN_puts l rest h]
  cases rest with
  | nil => exact absurd rfl hr
  | cons a b => rfl
end Go.Proofs.Ytnbfdncmlbegmaa
