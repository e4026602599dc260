/-
  Codec: what is read is what is written; nothing else is read; without the program.
-/
import Derived.Test.YtnbfdncmlbegmaaPlainE
set_option linter.unusedVariables false
namespace Go.Proofs.Ytnbfdncmlbegmaa
open Go Go.SX Go.RowKit

theorem readG_can : ∀ (b : List Int) (i : Nat) (u0 v : Int) (k : Nat), (∀ x, x ∈ b → isB x) → i ≤ 9 → readG b i u0 = some (v, k) →
    ∃ u, 0 ≤ u ∧ u < 2 * 128 ^ (9 - i) ∧ v = u0 + u * 2 ^ (7 * i) ∧ i < k ∧ b.take (k - i) = leb (9 - i) u ∧ (0 < i → 0 < u)
  | [], _, _, _, _, _, _, h => by cases h
  | c :: b, i, u0, v, k, hb, hi, h => by
    have hc := hb c List.mem_cons_self
    unfold isB at hc
    unfold readG at h
    split at h
    · cases h
    · rename_i h9
      split at h
      · rename_i h127
        have hi8 : i ≤ 8 := by omega
        obtain ⟨u', g0, g1, g2, g3, g4, g5⟩ := readG_can b (i + 1) _ v k (fun x hx => hb x (List.mem_cons_of_mem _ hx)) (by omega) h
        have g6 := g5 (by omega)
        obtain ⟨j, hj⟩ : ∃ j, 9 - (i + 1) = j := ⟨_, rfl⟩
        have hj2 : 9 - i = j + 1 := by omega
        rw [hj] at g1 g4
        rw [hj2]
        have hp : (128 : Int) ^ (j + 1) = 128 ^ j * 128 := Int.pow_succ ..
        refine ⟨c % 128 + 128 * u', by omega, ?_, ?_, by omega, ?_, fun _ => by omega⟩
        · rw [hp]; generalize (128 : Int) ^ j = X at *; omega
        · have hp7 : (2 : Int) ^ (7 * (i + 1)) = 2 ^ (7 * i) * 128 := by rw [show 7 * (i + 1) = 7 * i + 7 by omega, Int.pow_add]; rfl
          rw [g2, hp7, Int.add_mul]
          generalize (2 : Int) ^ (7 * i) = X
          rw [Int.add_assoc, Int.mul_comm X 128, ← Int.mul_assoc, Int.mul_comm u' 128]
        · rw [show k - i = (k - (i + 1)) + 1 by omega, List.take_succ_cons, g4]
          unfold leb
          rw [if_neg (by omega), show (c % 128 + 128 * u') % 128 + 128 = c by omega, show (c % 128 + 128 * u') / 128 = u' by omega]
          cases j <;> rfl
      · rename_i h127
        split at h
        · cases h
        · rename_i h0
          simp only [Option.some.injEq, Prod.mk.injEq] at h
          obtain ⟨rfl, rfl⟩ := h
          have hcm : c % 128 = c := by omega
          refine ⟨c, hc.1, ?_, by rw [hcm], by omega, ?_, fun h => by omega⟩
          · rcases Nat.lt_or_ge i 9 with h8 | h8
            · obtain ⟨j, hj⟩ : ∃ j, 9 - i = j + 1 := ⟨8 - i, by omega⟩
              rw [hj, Int.pow_succ]
              have : (0 : Int) < 128 ^ j := Int.pow_pos (by decide)
              generalize (128 : Int) ^ j = X at *; omega
            · obtain rfl : i = 9 := by omega
              simp; omega
          · rw [show i + 1 - i = 1 by omega, List.take_succ_cons, List.take_zero, leb_last (by omega)]
theorem readF_can {b : List Int} {n : Int} {k : Nat} (hb : ∀ x, x ∈ b → isB x) (h : readF b = some (n, k)) : b.take k = oneF n ∧ isI n := by
  refine ⟨?_, readF_isI hb h⟩
  unfold readF at h
  cases hr : readG b 0 0 with
  | none => rw [hr] at h; cases h
  | some x =>
    rw [hr] at h
    simp only [Option.map_some, Option.some.injEq, Prod.mk.injEq] at h
    obtain ⟨u, g0, g1, g2, g3, g4, g5⟩ := readG_can b 0 0 x.1 x.2 hb (by omega) hr
    simp only [Nat.sub_zero, Nat.mul_zero, Int.pow_zero, Int.mul_one, Int.zero_add] at g2 g4
    rw [← h.1, ← h.2, g4]
    unfold oneF
    rw [g2, zig_unzig g0]
theorem getN_can : ∀ (n : Nat) (b l r : List Int), (∀ x, x ∈ b → isB x) → getN n b = some (l, r) → b = putsF l ++ r ∧ l.length = n ∧ ∀ x, x ∈ l → isI x
  | 0, b, l, r, hb, h => by
    simp only [getN, Option.some.injEq, Prod.mk.injEq] at h
    obtain ⟨rfl, rfl⟩ := h
    exact ⟨rfl, rfl, fun x hx => by cases hx⟩
  | n + 1, b, l, r, hb, h => by
    unfold getN at h
    cases hr : readF b with
    | none => rw [hr] at h; cases h
    | some x =>
      obtain ⟨v, k⟩ := x
      rw [hr] at h
      simp only at h
      cases hg : getN n (b.drop k) with
      | none => rw [hg] at h; cases h
      | some y =>
        obtain ⟨l', r'⟩ := y
        rw [hg] at h
        simp only [Option.map_some, Option.some.injEq, Prod.mk.injEq] at h
        obtain ⟨rfl, rfl⟩ := h
        obtain ⟨g1, g2, g3⟩ := getN_can n (b.drop k) l' r' (fun x hx => hb x (List.mem_of_mem_drop hx)) hg
        obtain ⟨g4, g5⟩ := readF_can hb hr
        refine ⟨?_, by simp [g2], fun x hx => ?_⟩
        · rw [show putsF (v :: l') = oneF v ++ putsF l' by simp [putsF], List.append_assoc, ← g1, ← g4, List.take_append_drop]
        · rcases List.mem_cons.1 hx with rfl | hx
          · exact g5
          · exact g3 x hx
theorem getF_can {b l : List Int} (hb : ∀ x, x ∈ b → isB x) (h : getF b = some l) : b = putF l ∧ l.length ≤ 4000 ∧ ∀ x, x ∈ l → isI x := by
  unfold getF at h
  cases hr : readF b with
  | none => rw [hr] at h; cases h
  | some x =>
    obtain ⟨n, k⟩ := x
    rw [hr] at h
    simp only at h
    split at h
    · cases h
    · rename_i hn
      cases hg : getN n.toNat (b.drop k) with
      | none => rw [hg] at h; cases h
      | some y =>
        obtain ⟨l', r'⟩ := y
        rw [hg] at h
        cases r' with
        | cons a r' => cases h
        | nil =>
          simp only [Option.some.injEq] at h
          subst h
          obtain ⟨g1, g2, g3⟩ := getN_can _ _ _ _ (fun x hx => hb x (List.mem_of_mem_drop hx)) hg
          obtain ⟨g4, g5⟩ := readF_can hb hr
          refine ⟨?_, by omega, g3⟩
          rw [List.append_nil] at g1
          unfold putF
          rw [← g1, show ((l'.length : Nat) : Int) = n by omega, ← g4, List.take_append_drop]
theorem getF_torn {l : List Int} (h : ∀ x, x ∈ l → isI x) (hl : l.length ≤ 4000) {m : Nat} (hm : m < (putF l).length) : getF ((putF l).take m) = none := by
  cases hg : getF ((putF l).take m) with
  | none => rfl
  | some l' =>
    have hb : ∀ x, x ∈ (putF l).take m → isB x := fun x hx => putF_isB h hl x (List.mem_of_mem_take hx)
    obtain ⟨g1, g2, g3⟩ := getF_can hb hg
    have h1 := getF_putF h hl
    have h2 : putF l = putF l' ++ (putF l).drop m := by rw [← g1, List.take_append_drop]
    have h3 : (putF l).drop m ≠ [] := fun h => by rw [List.drop_eq_nil_iff] at h; omega
    rw [h2, getF_behind g3 g2 h3] at h1
    cases h1
end Go.Proofs.Ytnbfdncmlbegmaa
