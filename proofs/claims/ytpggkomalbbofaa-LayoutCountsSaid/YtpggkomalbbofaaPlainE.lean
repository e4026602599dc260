/-
  Layout: that the best pages are best, without the program.
-/
import Derived.Test.YtpggkomalbbofaaPlainD
set_option linter.unusedVariables false
namespace Go.Proofs.Ytpggkomalbbofaa
open Go Go.SX Go.RowKit

/-- turns that are bad, the first page's being on side s -/
def turnsS (good : List Bool) : Nat → List Pg → Nat
  | _, [] => 0
  | s, p :: l => (if s = 0 ∧ l ≠ [] ∧ good.getD p.2.toNat true = false then 1 else 0) + turnsS good (1 - s) l
def badAtS (s : Nat) (l : List Pg) (good : List Bool) (i : Nat) : Bool := decide ((i + s) % 2 = 0) && (decide (i + 1 < l.length) && !(good.getD (l.getD i (0, 0)).2.toNat true))
def turnsNS (s : Nat) (l : List Pg) (good : List Bool) : Nat → Nat
  | 0 => 0
  | i + 1 => turnsNS s l good i + (if badAtS s l good i = true then 1 else 0)
theorem turnsNS_zero (l : List Pg) (good : List Bool) : ∀ n, turnsNS 0 l good n = turnsN l good n
  | 0 => rfl
  | n + 1 => by simp only [turnsNS, turnsN, turnsNS_zero l good n]; rfl
theorem badAtS_cons (s : Nat) (p : Pg) (l : List Pg) (good : List Bool) (i : Nat) : badAtS s (p :: l) good (i + 1) = badAtS (s + 1) l good i := by
  unfold badAtS
  rw [show i + 1 + s = i + (s + 1) by omega]
  simp [List.getD_eq_getElem?_getD]
theorem turnsNS_cons (s : Nat) (p : Pg) (l : List Pg) (good : List Bool) : ∀ n, turnsNS s (p :: l) good (n + 1) = (if badAtS s (p :: l) good 0 = true then 1 else 0) + turnsNS (s + 1) l good n
  | 0 => by simp [turnsNS]
  | n + 1 => by rw [turnsNS, turnsNS_cons s p l good n, badAtS_cons, turnsNS]; omega
theorem turnsNS_all (good : List Bool) : ∀ (l : List Pg) (s : Nat), turnsNS s l good l.length = turnsS good (s % 2) l
  | [], s => rfl
  | p :: l, s => by
    rw [List.length_cons, turnsNS_cons, turnsNS_all good l (s + 1), turnsS]
    have h1 : (s + 1) % 2 = 1 - s % 2 := by omega
    rw [h1]
    congr 1
    have h2 : (0 + 1 < (p :: l).length) ↔ l ≠ [] := by cases l <;> simp
    unfold badAtS
    by_cases hs : s % 2 = 0
    · by_cases hl : l ≠ []
      · simp [hs, hl, List.getD_eq_getElem?_getD, List.length_pos_iff.2 hl]
      · simp only [ne_eq, Decidable.not_not] at hl; subst hl; simp
    · simp [hs]
theorem turnsF_eq (l : List Pg) (good : List Bool) : turnsF l good = turnsS good 0 l := by
  unfold turnsF; rw [← turnsNS_zero, turnsNS_all]

/-! ### cells and pages -/
variable {ws : List Int} {good : List Bool} {W : Int}

theorem badTurn_01 (good : List Bool) (n s u : Nat) : 0 ≤ badTurn good n s u ∧ badTurn good n s u ≤ 1 := by unfold badTurn; split <;> omega
theorem cell_ok (hv : ws.all (within 1 100000) = true) (hW : ∀ x, x ∈ ws → x ≤ W) : ∀ (d i s : Nat), i + d = ws.length → (0 ≤ (cell ws good W i s).1 ∧ (cell ws good W i s).1 ≤ d ∧ 0 ≤ (cell ws good W i s).2.1 ∧ (cell ws good W i s).2.1 ≤ d) ∧
    (0 < d → ∃ k, k < fitL W (ws.drop i) ∧ cell ws good W i s = cand good ws.length s (i + k + 1) (cell ws good W (i + k + 1) (1 - s)))
  | 0, i, s, h => by rw [cell_end ws good W (by omega)]; simp
  | d + 1, i, s, h => by
    have hf := fit_pos hv hW (i := i) (by omega)
    have hfl := fit_le (ws := ws) (W := W) (i := i) (by omega)
    have hb : ∀ k, k < fitL W (ws.drop i) → 0 ≤ (cell ws good W (i + k + 1) (1 - s)).1 ∧ (cell ws good W (i + k + 1) (1 - s)).1 ≤ d ∧ 0 ≤ (cell ws good W (i + k + 1) (1 - s)).2.1 ∧ (cell ws good W (i + k + 1) (1 - s)).2.1 ≤ d := fun k hk => by
      have := (cell_ok hv hW (d - k) (i + k + 1) (1 - s) (by omega)).1
      omega
    obtain ⟨k, hk, he⟩ := bestTo_mem (n := ws.length) (c := fun m => cand good ws.length s (i + m + 1) (cell ws good W (i + m + 1) (1 - s))) (m := fitL W (ws.drop i)) (fun k hk => by
      have h1 := hb k hk
      have h2 := badTurn_01 good ws.length s (i + k + 1)
      simp only [cand]; omega) hf
    rw [← cell_eq ws good W (by omega) s] at he
    refine ⟨?_, fun _ => ⟨k, hk, he⟩⟩
    have h1 := hb k hk
    have h2 := badTurn_01 good ws.length s (i + k + 1)
    rw [he]; simp only [cand]; omega
termination_by d => d
decreasing_by all_goals omega

/-- the best pages from a measure on -/
def path (ws : List Int) (good : List Bool) (W : Int) : Nat → Nat → Nat → List Pg
  | 0, _, _ => []
  | f + 1, i, s => if ws.length ≤ i then [] else ((i : Int), (cell ws good W i s).2.2) :: path ws good W f (cell ws good W i s).2.2.toNat (1 - s)
/-- pages of all measures from i on, that fit -/
def Chain (ws : List Int) (W : Int) (i : Nat) (l : List Pg) : Prop := pgGo ws.length i l = some (ws.length : Int) ∧ fitF ws W l = true
theorem chain_nil {i : Nat} : Chain ws W i [] ↔ i = ws.length := by
  unfold Chain; simp only [pgGo, fitF, List.all_nil, Option.some.injEq, and_true]; omega
theorem chain_cons {i : Nat} {p : Pg} {l : List Pg} : Chain ws W i (p :: l) ↔ ∃ u : Nat, p = ((i : Int), (u : Int)) ∧ i < u ∧ u ≤ ws.length ∧ segS ws i u ≤ W ∧ Chain ws W u l := by
  unfold Chain
  constructor
  · rintro ⟨h1, h2⟩
    simp only [pgGo] at h1
    split at h1
    · rename_i hc
      obtain ⟨a, b⟩ := p
      simp only at hc h1
      simp only [fitF, List.all_cons, Bool.and_eq_true, decide_eq_true_eq] at h2
      refine ⟨b.toNat, ?_, by omega, by omega, ?_, ?_, h2.2⟩
      · rw [hc.1, Int.toNat_of_nonneg (by omega)]
      · rw [Int.toNat_of_nonneg (by omega), ← hc.1]; exact h2.1
      · rw [Int.toNat_of_nonneg (by omega)]; exact h1
    · cases h1
  · rintro ⟨u, rfl, h1, h2, h3, h4, h5⟩
    simp only [pgGo, fitF, List.all_cons, Bool.and_eq_true, decide_eq_true_eq]
    rw [if_pos ⟨trivial, by omega, by omega⟩]
    exact ⟨h4, h3, h5⟩
theorem chain_ends {u : Nat} {l : List Pg} (h : Chain ws W u l) : l ≠ [] ↔ u < ws.length := by
  cases l with
  | nil => have := chain_nil.1 h; simp [this]
  | cons p l => obtain ⟨v, _, h1, h2, _⟩ := chain_cons.1 h; simp; omega
theorem turns_cons {i s u : Nat} {l : List Pg} (h : Chain ws W u l) : ((turnsS good s (((i : Int), (u : Int)) :: l) : Nat) : Int) = badTurn good ws.length s u + (turnsS good (1 - s) l : Nat) := by
  simp only [turnsS, badTurn, Int.toNat_natCast, chain_ends h]
  split <;> simp
theorem path_ok (hv : ws.all (within 1 100000) = true) (hW : ∀ x, x ∈ ws → x ≤ W) : ∀ (f i s : Nat), i ≤ ws.length → ws.length ≤ i + f → Chain ws W i (path ws good W f i s) ∧ ((turnsS good s (path ws good W f i s) : Nat) : Int) = (cell ws good W i s).1 ∧ ((path ws good W f i s).length : Int) = (cell ws good W i s).2.1
  | 0, i, s, h1, h2 => by
    rw [cell_end ws good W (by omega)]
    exact ⟨chain_nil.2 (by omega), rfl, rfl⟩
  | f + 1, i, s, h1, h2 => by
    by_cases hi : ws.length ≤ i
    · rw [cell_end ws good W hi, path, if_pos hi]
      exact ⟨chain_nil.2 (by omega), rfl, rfl⟩
    · obtain ⟨k, hk, he⟩ := (cell_ok (good := good) hv hW (ws.length - i) i s (by omega)).2 (by omega)
      have hfl := fit_le (ws := ws) (W := W) (i := i) (by omega)
      have h3 := (fit_iff hv (W := W) (i := i) (m := k) (by omega)).1 hk
      rw [path, if_neg hi]
      have hu : (cell ws good W i s).2.2 = ((i + k + 1 : Nat) : Int) := by rw [he]; rfl
      rw [hu, Int.toNat_natCast]
      obtain ⟨g1, g2, g3⟩ := path_ok hv hW f (i + k + 1) (1 - s) (by omega) (by omega)
      refine ⟨chain_cons.2 ⟨i + k + 1, rfl, by omega, by omega, h3, g1⟩, ?_, ?_⟩
      · rw [turns_cons g1, g2, he]; simp only [cand]; omega
      · rw [List.length_cons, he]; simp only [cand]; omega
/-- no pages are better -/
theorem cell_least (hv : ws.all (within 1 100000) = true) (hW : ∀ x, x ∈ ws → x ≤ W) : ∀ (l : List Pg) (i s : Nat), Chain ws W i l → leF ((cell ws good W i s).1, (cell ws good W i s).2.1, 0) (((turnsS good s l : Nat) : Int), (l.length : Int), 0)
  | [], i, s, h => by
    rw [cell_end ws good W (by rw [chain_nil.1 h]; omega)]
    exact leF_refl _
  | p :: l, i, s, h => by
    obtain ⟨u, rfl, h1, h2, h3, h4⟩ := chain_cons.1 h
    have ih := cell_least hv hW l u (1 - s) h4
    obtain ⟨k, rfl⟩ : ∃ k, u = i + k + 1 := ⟨u - i - 1, by omega⟩
    have hk := (fit_iff hv (W := W) (i := i) (m := k) (by omega)).2 h3
    have hle := bestTo_le (n := ws.length) (c := fun m => cand good ws.length s (i + m + 1) (cell ws good W (i + m + 1) (1 - s))) hk
    rw [← cell_eq ws good W (by omega) s] at hle
    rw [turns_cons h4, List.length_cons]
    simp only [leF, cand] at hle ih ⊢
    omega
/-- whether the first page that differs is longer in the first list -/
def longerF : List Pg → List Pg → Bool
  | p :: a, q :: b => if p.2 ≠ q.2 then decide (q.2 < p.2) else longerF a b
  | _, _ => false
theorem path_longest (hv : ws.all (within 1 100000) = true) (hW : ∀ x, x ∈ ws → x ≤ W) : ∀ (l : List Pg) (f i s : Nat), ws.length ≤ i + f → Chain ws W i l → ((turnsS good s l : Nat) : Int) = (cell ws good W i s).1 → (l.length : Int) = (cell ws good W i s).2.1 → longerF l (path ws good W f i s) = false
  | [], f, i, s, _, h, _, _ => by simp [longerF]
  | p :: l, 0, i, s, _, h, _, _ => by simp [longerF, path]
  | p :: l, f + 1, i, s, hf, h, ht, hl => by
    obtain ⟨u, rfl, h1, h2, h3, h4⟩ := chain_cons.1 h
    have ih := cell_least (good := good) hv hW l u (1 - s) h4
    obtain ⟨k, rfl⟩ : ∃ k, u = i + k + 1 := ⟨u - i - 1, by omega⟩
    have hk := (fit_iff hv (W := W) (i := i) (m := k) (by omega)).2 h3
    have hle := bestTo_le (n := ws.length) (c := fun m => cand good ws.length s (i + m + 1) (cell ws good W (i + m + 1) (1 - s))) hk
    rw [← cell_eq ws good W (by omega) s] at hle
    rw [path, if_neg (by omega)]
    obtain ⟨k2, hk2, he⟩ := (cell_ok (good := good) hv hW (ws.length - i) i s (by omega)).2 (by omega)
    rw [turns_cons h4] at ht
    rw [List.length_cons] at hl
    simp only [longerF]
    split
    · simp only [leF, cand] at hle ih ⊢
      simp only [decide_eq_false_iff_not]; omega
    · rename_i hne
      simp only [ne_eq, Decidable.not_not] at hne
      rw [← hne, Int.toNat_natCast]
      rw [he] at hne ht hl
      have hkk : k = k2 := by simp only [cand] at hne; omega
      subst hkk
      simp only [cand] at ht hl
      exact path_longest hv hW l f (i + k + 1) (1 - s) (by omega) h4 (by omega) (by omega)
/-- all measures on one page, if they fit -/
theorem path_one (hv : ws.all (within 1 100000) = true) (hW : ∀ x, x ∈ ws → x ≤ W) (h : 0 < ws.length) (hf : segS ws 0 ws.length ≤ W) : path ws good W ws.length 0 0 = [((0 : Int), (ws.length : Int))] := by
  obtain ⟨g1, g2, g3⟩ := path_ok (good := good) hv hW ws.length 0 0 (by omega) (by omega)
  have hc : Chain ws W 0 [((0 : Int), (ws.length : Int))] := chain_cons.2 ⟨ws.length, rfl, h, Nat.le_refl _, hf, chain_nil.2 rfl⟩
  have hle := cell_least (good := good) hv hW _ 0 0 hc
  have h0 : turnsS good 0 [((0 : Int), (ws.length : Int))] = 0 := by simp [turnsS]
  rw [h0] at hle
  simp only [leF, List.length_cons, List.length_nil] at hle
  cases hp : path ws good W ws.length 0 0 with
  | nil => rw [hp] at g1; have := chain_nil.1 g1; omega
  | cons p l =>
    rw [hp] at g1 g2 g3
    obtain ⟨u, rfl, h1, h2, h3, h4⟩ := chain_cons.1 g1
    have hnn := (cell_ok (good := good) hv hW ws.length 0 0 (by omega)).1
    simp only [List.length_cons] at g3
    have hl : l = [] := List.eq_nil_of_length_eq_zero (by omega)
    subst hl
    rw [chain_nil.1 h4]; rfl
theorem chain_wider {W' : Int} (h : W ≤ W') : ∀ {l : List Pg} {i : Nat}, Chain ws W i l → Chain ws W' i l
  | [], i, hc => chain_nil.2 (chain_nil.1 hc)
  | p :: l, i, hc => by
    obtain ⟨u, rfl, h1, h2, h3, h4⟩ := chain_cons.1 hc
    exact chain_cons.2 ⟨u, rfl, h1, h2, by omega, chain_wider h h4⟩
theorem turnsS_better {good' : List Bool} (h : ∀ i : Nat, good.getD i true = true → good'.getD i true = true) : ∀ (l : List Pg) (s : Nat), turnsS good' s l ≤ turnsS good s l
  | [], s => Nat.le_refl _
  | p :: l, s => by
    have ih := turnsS_better h l (1 - s)
    simp only [turnsS]
    have : (if s = 0 ∧ l ≠ [] ∧ good'.getD p.2.toNat true = false then 1 else 0) ≤ (if s = 0 ∧ l ≠ [] ∧ good.getD p.2.toNat true = false then 1 else 0) := by
      split
      · rename_i hc
        rw [if_pos]
        · exact Nat.le_refl _
        · refine ⟨hc.1, hc.2.1, ?_⟩
          cases hg : good.getD p.2.toNat true with
          | false => rfl
          | true => rw [h _ hg] at hc; exact absurd hc.2.2 (by simp)
      · omega
    omega
/-- a page after the other, each as long as it can be -/
def greedy (ws : List Int) (W : Int) : Nat → Nat → List Pg
  | 0, _ => []
  | f + 1, i => if ws.length ≤ i then [] else ((i : Int), ((i + fitL W (ws.drop i) : Nat) : Int)) :: greedy ws W f (i + fitL W (ws.drop i))
theorem greedy_ok (hv : ws.all (within 1 100000) = true) (hW : ∀ x, x ∈ ws → x ≤ W) : ∀ (f i : Nat), i ≤ ws.length → ws.length ≤ i + f → Chain ws W i (greedy ws W f i)
  | 0, i, h1, h2 => chain_nil.2 (by omega)
  | f + 1, i, h1, h2 => by
    rw [greedy]
    split
    · exact chain_nil.2 (by omega)
    · have hp := fit_pos hv hW (i := i) (by omega)
      have hfl := fit_le (ws := ws) (W := W) (i := i) (by omega)
      have h3 := (fit_iff hv (W := W) (i := i) (m := fitL W (ws.drop i) - 1) (by omega)).1 (by omega)
      rw [show i + (fitL W (ws.drop i) - 1) + 1 = i + fitL W (ws.drop i) by omega] at h3
      exact chain_cons.2 ⟨_, rfl, by omega, by omega, h3, greedy_ok hv hW f _ (by omega) (by omega)⟩
theorem segS_mono (hv : ws.all (within 1 100000) = true) {i j u : Nat} (h1 : i ≤ j) (h2 : j ≤ u) (h3 : u ≤ ws.length) : segS ws j u ≤ segS ws i u := by
  unfold segS; simp only [Int.toNat_natCast]
  have := preS_mono hv (m := i) j h1 (by omega); omega
theorem greedy_short (hv : ws.all (within 1 100000) = true) (hW : ∀ x, x ∈ ws → x ≤ W) : ∀ (l : List Pg) (f i j : Nat), i ≤ j → j ≤ ws.length → ws.length ≤ j + f → Chain ws W i l → (greedy ws W f j).length ≤ l.length
  | [], f, i, j, h1, h2, h3, hc => by
    have := chain_nil.1 hc
    cases f with
    | zero => simp [greedy]
    | succ f => rw [greedy, if_pos (by omega)]; simp
  | p :: l, 0, i, j, h1, h2, h3, hc => by simp [greedy]
  | p :: l, f + 1, i, j, h1, h2, h3, hc => by
    obtain ⟨u, rfl, h4, h5, h6, h7⟩ := chain_cons.1 hc
    rw [greedy]
    split
    · simp
    · have hp := fit_pos hv hW (i := j) (by omega)
      have hfl := fit_le (ws := ws) (W := W) (i := j) (by omega)
      have huv : u ≤ j + fitL W (ws.drop j) := by
        rcases Nat.lt_or_ge j u with h | h
        · have h8 := segS_mono hv h1 (Nat.le_of_lt h) h5
          have := (fit_iff hv (W := W) (i := j) (m := u - j - 1) (by omega)).2 (by rw [show j + (u - j - 1) + 1 = u by omega]; omega)
          omega
        · omega
      have := greedy_short hv hW l f u _ huv hfl (by omega) h7
      simp; exact this
theorem greedy_same (hv : ws.all (within 1 100000) = true) (hW : ∀ x, x ∈ ws → x ≤ W) : ∀ (l : List Pg) (f i : Nat), ws.length ≤ i + f → Chain ws W i l → longerF (greedy ws W f i) l = false → l = greedy ws W f i
  | [], f, i, h3, hc, hg => by
    have := chain_nil.1 hc
    cases f with
    | zero => rfl
    | succ f => rw [greedy, if_pos (by omega)]
  | p :: l, 0, i, h3, hc, hg => by obtain ⟨u, rfl, h4, h5, h6, h7⟩ := chain_cons.1 hc; omega
  | p :: l, f + 1, i, h3, hc, hg => by
    obtain ⟨u, rfl, h4, h5, h6, h7⟩ := chain_cons.1 hc
    rw [greedy, if_neg (by omega)] at hg ⊢
    have hfl := fit_le (ws := ws) (W := W) (i := i) (by omega)
    have hk := (fit_iff hv (W := W) (i := i) (m := u - i - 1) (by omega)).2 (by rw [show i + (u - i - 1) + 1 = u by omega]; exact h6)
    simp only [longerF] at hg
    split at hg
    · rename_i hne
      simp only [decide_eq_false_iff_not] at hg; omega
    · rename_i hne
      simp only [ne_eq, Decidable.not_not] at hne
      obtain rfl : u = i + fitL W (ws.drop i) := by omega
      rw [greedy_same hv hW l f _ (by omega) h7 hg]
/-- where no turn is bad -/
theorem turnsS_none (h : ∀ i : Nat, good.getD i true = true) : ∀ (l : List Pg) (s : Nat), turnsS good s l = 0
  | [], s => rfl
  | p :: l, s => by
    have h1 := h p.2.toNat
    rw [List.getD_eq_getElem?_getD] at h1
    simp [turnsS, turnsS_none h l, h1]
theorem path_greedy (hv : ws.all (within 1 100000) = true) (hW : ∀ x, x ∈ ws → x ≤ W) (hg : ∀ i : Nat, good.getD i true = true) : path ws good W ws.length 0 0 = greedy ws W ws.length 0 := by
  obtain ⟨g1, g2, g3⟩ := path_ok (good := good) hv hW ws.length 0 0 (by omega) (by omega)
  have gg := greedy_ok hv hW ws.length 0 (by omega) (by omega)
  have hle := cell_least (good := good) hv hW _ 0 0 gg
  have hsh := greedy_short hv hW _ ws.length 0 0 (by omega) (by omega) (by omega) g1
  rw [turnsS_none hg] at hle g2
  simp only [leF] at hle
  refine greedy_same hv hW _ _ _ (by omega) g1 (path_longest hv hW _ _ _ _ (by omega) gg ?_ ?_)
  · rw [turnsS_none hg]; exact g2
  · omega
end Go.Proofs.Ytpggkomalbbofaa
