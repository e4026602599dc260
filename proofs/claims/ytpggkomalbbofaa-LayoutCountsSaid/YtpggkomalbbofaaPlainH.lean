/-
  Layout: the laws, without the program.
-/
import Derived.Test.YtpggkomalbbofaaP11
set_option linter.unusedVariables false
namespace Go.Proofs.Ytpggkomalbbofaa
open Go Go.SX Go.RowKit

variable {ws : List Int} {good : List Bool} {W : Int}
theorem chain_iff {l : List Pg} : Chain ws W 0 l ↔ pgGo ws.length 0 l = some (ws.length : Int) ∧ fitF ws W l = true := Iff.rfl
theorem chain_len : ∀ {l : List Pg} {i : Nat}, Chain ws W i l → l.length + i ≤ ws.length
  | [], i, h => by rw [chain_nil.1 h]; simp
  | p :: l, i, h => by
    obtain ⟨u, _, h1, h2, _, h4⟩ := chain_cons.1 h
    have := chain_len h4
    simp; omega
theorem chain_all (hv : ws.all (within 1 100000) = true) : ∀ {l : List Pg} {i : Nat}, Chain ws W i l → ∀ j (h : j < ws.length), i ≤ j → ws[j] ≤ W
  | [], i, hc, j, h, hij => by have := chain_nil.1 hc; omega
  | p :: l, i, hc, j, h, hij => by
    obtain ⟨u, _, h1, h2, h3, h4⟩ := chain_cons.1 hc
    rcases Nat.lt_or_ge j u with hj | hj
    · have g1 := preS_mono hv (m := i) j hij (by omega)
      have g2 := preS_mono hv (m := j + 1) u (by omega) h2
      have g3 := preS_get h
      unfold segS at h3
      simp only [Int.toNat_natCast] at h3
      omega
    · exact chain_all hv h4 j h hj
theorem valid_parts {l : List Pg} (h : validF ws W l = true) : widthsF ws = true ∧ pagedF l ws.length = true ∧ within 1 100000 W = true ∧ Chain ws W 0 l := by
  simp only [validF, Bool.and_eq_true] at h
  exact ⟨h.1, h.2.1, h.2.2.1, (paged_iff.1 h.2.1).1, h.2.2.2⟩
/-- what Best answers of few measures -/
theorem bestF_few (hn : ws.length ≤ 60) : ((bestF ws good W).2 ≠ 0 ∧ (bestF ws good W).1 = []) ∨
    ((bestF ws good W).2 = 0 ∧ good.length = ws.length ∧ (1 ≤ W ∧ W ≤ 100000) ∧ ws.all (within 1 100000) = true ∧ (∀ x, x ∈ ws → x ≤ W) ∧ (bestF ws good W).1 = path ws good W ws.length 0 0) := by
  unfold bestF
  rw [if_neg (by omega)]
  by_cases h2 : good.length ≠ ws.length ∨ within 1 100000 W = false ∨ widthsF ws = false
  · rw [if_pos h2]; exact .inl ⟨by decide, rfl⟩
  · rw [if_neg h2]
    by_cases h3 : (ws.any fun x => decide (W < x)) = true
    · rw [if_pos h3]; exact .inl ⟨by decide, rfl⟩
    · rw [if_neg h3]
      split
      · exact .inl ⟨by decide, rfl⟩
      · obtain ⟨a, b, c, d⟩ := best_args h2
        exact .inr ⟨rfl, a, b, c, no_any h3, rfl⟩
theorem bestF_good (hn : ws.length ≤ 60) (hg : good.length = ws.length) (hWr : 1 ≤ W ∧ W ≤ 100000) (hv : ws.all (within 1 100000) = true) (hW : ∀ x, x ∈ ws → x ≤ W) : bestF ws good W = (path ws good W ws.length 0 0, 0) := by
  obtain ⟨_, _, hpc⟩ := path_ok (good := good) hv hW ws.length 0 0 (by omega) (by omega)
  have hc := cell_ok (good := good) hv hW ws.length 0 0 (by omega)
  refine bestF_ok (by omega) ?_ ?_ (by omega)
  · rintro (h | h | h)
    · exact h hg
    · rw [within_iff.2 hWr] at h; cases h
    · simp only [widthsF, hv, Bool.true_and, decide_eq_false_iff_not] at h; omega
  · rw [Bool.not_eq_true, List.any_eq_false]; intro x hx; have := hW x hx; simp; omega
theorem path_valid (hn : ws.length ≤ 60) (hWr : 1 ≤ W ∧ W ≤ 100000) (hv : ws.all (within 1 100000) = true) (hW : ∀ x, x ∈ ws → x ≤ W) : validF ws W (path ws good W ws.length 0 0) = true := by
  obtain ⟨hpa, _, _⟩ := path_ok (good := good) hv hW ws.length 0 0 (by omega) (by omega)
  have hl := chain_len hpa
  simp only [validF, widthsF, hv, hpa.2, within_iff.2 hWr, Bool.true_and, Bool.and_true, Bool.and_eq_true, decide_eq_true_eq]
  exact ⟨by omega, paged_iff.2 ⟨hpa.1, by omega⟩⟩
theorem path_one' (hn : ws.length ≤ 60) (hWr : 1 ≤ W ∧ W ≤ 100000) (hv : ws.all (within 1 100000) = true) (hW : ∀ x, x ∈ ws → x ≤ W) : ws.length = 0 ∨ W < preS ws ws.length ∨ path ws good W ws.length 0 0 = [((0 : Int), (ws.length : Int))] := by
  rcases Nat.eq_zero_or_pos ws.length with h | h
  · exact .inl h
  · rcases Int.lt_or_le W (preS ws ws.length) with h2 | h2
    · exact .inr (.inl h2)
    · refine .inr (.inr (path_one hv hW h ?_))
      unfold segS; simp [preS]; exact h2
theorem path_bad (hn : ws.length ≤ 60) (hg : good.length = ws.length) (hWr : 1 ≤ W ∧ W ≤ 100000) (hv : ws.all (within 1 100000) = true) (hW : ∀ x, x ∈ ws → x ≤ W) : badF (path ws good W ws.length 0 0) good = ((cell ws good W 0 0).1, 0) := by
  obtain ⟨hpa, hpb, _⟩ := path_ok (good := good) hv hW ws.length 0 0 (by omega) (by omega)
  have hl := chain_len hpa
  rw [badF_yes (by omega) (by rw [hg]; exact paged_iff.2 ⟨hpa.1, by omega⟩), turnsF_eq, hpb]
theorem bad_chain {l : List Pg} (hn : ws.length ≤ 60) (hg : good.length = ws.length) (hc : Chain ws W 0 l) : badF l good = (((turnsS good 0 l : Nat) : Int), 0) := by
  have hl := chain_len hc
  rw [badF_yes (by omega) (by rw [hg]; exact paged_iff.2 ⟨hc.1, by omega⟩), turnsF_eq]
/-- no pages that fit are better -/
theorem best_least {l : List Pg} (hn : ws.length ≤ 60) (hv2 : validF ws W l = true) (hg : good.length = ws.length) : bestF ws good W = (path ws good W ws.length 0 0, 0) ∧
    badF (path ws good W ws.length 0 0) good = ((cell ws good W 0 0).1, 0) ∧ badF l good = (((turnsS good 0 l : Nat) : Int), 0) ∧ (cell ws good W 0 0).1 ≤ ((turnsS good 0 l : Nat) : Int) ∧
    ((cell ws good W 0 0).1 = ((turnsS good 0 l : Nat) : Int) → (path ws good W ws.length 0 0).length ≤ l.length ∧ ((path ws good W ws.length 0 0).length = l.length → longerF l (path ws good W ws.length 0 0) = false)) := by
  obtain ⟨h1, h2, h3, h4⟩ := valid_parts hv2
  simp only [widthsF, Bool.and_eq_true, decide_eq_true_eq] at h1
  have hW : ∀ x, x ∈ ws → x ≤ W := fun x hx => by
    obtain ⟨j, hj, rfl⟩ := List.mem_iff_getElem.1 hx
    exact chain_all h1.1 h4 j hj (Nat.zero_le _)
  obtain ⟨hpa, hpb, hpc⟩ := path_ok (good := good) h1.1 hW ws.length 0 0 (by omega) (by omega)
  have hle := cell_least (good := good) h1.1 hW l 0 0 h4
  simp only [leF] at hle
  refine ⟨bestF_good hn hg (within_iff.1 h3) h1.1 hW, path_bad hn hg (within_iff.1 h3) h1.1 hW, bad_chain hn hg h4, by omega, fun he => ⟨by omega, fun hl => path_longest h1.1 hW l _ 0 0 (by omega) h4 he.symm (by omega)⟩⟩
theorem best_fails {l : List Pg} (hn : ws.length ≤ 60) (hv2 : validF ws W l = true) (hg : good.length ≠ ws.length) : bestF ws good W = ([], 1) := bestF_bad (by omega) (.inl hg)
/-- wider pages, and one more good place -/
theorem best_grows (hn : ws.length ≤ 60) (hg : good.length = ws.length) (hWr : 1 ≤ W ∧ W ≤ 100000) (hv : ws.all (within 1 100000) = true) (hW : ∀ x, x ∈ ws → x ≤ W) {W' : Int} (h1 : W ≤ W') (h2 : W' ≤ 100000) {i : Nat} :
    (cell ws good W' 0 0).1 ≤ (cell ws good W 0 0).1 ∧ (cell ws (good.set i true) W 0 0).1 ≤ (cell ws good W 0 0).1 := by
  obtain ⟨hpa, hpb, hpc⟩ := path_ok (good := good) hv hW ws.length 0 0 (by omega) (by omega)
  have ha := cell_least (good := good) (W := W') hv (fun x hx => Int.le_trans (hW x hx) h1) _ 0 0 (chain_wider h1 hpa)
  have hb := cell_least (good := good.set i true) (W := W) hv hW _ 0 0 hpa
  have hc := turnsS_better (good := good) (good' := good.set i true) (fun j hj => by
    rw [List.getD_eq_getElem?_getD] at hj ⊢
    rw [List.getElem?_set]
    split
    · split <;> rfl
    · exact hj) (path ws good W ws.length 0 0) 0
  simp only [leF] at ha hb
  omega

/-! ### turns counted -/
theorem turns_false : ∀ (l : List Pg) (n : Nat) (f : Int), 0 ≤ f → pgGo n f l = some (n : Int) → turnsS (List.replicate n false) 0 l = l.length / 2 ∧ turnsS (List.replicate n false) 1 l = (l.length - 1) / 2
  | [], n, f, _, h => ⟨rfl, rfl⟩
  | p :: l, n, f, hf, h => by
    simp only [pgGo] at h
    split at h
    · rename_i hc
      obtain ⟨h0, h1⟩ := turns_false l n p.2 (by omega) h
      have hlt : l ≠ [] → p.2.toNat < n := fun hl => by
        cases l with
        | nil => exact absurd rfl hl
        | cons q l =>
          simp only [pgGo] at h
          split at h
          · rename_i hq; omega
          · cases h
      simp only [turnsS, List.length_cons, show (1 : Nat) - 0 = 1 from rfl, show (1 : Nat) - 1 = 0 from rfl, h0, h1]
      refine ⟨?_, by simp⟩
      cases l with
      | nil => simp
      | cons q l =>
        have := hlt (by simp)
        rw [List.getD_eq_getElem?_getD, List.getElem?_replicate, if_pos this]
        simp; omega
    · cases h
theorem counts {l : List Pg} (h : ¬ 4000 < good.length) (hp : pagedF l good.length = true) : badF l (List.replicate good.length false) = (((l.length / 2 : Nat) : Int), 0) ∧ badF l (List.replicate good.length true) = (0, 0) ∧
    0 ≤ (badF l good).1 ∧ (badF l good).1 ≤ ((l.length / 2 : Nat) : Int) := by
  have hpp := (paged_iff.1 hp).1
  rw [badF_yes (good := List.replicate good.length false) (by simpa using h) (by simpa using hp), badF_yes (good := List.replicate good.length true) (by simpa using h) (by simpa using hp), badF_yes h hp]
  have h1 := (turns_false l good.length 0 (by omega) hpp).1
  have h2 := turnsS_better (good := List.replicate good.length false) (good' := good) (fun j hj => by
    rw [List.getD_eq_getElem?_getD, List.getElem?_replicate] at hj
    rw [List.getD_eq_getElem?_getD]
    split at hj
    · simp at hj
    · rw [List.getElem?_eq_none (by omega)]; rfl) l 0
  have h3 := turnsS_none (good := List.replicate good.length true) (fun j => by
    rw [List.getD_eq_getElem?_getD, List.getElem?_replicate]; split <;> rfl) l 0
  simp only [turnsF_eq, h1, h3]
  refine ⟨trivial, rfl, by omega, by omega⟩
/-- the greedy pages, where they begin and what follows -/
theorem greedy_fuel (hv : ws.all (within 1 100000) = true) (hW : ∀ x, x ∈ ws → x ≤ W) : ∀ (f i : Nat), i ≤ ws.length → ws.length ≤ i + f → greedy ws W f i = greedy ws W (ws.length - i) i
  | 0, i, h1, h2 => by rw [show ws.length - i = 0 by omega]
  | f + 1, i, h1, h2 => by
    by_cases h : ws.length ≤ i
    · rw [show ws.length - i = 0 by omega]; simp only [greedy, if_pos h]
    · obtain ⟨g, hg⟩ : ∃ g, ws.length - i = g + 1 := ⟨ws.length - i - 1, by omega⟩
      have hp := fit_pos hv hW (i := i) (by omega)
      have hfl := fit_le (ws := ws) (W := W) (i := i) (by omega)
      rw [hg, greedy, greedy, if_neg h, if_neg h, greedy_fuel hv hW f _ hfl (by omega), greedy_fuel hv hW g _ hfl (by omega)]
theorem greedy_step (hv : ws.all (within 1 100000) = true) (hW : ∀ x, x ∈ ws → x ≤ W) {i : Nat} (hi : i < ws.length) : greedy ws W (ws.length - i) i = ((i : Int), ((i + fitL W (ws.drop i) : Nat) : Int)) :: greedy ws W (ws.length - (i + fitL W (ws.drop i))) (i + fitL W (ws.drop i)) := by
  obtain ⟨g, hg⟩ : ∃ g, ws.length - i = g + 1 := ⟨ws.length - i - 1, by omega⟩
  have hfl := fit_le (ws := ws) (W := W) (i := i) (by omega)
  have hp := fit_pos hv hW (i := i) hi
  rw [hg, greedy, if_neg (by omega), greedy_fuel hv hW g _ hfl (by omega)]
theorem bools_cells {S : Nat → Prop} {w : World} : ∀ {olds : List Value} {xs : List Bool}, olds.length = xs.length → (∀ i y, xs[i]? = some y → Rp.bool.rd S w ((olds.drop (i * Rp.bool.sz)).take Rp.bool.sz) y) → olds = xs.map Value.bool
  | [], [], _, _ => rfl
  | o :: olds, x :: xs, h, hr => by
    have h0 : (List.take 1 (List.drop (0 * 1) (o :: olds))) = [.bool x] := hr 0 x rfl
    have h0' : [o] = [Value.bool x] := h0
    simp only [List.cons.injEq, and_true] at h0'
    rw [List.map_cons, h0', bools_cells (xs := xs) (olds := olds) (w := w) (S := S) (by simpa using h) fun i y hy => by
      have := hr (i + 1) y (by simpa using hy)
      rwa [show (i + 1) * Rp.bool.sz = i * Rp.bool.sz + 1 from by show (i + 1) * 1 = i * 1 + 1; omega, List.drop_succ_cons] at this]
theorem rem8u {i : Int} {n : Nat} (h : 0 ≤ i ∧ i ≤ 255) (hn : 0 < n) : ∃ m : Nat, (IntKind.i64.wrap i).tmod (n : Int) = (m : Int) ∧ m < n := by
  rw [wrap_id (by omega) (by omega)]
  refine ⟨(i.tmod n).toNat, ?_, ?_⟩
  · have := Int.tmod_nonneg (n : Int) h.1; omega
  · have := Int.tmod_nonneg (n : Int) h.1; have := Int.tmod_lt_of_pos i (show (0 : Int) < n by omega); omega
theorem wider {wd x : Int} (h : 1 ≤ wd ∧ wd ≤ 100000) (hx : 0 ≤ x ∧ x ≤ 255) : ∃ W2, (if IntKind.i64.wrap (wd + IntKind.i64.wrap x) < 100000 then IntKind.i64.wrap (wd + IntKind.i64.wrap x) else 100000) = W2 ∧ wd ≤ W2 ∧ W2 ≤ 100000 := by
  refine ⟨_, rfl, ?_⟩
  rw [wrap_id (x := x) (by omega) (by omega), wrap_id (by omega) (by omega)]
  split <;> omega
theorem u8_range {x : Int} (h : (Lit.int .u8 x).wf = true) : 0 ≤ x ∧ x ≤ 255 := by
  simp [Lit.wf, IntKind.min, IntKind.max, IntKind.signed, IntKind.bits] at h; omega
theorem reps_false (n : Nat) : (List.replicate n [Value.bool false]).flatten = (List.replicate 0 true ++ List.replicate (n - 0) false).map Value.bool := by
  rw [List.replicate_zero, List.nil_append, Nat.sub_zero, List.map_replicate]
  induction n with
  | zero => rfl
  | succ n ih => rw [List.replicate_succ, List.flatten_cons, ih, List.replicate_succ]; rfl
theorem reps_set {n i : Nat} (h : i < n) : ((List.replicate i true ++ List.replicate (n - i) false).map Value.bool).set i (.bool true) = (List.replicate (i + 1) true ++ List.replicate (n - (i + 1)) false).map Value.bool := by
  rw [show (Value.bool true) = Value.bool true from rfl, ← List.map_set]
  congr 1
  refine List.ext_getElem (by simp; omega) fun j h1 h2 => ?_
  rw [List.getElem_set]
  simp only [List.getElem_append, List.length_replicate, List.getElem_replicate]
  split
  · rw [dif_pos (by omega)]
  · rename_i hne
    by_cases hj : j < i
    · rw [dif_pos hj, dif_pos (by omega)]
    · rw [dif_neg hj, dif_neg (by omega)]
theorem badF_e {l : List Pg} {good : List Bool} (h : (badF l good).2 ≠ 0) : (badF l good).1 = 0 := by
  unfold badF at *
  split
  · rfl
  · split
    · rename_i h1 h2; rw [if_neg h1, if_pos h2] at h; exact absurd rfl h
    · rfl
theorem badF_paged {l : List Pg} {good : List Bool} (hn : good.length ≤ 60) (h : (badF l good).2 = 0) : pagedF l good.length = true := by
  unfold badF at h
  rw [if_neg (by omega)] at h
  split at h
  · assumption
  · exact absurd h (by decide)
theorem div2n (n : Nat) : (n : Int).tdiv 2 = ((n / 2 : Nat) : Int) := by rw [Int.tdiv_eq_ediv_of_nonneg (by omega)]; omega
theorem true_getD (n i : Nat) : (List.replicate n true).getD i true = true := by
  rw [List.getD_eq_getElem?_getD, List.getElem?_replicate]; split <;> rfl
end Go.Proofs.Ytpggkomalbbofaa
