/-
  Keys: what is written is read; scales: without the program.
-/
import Derived.Test.YtpkbghnjfjnoiaaDoorK8
import Derived.Test.YtpkbghnjfjnoiaaDoorK9
set_option linter.unusedVariables false
namespace Go.Proofs.YtpkbghnjfjnoiaaDoor
open Go Go.SX

theorem sg_prefix (k : Int) (l : List Pit) {i : Nat} (hi : i < l.length) : ∀ j, i < j → j ≤ l.length → (sgRun k (l.take j)).2[i]? = some (if stGet k (sgRun k (l.take i)).1 l[i] = l[i].2.1 then 0 else 10 + l[i].2.1)
  | 0, h, _ => by omega
  | j + 1, h, hj => by
    rw [sgRun_snoc k l (by omega)]
    have hlen := sgRun_len k l j (by omega)
    rcases Nat.lt_or_ge i j with h1 | h1
    · have ih := sg_prefix k l hi j h1 (by omega)
      unfold sgStep
      split
      · rw [List.getElem?_append_left (by omega)]; exact ih
      · rw [List.getElem?_append_left (by omega)]; exact ih
    · obtain rfl : i = j := by omega
      unfold sgStep
      split
      · rw [List.getElem?_append_right (by omega), hlen]; simp
      · rw [List.getElem?_append_right (by omega), hlen]; simp
theorem sg_at (k : Int) (l : List Pit) {i : Nat} (hi : i < l.length) : (sgRun k l).2[i]? = some (if stGet k (sgRun k (l.take i)).1 l[i] = l[i].2.1 then 0 else 10 + l[i].2.1) := by
  have := sg_prefix k l hi l.length hi (Nat.le_refl _)
  rwa [List.take_length] at this
theorem sg_length (k : Int) (l : List Pit) : (sgRun k l).2.length = l.length := by
  have := sgRun_len k l l.length (Nat.le_refl _)
  rwa [List.take_length] at this
theorem valid_drop {p : Pit} (h : validP p = true) : validP (p.1, 0, p.2.2) = true := by
  rw [validP_iff] at h ⊢; simp only; omega
theorem sg_ok (k : Int) (l : List Pit) (hv : l.all validP = true) {i : Nat} (hi : i < l.length) {x : Int} (hx : (sgRun k l).2[i]? = some x) : x = 0 ∨ within 6 14 x = true := by
  rw [sg_at k l hi] at hx
  have hvi := validP_iff.1 (List.all_eq_true.1 hv l[i] (List.getElem_mem hi))
  obtain rfl := Option.some.inj hx
  split
  · exact .inl rfl
  · right; rw [within_iff]; omega

/-- reading along: the first n signs are those that were written -/
theorem rd_back (k : Int) (l : List Pit) (hv : l.all validP = true) (s : List Int) (hl : s.length = l.length) : ∀ n, n ≤ l.length → (∀ i, i < n → s[i]? = (sgRun k l).2[i]?) → rdRun k ((l.zip s).take n) = ((sgRun k (l.take n)).1, l.take n)
  | 0, _, _ => rfl
  | n + 1, hn, h => by
    have ih := rd_back k l hv s hl n (by omega) fun i hi => h i (by omega)
    have hz := zip_get (l := l) (s := s) (n := n) (by omega) (by omega)
    obtain ⟨hlt, he⟩ := List.getElem?_eq_some_iff.1 hz
    rw [rdRun_snoc k (l.zip s) hlt, he, ih, sgRun_snoc k l (by omega), take_snoc l (by omega)]
    have hs := h n (by omega)
    rw [List.getElem?_eq_getElem (by omega), sg_at k l (by omega)] at hs
    have hs := Option.some.inj hs
    have hvi := validP_iff.1 (List.all_eq_true.1 hv l[n] (List.getElem_mem (by omega)))
    unfold rdStep rdMap sgStep
    simp only
    by_cases hc : stGet k (sgRun k (l.take n)).1 l[n] = l[n].2.1
    · rw [if_pos hc] at hs
      rw [hs, if_pos hc, if_pos rfl, hc]
    · rw [if_neg hc] at hs
      rw [hs, if_neg hc, if_neg (by omega), stGet_set, if_pos rfl]
      simp only [show (10 : Int) + l[n].2.1 - 10 = l[n].2.1 by omega]
theorem all_zip {l : List Pit} (hv : l.all validP = true) {s : List Int} (h : ∀ (i : Nat) x, s[i]? = some x → x = 0 ∨ within 6 14 x = true) : (l.zip s).all rdOk = true := by
  rw [List.all_eq_true]
  rintro ⟨p, x⟩ hx
  obtain ⟨i, hi, hix⟩ := List.getElem_of_mem hx
  have h1 : (l.zip s)[i]? = some (p, x) := by rw [List.getElem?_eq_getElem hi, hix]
  rw [List.getElem?_zip_eq_some] at h1
  have hp := List.all_eq_true.1 hv p (List.mem_of_getElem? h1.1)
  simp only [rdOk, Bool.and_eq_true, Bool.or_eq_true, decide_eq_true_eq]
  exact ⟨valid_drop hp, h i x h1.2⟩
theorem reads_back {k : Int} (hk : isKey k = true) {l : List Pit} (hl : l.length ≤ 60) (hv : l.all validP = true) : readF k l (sgRun k l).2 = (l, 0) := by
  have hlen := sg_length k l
  have hz : (l.zip (sgRun k l).2).length = l.length := by simp [hlen]
  have hb := rd_back k l hv (sgRun k l).2 hlen l.length (Nat.le_refl _) fun i hi => rfl
  rw [List.take_of_length_le (Nat.le_of_eq hz), List.take_length] at hb
  rw [readF_good (by omega) (by rw [hk, hlen]; simp) (all_zip hv fun i x hx => sg_ok k l hv (by have := (List.getElem?_eq_some_iff.1 hx).1; omega) hx), hb]
theorem rd_prefix (k : Int) (z : List (Pit × Int)) {i : Nat} {q : Pit × Int} (hq : z[i]? = some q) : ∀ j, i < j → j ≤ z.length → (rdRun k (z.take j)).2[i]? = some (q.1.1, stGet k (rdMap (rdRun k (z.take i)).1 q) q.1, q.1.2.2)
  | 0, h, _ => by omega
  | j + 1, h, hj => by
    rw [rdRun_snoc k z (by omega)]
    have hlen := rdRun_len k z j (by omega)
    unfold rdStep
    rcases Nat.lt_or_ge i j with h1 | h1
    · rw [List.getElem?_append_left (by omega)]
      exact rd_prefix k z hq j h1 (by omega)
    · obtain rfl : i = j := by omega
      obtain ⟨_, he⟩ := List.getElem?_eq_some_iff.1 hq
      rw [List.getElem?_append_right (by omega), hlen, he]
      simp
/-- one sign left out -/
theorem reads_less {k : Int} (hk : isKey k = true) {l : List Pit} (hl : l.length ≤ 60) (hv : l.all validP = true) {n : Nat} (hn : n < l.length) : ∃ o : List Pit, readF k l ((sgRun k l).2.set n 0) = (o, 0) ∧ o.length = l.length ∧ ∃ (x : Pit), o[n]? = some x ∧ (decide (x = l[n]) == ((sgRun k l).2[n]?.getD 0 == 0)) = true := by
  have hlen := sg_length k l
  have hlen2 : ((sgRun k l).2.set n 0).length = l.length := by simp [hlen]
  have hz : (l.zip ((sgRun k l).2.set n 0)).length = l.length := by simp [hlen]
  have hok : (l.zip ((sgRun k l).2.set n 0)).all rdOk = true := all_zip hv fun i x hx => by
    rw [List.getElem?_set] at hx
    split at hx
    · split at hx
      · exact .inl (Option.some.inj hx).symm
      · cases hx
    · exact sg_ok k l hv (by have := (List.getElem?_eq_some_iff.1 hx).1; omega) hx
  refine ⟨_, readF_good (by omega) (by rw [hk, hlen2]; simp) hok, ?_, ?_⟩
  · have := rdRun_len k (l.zip ((sgRun k l).2.set n 0)) _ (Nat.le_refl _)
    rwa [List.take_length, hz] at this
  · have hq : (l.zip ((sgRun k l).2.set n 0))[n]? = some (l[n], 0) := by
      rw [zip_get hn (by omega)]; simp
    have hp := rd_prefix k _ hq l.length hn (by omega)
    rw [List.take_of_length_le (Nat.le_of_eq hz)] at hp
    have hb := rd_back k l hv _ hlen2 n (by omega) fun i hi => by rw [List.getElem?_set_ne (by omega)]
    rw [hb] at hp
    refine ⟨_, hp, ?_⟩
    have hmap : rdMap (sgRun k (l.take n)).1 (l[n], 0) = (sgRun k (l.take n)).1 := if_pos rfl
    rw [hmap, sg_at k l hn]
    have hvi := validP_iff.1 (List.all_eq_true.1 hv l[n] (List.getElem_mem hn))
    simp only [Option.getD_some]
    by_cases hc : stGet k (sgRun k (l.take n)).1 l[n] = l[n].2.1
    · rw [if_pos hc, hc]; simp
    · rw [if_neg hc]
      have h1 : ¬ ((l[n].1, stGet k (sgRun k (l.take n)).1 l[n], l[n].2.2) = l[n]) := fun h => hc (by have := congrArg (fun p : Pit => p.2.1) h; exact this)
      rw [decide_eq_false h1, show ((10 + l[n].2.1 : Int) == 0) = false by rw [beq_eq_false_iff_ne]; omega]
      rfl

/-! ### scales -/
theorem win_all : ∀ (q : Fin 15) (s : Fin 7), -1 ≤ 7 * natF s.val - 12 * s.val + 7 * alterF ((q.val : Int) - 7) s.val - ((q.val : Int) - 7) ∧ 7 * natF s.val - 12 * s.val + 7 * alterF ((q.val : Int) - 7) s.val - ((q.val : Int) - 7) ≤ 5 := by decide
/-- a step as a key alters it lies within seven fifths -/
theorem win {k s : Int} (hk : -7 ≤ k ∧ k ≤ 7) (hs : 0 ≤ s ∧ s ≤ 6) : -1 ≤ 7 * natF s - 12 * s + 7 * alterF k s - k ∧ 7 * natF s - 12 * s + 7 * alterF k s - k ≤ 5 := by
  have := win_all ⟨(k + 7).toNat, by omega⟩ ⟨s.toNat, by omega⟩
  simp only [show (((k + 7).toNat : Nat) : Int) - 7 = k by omega, show ((s.toNat : Nat) : Int) = s by omega] at this
  exact this
theorem scale_alter {k k1 a1 b s o : Int} (hk : -7 ≤ k ∧ k ≤ 7) (hk1 : -7 ≤ k1 ∧ k1 ≤ 7) (hf : 7 * b - 12 * a1 = k1 - k) (hs : 0 ≤ s ∧ s ≤ 6) : (addP (s, alterF k s, o) a1 b).2.1 = alterF k1 (addP (s, alterF k s, o) a1 b).1 := by
  simp only [addP, placeN, numF]
  have hs1 : 0 ≤ (7 * o + s + a1) % 7 ∧ (7 * o + s + a1) % 7 ≤ 6 := by omega
  have h1 := win hk hs
  have h2 := win hk1 hs1
  have h3 : 7 * ((7 * o + s + a1) / 7) + (7 * o + s + a1) % 7 = 7 * o + s + a1 := by omega
  generalize (7 * o + s + a1) / 7 = o1 at *
  generalize (7 * o + s + a1) % 7 = s1 at *
  omega
end Go.Proofs.YtpkbghnjfjnoiaaDoor
