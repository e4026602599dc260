/-
  Holdings, without the program: the laws of costs.
-/
import Derived.Test.YtblagioibffgcaaW7
set_option linter.unusedVariables false
namespace Go.Proofs.Ytblagioibffgcaa
open Go Go.SX Go.RowKit

theorem idx_bound (l : List Int) (x : Int) : -1 ≤ idxOf l x ∧ idxOf l x ≤ l.length := by
  rcases findI_bound (fun y => x == y) l with h | h
  · unfold idxOf; omega
  · unfold idxOf; rw [h.2]; simp
theorem costF_bad {d : Dem} {c : Cop} {h : Int} (hb : d.2.1 ≠ c.2.1 ∨ idxOf d.2.2.2 c.2.2.1 < 0) : costF d c h = -1 := by unfold costF; rw [if_pos hb]
theorem costF_own {d : Dem} {c : Cop} {h : Int} (hb : ¬ (d.2.1 ≠ c.2.1 ∨ idxOf d.2.2.2 c.2.2.1 < 0)) (hh : c.2.2.2 = h) : costF d c h = 10 * idxOf d.2.2.2 c.2.2.1 := by unfold costF; rw [if_neg hb, if_pos hh]
theorem costF_far {d : Dem} {c : Cop} {h : Int} (hb : ¬ (d.2.1 ≠ c.2.1 ∨ idxOf d.2.2.2 c.2.2.1 < 0)) (hh : c.2.2.2 ≠ h) : costF d c h = 10 * idxOf d.2.2.2 c.2.2.1 + 5 := by unfold costF; rw [if_neg hb, if_neg hh]
theorem costF_neg {d : Dem} {c : Cop} {h : Int} : costF d c h < 0 ↔ (d.2.1 ≠ c.2.1 ∨ idxOf d.2.2.2 c.2.2.1 < 0) := by
  constructor
  · intro hlt
    by_cases hb : d.2.1 ≠ c.2.1 ∨ idxOf d.2.2.2 c.2.2.1 < 0
    · exact hb
    · by_cases hh : c.2.2.2 = h
      · rw [costF_own hb hh] at hlt; omega
      · rw [costF_far hb hh] at hlt; omega
  · intro hb; rw [costF_bad hb]; omega
theorem costF_le (d : Dem) (c : Cop) (h : Int) (hl : d.2.2.2.length ≤ 1000) : -1 ≤ costF d c h ∧ costF d c h ≤ 10005 := by
  have := idx_bound d.2.2.2 c.2.2.1
  by_cases hb : d.2.1 ≠ c.2.1 ∨ idxOf d.2.2.2 c.2.2.1 < 0
  · rw [costF_bad hb]; omega
  · by_cases hh : c.2.2.2 = h
    · rw [costF_own hb hh]; omega
    · rw [costF_far hb hh]; omega

theorem costsF_row {ds : List Dem} {cs : List Cop} {h : Int} {m : Nat} (hm : m < ds.length) : (costsF ds cs h)[m]? = some (cs.map fun c => costF ds[m] c h) := by
  simp [costsF, hm]
theorem row_get {cs : List Cop} {d : Dem} {h : Int} {n : Nat} (hn : n < cs.length) : (cs.map fun c => costF d c h)[n]? = some (costF d cs[n] h) := by
  simp [hn]

/-- what 'usable' asks -/
def usableB (ds : List Dem) (cs : List Cop) : Bool := decide (0 < ds.length) && (decide (0 < cs.length) && (few ds cs && valid ds cs))
theorem usable_of {ds : List Dem} {cs : List Cop} (h : usableB ds cs = true) : 0 < ds.length ∧ 0 < cs.length ∧ valid ds cs = true := by
  simp only [usableB, Bool.and_eq_true, decide_eq_true_eq] at h
  exact ⟨h.1, h.2.1, h.2.2.2⟩
theorem shaped_costs {S : Nat → Prop} {w : World} {v : Value} {ds : List Dem} {cs : List Cop} {h : Int} (hl : rRows.rd S w [v] (costsF ds cs h)) (p2 p3 : Option Addr) (c2 c3 n2 n3 : Nat) (h2 : n2 = ds.length) (h3 : n3 = cs.length) : Gives Try.prog 16 #[v, .slice p2 n2 c2, .slice p3 n3 c3] w fun r _ => r = .bool true :=
  (shaped_spec hl p2 p3 n2 c2 n3 c3).mono fun r w' _ hr => by
    subst h2; subst h3
    rw [hr]
    congr 1
    simp [costsF]
theorem valid_hall {ds : List Dem} {cs : List Cop} (hv : valid ds cs = true) {n : Nat} (hn : n < cs.length) : within 0 99 cs[n].2.2.2 = true := by
  simp only [valid, validDs, validCs, Bool.and_eq_true, decide_eq_true_eq] at hv
  have := List.all_eq_true.1 hv.2.1.2 _ (List.getElem_mem hn)
  simp only [validC, Bool.and_eq_true] at this
  exact this.2
theorem costs_of {ds : List Dem} {cs : List Cop} {h : Int} (hv : valid ds cs = true) (hh : within 0 99 h = true) : costsR ds cs h = (costsF ds cs h, 0) := costsR_good (by rw [hv, hh]; rfl)

theorem rem_nat {i : Int} {n : Nat} (h : 0 ≤ i ∧ i ≤ 255) (hn : 0 < n) : ∃ m : Nat, (IntKind.i64.wrap i).tmod (n : Int) = (m : Int) ∧ m < n := by
  rw [wrap_id (by omega) (by omega)]
  refine ⟨(i.tmod n).toNat, ?_, ?_⟩
  · have := Int.tmod_nonneg (n : Int) h.1; omega
  · have := Int.tmod_nonneg (n : Int) h.1; have := Int.tmod_lt_of_pos i (show (0 : Int) < n by omega); omega
theorem rem_hall {i : Int} (h : 0 ≤ i ∧ i ≤ 255) : within 0 99 ((IntKind.i64.wrap i).tmod 100) = true := by
  rw [wrap_id (by omega) (by omega)]
  have := Int.tmod_nonneg (100 : Int) h.1; have := Int.tmod_lt_of_pos i (show (0 : Int) < 100 by omega)
  simp only [within, Bool.and_eq_true, decide_eq_true_eq]; omega
theorem u8_range {x : Int} (h : (Lit.int .u8 x).wf = true) : 0 ≤ x ∧ x ≤ 255 := by
  simp [Lit.wf, IntKind.min, IntKind.max, IntKind.signed, IntKind.bits] at h; omega
theorem u16_range {x : Int} (h : (Lit.int .u16 x).wf = true) : 0 ≤ x ∧ x ≤ 65535 := by
  simp [Lit.wf, IntKind.min, IntKind.max, IntKind.signed, IntKind.bits] at h; omega

/-- Halls: within a copy's own hall, or where it cannot meet the demand, the costs are alike. -/
theorem halls_same {d : Dem} {c : Cop} {h : Int} (hc : costF d c c.2.2.2 < 0 ∨ h = c.2.2.2) : costF d c c.2.2.2 = costF d c h := by
  rcases hc with h1 | rfl
  · rw [costF_neg] at h1; rw [costF_bad h1, costF_bad h1]
  · rfl
theorem halls_far {d : Dem} {c : Cop} {h : Int} (h1 : ¬ costF d c c.2.2.2 < 0) (h2 : h ≠ c.2.2.2) : costF d c h = costF d c c.2.2.2 + 5 ∧ (costF d c c.2.2.2).tmod 10 = 0 := by
  rw [costF_neg] at h1
  rw [costF_far h1 (Ne.symm h2), costF_own h1 rfl]
  exact ⟨rfl, Int.mul_tmod_right _ _⟩
/-- Prefers -/
theorem prefers_lt {d : Dem} {a b : Cop} {h : Int} (ha : ¬ costF d a h < 0) (hb : ¬ costF d b h < 0) (hlt : idxOf d.2.2.2 a.2.2.1 < idxOf d.2.2.2 b.2.2.1) : costF d a h < costF d b h := by
  rw [costF_neg] at ha hb
  by_cases h1 : a.2.2.2 = h <;> by_cases h2 : b.2.2.2 = h
  · rw [costF_own ha h1, costF_own hb h2]; omega
  · rw [costF_own ha h1, costF_far hb h2]; omega
  · rw [costF_far ha h1, costF_own hb h2]; omega
  · rw [costF_far ha h1, costF_far hb h2]; omega
theorem prefers_eq {d : Dem} {a b : Cop} {h : Int} (ha : ¬ costF d a h < 0) (hb : ¬ costF d b h < 0) (he : idxOf d.2.2.2 a.2.2.1 = idxOf d.2.2.2 b.2.2.1) : costF d a h - costF d b h ≤ 5 ∧ costF d b h - costF d a h ≤ 5 ∧ (a.2.2.2 = b.2.2.2 → costF d a h = costF d b h) := by
  rw [costF_neg] at ha hb
  by_cases h1 : a.2.2.2 = h <;> by_cases h2 : b.2.2.2 = h
  · rw [costF_own ha h1, costF_own hb h2]; omega
  · rw [costF_own ha h1, costF_far hb h2]; omega
  · rw [costF_far ha h1, costF_own hb h2]; omega
  · rw [costF_far ha h1, costF_far hb h2]; omega
end Go.Proofs.Ytblagioibffgcaa
