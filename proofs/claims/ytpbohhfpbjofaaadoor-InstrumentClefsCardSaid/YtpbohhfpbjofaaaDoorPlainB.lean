/-
  Keys: the signs of a bar, written and read, without the program.
-/
import Derived.Test.YtpbohhfpbjofaaaDoorK4
set_option linter.unusedVariables false
namespace Go.Proofs.YtpbohhfpbjofaaaDoor
open Go Go.SX

def validP (p : Pit) : Bool := within 0 6 p.1 && (within (-4) 4 p.2.1 && within (-8) 20 p.2.2)
theorem validP_iff {p : Pit} : validP p = true ↔ (0 ≤ p.1 ∧ p.1 ≤ 6) ∧ (-4 ≤ p.2.1 ∧ p.2.1 ≤ 4) ∧ -8 ≤ p.2.2 ∧ p.2.2 ≤ 20 := by simp [validP, within]
def pk (p : Pit) : Int × Int := (p.1, p.2.2)
def stGet (key : Int) (m : PM) (p : Pit) : Int := (pmGet m (pk p)).getD (alterF key p.1)
def sgStep (key : Int) (st : PM × List Int) (p : Pit) : PM × List Int :=
  if stGet key st.1 p = p.2.1 then (st.1, st.2 ++ [0]) else (pmSet st.1 (pk p) p.2.1, st.2 ++ [10 + p.2.1])
def sgRun (key : Int) (l : List Pit) : PM × List Int := l.foldl (sgStep key) ([], [])
def signsF (key : Int) (l : List Pit) : List Int × Int :=
  if 1000 < l.length then ([], 2) else if (isKey key && l.all validP) = true then ((sgRun key l).2, 0) else ([], 1)
def rdOk (q : Pit × Int) : Bool := validP (q.1.1, 0, q.1.2.2) && (decide (q.2 = 0) || within 6 14 q.2)
def rdMap (m : PM) (q : Pit × Int) : PM := if q.2 = 0 then m else pmSet m (pk q.1) (q.2 - 10)
def rdStep (key : Int) (st : PM × List Pit) (q : Pit × Int) : PM × List Pit :=
  (rdMap st.1 q, st.2 ++ [(q.1.1, stGet key (rdMap st.1 q) q.1, q.1.2.2)])
def rdRun (key : Int) (l : List (Pit × Int)) : PM × List Pit := l.foldl (rdStep key) ([], [])
def readF (key : Int) (l : List Pit) (s : List Int) : List Pit × Int :=
  if 1000 < l.length then ([], 2) else if (isKey key && decide (s.length = l.length)) = true then (if (l.zip s).all rdOk = true then ((rdRun key (l.zip s)).2, 0) else ([], 1)) else ([], 1)

theorem take_snoc {α : Type} (l : List α) {i : Nat} (h : i < l.length) : l.take (i + 1) = l.take i ++ [l[i]] := by
  rw [List.take_add_one, List.getElem?_eq_getElem h]; rfl
theorem sgRun_snoc (key : Int) (l : List Pit) {i : Nat} (h : i < l.length) : sgRun key (l.take (i + 1)) = sgStep key (sgRun key (l.take i)) l[i] := by
  unfold sgRun; rw [take_snoc l h, List.foldl_append]; rfl
theorem rdRun_snoc (key : Int) (l : List (Pit × Int)) {i : Nat} (h : i < l.length) : rdRun key (l.take (i + 1)) = rdStep key (rdRun key (l.take i)) l[i] := by
  unfold rdRun; rw [take_snoc l h, List.foldl_append]; rfl
theorem sgStep_len (key : Int) (st : PM × List Int) (p : Pit) : (sgStep key st p).2.length = st.2.length + 1 := by unfold sgStep; split <;> simp
theorem rdStep_len (key : Int) (st : PM × List Pit) (q : Pit × Int) : (rdStep key st q).2.length = st.2.length + 1 := by simp [rdStep]
theorem sgRun_len (key : Int) (l : List Pit) : ∀ i, i ≤ l.length → (sgRun key (l.take i)).2.length = i
  | 0, _ => rfl
  | i + 1, h => by rw [sgRun_snoc key l h, sgStep_len, sgRun_len key l i (by omega)]
theorem rdRun_len (key : Int) (l : List (Pit × Int)) : ∀ i, i ≤ l.length → (rdRun key (l.take i)).2.length = i
  | 0, _ => rfl
  | i + 1, h => by rw [rdRun_snoc key l h, rdStep_len, rdRun_len key l i (by omega)]
theorem stGet_set (key : Int) (m : PM) (p q : Pit) (v : Int) : stGet key (pmSet m (pk p) v) q = if pk q = pk p then v else stGet key m q := by
  unfold stGet; rw [pmGet_set]; split <;> rfl

/-- what is in force, as the reference looks for it -/
def fgo (l : List Pit) (s : List Int) (p : Pit) : Nat → Option Int
  | 0 => none
  | i + 1 => if (l[i]?.map pk = some (pk p)) ∧ s[i]?.getD 0 ≠ 0 then some (s[i]?.getD 0 - 10) else fgo l s p i
def forceF (key : Int) (l : List Pit) (s : List Int) (n : Nat) (p : Pit) : Int := (fgo l s p n).getD (ralterF key p.1)
theorem fgo_app (l : List Pit) (s t : List Int) (p : Pit) : ∀ n, n ≤ s.length → fgo l (s ++ t) p n = fgo l s p n
  | 0, _ => rfl
  | n + 1, h => by
    simp only [fgo]
    rw [List.getElem?_append_left (by omega), fgo_app l s t p n (by omega)]
theorem sg_force (key : Int) (l : List Pit) (hv : l.all validP = true) (p : Pit) : ∀ n, n ≤ l.length → fgo l (sgRun key (l.take n)).2 p n = pmGet (sgRun key (l.take n)).1 (pk p)
  | 0, _ => rfl
  | n + 1, h => by
    have hlen := sgRun_len key l n (by omega)
    have ih := sg_force key l hv p n (by omega)
    rw [sgRun_snoc key l (by omega)]
    have hvn := validP_iff.1 (List.all_eq_true.1 hv l[n] (List.getElem_mem (by omega)))
    unfold sgStep
    split
    · simp only [fgo]
      rw [List.getElem?_append_right (by omega), hlen, Nat.sub_self, fgo_app _ _ _ _ _ (by omega)]
      simp [ih]
    · simp only [fgo]
      rw [List.getElem?_append_right (by omega), hlen, Nat.sub_self, fgo_app _ _ _ _ _ (by omega), pmGet_set, List.getElem?_eq_getElem (by omega)]
      have h0 : (10 : Int) + l[n].2.1 ≠ 0 := by omega
      by_cases hk : pk p = pk l[n]
      · rw [if_pos hk, if_pos ⟨by simp [hk], by simpa using h0⟩]
        simp; omega
      · rw [if_neg hk, if_neg (by simp [Ne.symm hk]), ih]
theorem sg_forceF (key : Int) (l : List Pit) (hv : l.all validP = true) {n : Nat} (h : n < l.length) : forceF key l (sgRun key (l.take n)).2 n l[n] = stGet key (sgRun key (l.take n)).1 l[n] := by
  have hvn := validP_iff.1 (List.all_eq_true.1 hv l[n] (List.getElem_mem h))
  unfold forceF stGet
  rw [sg_force key l hv l[n] n (by omega), ralter_eq (within_iff.2 hvn.1)]
theorem zip_get {l : List Pit} {s : List Int} {n : Nat} (h : n < l.length) (h2 : n < s.length) : (l.zip s)[n]? = some (l[n], s[n]) := by
  rw [List.getElem?_zip_eq_some]; exact ⟨List.getElem?_eq_getElem h, List.getElem?_eq_getElem h2⟩
theorem rd_force (key : Int) (l : List Pit) (s : List Int) (hl : s.length = l.length) (p : Pit) : ∀ n, n ≤ l.length → fgo l s p n = pmGet (rdRun key ((l.zip s).take n)).1 (pk p)
  | 0, _ => rfl
  | n + 1, h => by
    have ih := rd_force key l s hl p n (by omega)
    have hz := zip_get (l := l) (s := s) (n := n) (by omega) (by omega)
    obtain ⟨hlt, he⟩ := List.getElem?_eq_some_iff.1 hz
    rw [rdRun_snoc key (l.zip s) hlt, he]
    simp only [fgo, rdStep, rdMap]
    rw [List.getElem?_eq_getElem (show n < l.length by omega), List.getElem?_eq_getElem (show n < s.length by omega)]
    by_cases h0 : s[n] = 0
    · simp [h0, ih]
    · simp only [h0, if_false, pmGet_set, Option.getD_some, ne_eq, not_false_eq_true, and_true, Option.map_some, Option.some.injEq]
      by_cases hk : pk p = pk l[n]
      · rw [if_pos hk.symm, if_pos hk]
      · rw [if_neg (Ne.symm hk), if_neg hk, ih]
theorem all_false {α : Type} {p : α → Bool} {l : List α} {i : Nat} {x : α} (h : l[i]? = some x) (hp : p x = false) : l.all p = false := by
  obtain ⟨hlt, rfl⟩ := List.getElem?_eq_some_iff.1 h
  rw [List.all_eq_false]
  exact ⟨l[i], List.getElem_mem hlt, by simp [hp]⟩
theorem all_idx {α : Type} {p : α → Bool} {l : List α} {n : Nat} (hn : l.length ≤ n) (h : ∀ j, j < n → ∀ x, l[j]? = some x → p x = true) : l.all p = true := by
  rw [List.all_eq_true]
  intro x hx
  obtain ⟨j, hj, hjx⟩ := List.getElem_of_mem hx
  exact h j (by omega) x (by rw [List.getElem?_eq_getElem hj, hjx])
theorem ints_read {S : Nat → Prop} {w : World} (xs : List Int) : ∀ i y, xs[i]? = some y → rInt.rd S w (((xs.map (Value.int .i64)).drop (i * rInt.sz)).take rInt.sz) y := fun i y hy =>
  (take_one _ i (Value.int .i64 y) (by rw [List.getElem?_map, hy]; rfl) : _)
def pitV (p : Pit) : List Value := [.int .i64 p.1, .int .i64 p.2.1, .int .i64 p.2.2]
def pitsV (l : List Pit) : List Value := (l.map pitV).flatten
theorem pitsV_len (l : List Pit) : (pitsV l).length = l.length * 3 := by
  induction l with
  | nil => rfl
  | cons p l ih => simp only [pitsV, List.map_cons, List.flatten_cons, List.length_append, List.length_cons] at *; rw [ih]; simp [pitV]; omega
theorem pitsV_app (l m : List Pit) : pitsV (l ++ m) = pitsV l ++ pitsV m := by simp [pitsV]
theorem pitsV_get : ∀ (l : List Pit) (i : Nat) (y : Pit), l[i]? = some y → ((pitsV l).drop (i * 3)).take 3 = pitV y
  | [], i, y, h => by simp at h
  | p :: l, 0, y, h => by simp at h; subst h; simp [pitsV, pitV]
  | p :: l, i + 1, y, h => by
    have := pitsV_get l i y (by simpa using h)
    rw [← this]
    simp [pitsV, pitV, Nat.add_mul]
theorem pits_read {S : Nat → Prop} {w : World} (xs : List Pit) : ∀ i y, xs[i]? = some y → rPit.rd S w (((pitsV xs).drop (i * rPit.sz)).take rPit.sz) y := fun i y hy => by
  rw [show rPit.sz = 3 from rfl, pitsV_get xs i y hy]
  exact rPit_mk _ _ _
theorem pitsV_set (l : List Pit) (z : Pit) (m : Nat) (y : Pit) : (pitsV (l ++ List.replicate (m + 1) z)).take (l.length * 3) ++ (pitV y ++ (pitsV (l ++ List.replicate (m + 1) z)).drop (l.length * 3 + 3)) = pitsV (l ++ [y] ++ List.replicate m z) := by
  rw [pitsV_app, pitsV_app, pitsV_app, List.replicate_succ]
  have h1 := pitsV_len l
  rw [List.take_append_of_le_length (by omega), List.take_of_length_le (by omega), List.drop_append, List.drop_eq_nil_of_le (by omega)]
  have : l.length * 3 + 3 - (pitsV l).length = 3 := by omega
  rw [this]
  simp [pitsV, pitV]
end Go.Proofs.YtpbohhfpbjofaaaDoor
