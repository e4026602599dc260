/-
  More rules: data of the call's own given over to snapshots; append that grows a full row; slice expressions.
-/
import Derived.Test.YtnbfdncmlbegmaaSxMap
set_option linter.unusedVariables false
namespace Go.SX
open Go Go.RowKit

section
variable {P : Program} {ops : Array Oper} {Q : Exit → St → Prop} {σ : St} {l : List Oper} {o : Oper} {rest : List Oper} {ds : List (Option Nat)} {K : St → Prop}

theorem Sat.same {ρ : Nat → Nat} {a : Act} {w : World} (hs : Sat ρ σ a w) (i : Nat) (v : Value) (hi : i < σ.n) (ha : a.tmps[i]? = some v) : Sat ρ (σ.put (some i) (.val v)) a w :=
  ⟨hs.size, hs.defers, fun j s hj => by
    simp only [St.put, getE] at hj
    split at hj
    · rename_i he
      subst he
      simp only [Option.some.injEq] at hj
      subst hj
      exact ⟨hi, fun ρ' _ => by simpa [den] using ha⟩
    · exact hs.env j s hj, hs.base.put _ _⟩

/-- Blocks of the call's own are given over to a snapshot, slot i is read there. -/
theorem W.freeze {rO : Option Nat} {c : Code} (ks : List Nat) (i : Nat) (s : SV) (hi : getE σ.env i = some s) (hn : (killL ks σ).n = σ.n) (Post : (Nat → Prop) → World → Value → Prop)
    (hP : ∀ ρ w, Base ρ σ w → ∃ S, Post S w (den ρ s) ∧ ∀ k (o : Own) b, σ.own[k]? = some o → k ∉ ks → o.num ρ k = some b → ¬ S b)
    (k : ∀ S s v, Post S s v → WR rO P c Q (((killL ks σ).snap S s).put (some i) (.val v))) : WR rO P c Q σ := fun ρ a w hs => by
  obtain ⟨S, hp, hap⟩ := hP ρ w hs.base
  obtain ⟨h1, h2⟩ := hs.env i s hi
  exact k S w _ hp ρ a w ((hs.snapK ks S hap).same i _ (by show i < (killL ks σ).n; rw [hn]; exact h1) (h2 ρ (Agree.refl _ _)))
theorem WO.freeze (ks : List Nat) (i : Nat) (s : SV) (hi : getE σ.env i = some s) (hn : (killL ks σ).n = σ.n) (Post : (Nat → Prop) → World → Value → Prop)
    (hP : ∀ ρ w, Base ρ σ w → ∃ S, Post S w (den ρ s) ∧ ∀ k (o : Own) b, σ.own[k]? = some o → k ∉ ks → o.num ρ k = some b → ¬ S b)
    (k : ∀ S s v, Post S s v → WO P ops Q l (((killL ks σ).snap S s).put (some i) (.val v))) : WO P ops Q l σ := fun ρ a w hs => by
  obtain ⟨S, hp, hap⟩ := hP ρ w hs.base
  obtain ⟨h1, h2⟩ := hs.env i s hi
  exact k S w _ hp ρ a w ((hs.snapK ks S hap).same i _ (by show i < (killL ks σ).n; rw [hn]; exact h1) (h2 ρ (Agree.refl _ _)))

/-- A literal slice of the call's own, as a list, with the blocks that it touches. -/
theorem own_listS {α : Type} {A : Rp α} {ρ : Nat → Nat} {w : World} {k n c : Nat} {T : TypeId} {cs : List SV} {xs : List α} {S : Nat → Prop} (hb : Base ρ σ w) (hk : nth σ.own k = some (.cells T cs)) (hn : n = xs.length) (hnc : n ≤ c) (hc : c ≤ 9223372036854775807) (hS : S (ρ k))
    (h : ∀ i y, xs[i]? = some y → A.rd S w (((denL ρ cs).drop (i * A.sz)).take A.sz) y) : (Rp.slice A).rd S w [.slice (some ⟨ρ k, 0, none⟩) n c] xs := by
  obtain ⟨h0, h1⟩ := own_cells hb hk 0
  rw [List.drop_zero] at h0
  exact Rp.slice_mk _ hn hnc hc hS h1 h0 h

/-- The cells of a list that is read. -/
theorem Rp.cells {α : Type} {A : Rp α} {S : Nat → Prop} {w : World} {a : Addr} : ∀ (xs : List α) (off : Nat), (∀ i y, xs[i]? = some y → ∃ ces, At w (a.add ((off + i) * A.sz)) ces ∧ A.rd S w ces y) →
    ∃ olds : List Value, olds.length = xs.length * A.sz ∧ At w (a.add (off * A.sz)) olds ∧ ∀ i y, xs[i]? = some y → A.rd S w ((olds.drop (i * A.sz)).take A.sz) y
  | [], off, _ => ⟨[], by simp, fun j v h => by simp at h, fun i y h => by simp at h⟩
  | x :: xs, off, h => by
    obtain ⟨ces, h1, h2⟩ := h 0 x rfl
    obtain ⟨olds, g1, g2, g3⟩ := Rp.cells xs (off + 1) fun i y hy => by
      have := h (i + 1) y (by simpa using hy)
      rwa [show off + (i + 1) = off + 1 + i by omega] at this
    have hl := A.len h2
    refine ⟨ces ++ olds, by simp [hl, g1, Nat.add_mul]; omega, fun j v hv => ?_, fun i y hy => ?_⟩
    · rw [List.getElem?_append] at hv
      split at hv
      · have := h1 j v hv
        simpa using this
      · rename_i hj
        have := g2 (j - ces.length) v hv
        rw [add_add] at this ⊢
        rwa [show (off + 1) * A.sz + (j - ces.length) = off * A.sz + j by rw [Nat.add_mul]; omega] at this
    · cases i with
      | zero =>
        simp only [List.getElem?_cons_zero, Option.some.injEq] at hy
        subst hy
        simpa [hl] using h2
      | succ i =>
        simp only [List.getElem?_cons_succ] at hy
        have := g3 i y hy
        rwa [List.drop_append, show (ces.drop ((i + 1) * A.sz)) = [] from List.drop_eq_nil_of_le (by rw [Nat.add_mul]; omega), List.nil_append,
          show (i + 1) * A.sz - ces.length = i * A.sz by rw [Nat.add_mul]; omega]
theorem Rp.slice_cells {α : Type} {A : Rp α} {S : Nat → Prop} {w : World} {p : Option Addr} {n c : Nat} {xs : List α} (h : (Rp.slice A).rd S w [.slice p n c] xs) : xs = [] ∨ ∃ a olds, p = some a ∧ n = xs.length ∧ S a.block ∧ a.block < w.heap.size ∧ olds.length = n * A.sz ∧ At w a olds ∧
    ∀ i y, xs[i]? = some y → A.rd S w ((olds.drop (i * A.sz)).take A.sz) y := by
  obtain ⟨p', n', c', hv, hn, hnc, hcm, hel⟩ := h
  simp only [List.cons.injEq, and_true, Value.slice.injEq] at hv
  obtain ⟨rfl, rfl, rfl⟩ := hv
  rcases hel with h | ⟨a, rfl, hS, hsz, hel⟩
  · exact .inl h
  · obtain ⟨olds, g1, g2, g3⟩ := Rp.cells xs 0 fun i y hy => by simpa using hel i y hy
    refine .inr ⟨a, olds, rfl, hn, hS, hsz, by rw [hn]; exact g1, fun j v hv => ?_, g3⟩
    have := g2 j v hv
    rw [add_add] at this
    simpa using this

/-- append on a full row: a new one. -/
theorem WO.appendFull {x y : Operand} {t e : TypeId} {sz by' n m : Nat} {zs : List Value} {ys : SV} (olds news : List Value) (hds : dsOk ds ops.toList = true) (hg : gd ds σ o.guard = some true) (hd : dOk σ o.dst = true)
    (hop : o.op = .call ⟨.builtin .append, #[x, y], #[t, t]⟩) (hx : ∃ s, ev σ x = some s ∧ ∀ ρ w, Base ρ σ w → ∃ p, den ρ s = .slice (some p) n n ∧ At w p olds) (hy : ev σ y = some ys) (he : elemK P t = some (e, sz, by', zs))
    (hlo : olds.length = n * sz) (hm : 0 < m)
    (hnews : ∀ ρ w, Base ρ σ w → ∃ a c, den ρ ys = .slice (some a) m c ∧ At w a news) (hl : news.length = m * sz) (h63 : n + m ≤ maxLen) (h47 : (n + m) * by' ≤ 140737488355328)
    (h : ∀ q c, WO P ops Q rest ((σ.pushO (.slice e sz (.slice q (n + m) c) (n + m) (olds ++ news))).put o.dst (.val (.slice q (n + m) c)))) : WO P ops Q (o :: rest) σ :=
  WO.one hds hg fun ρ a w hs => by
    obtain ⟨hu, i, z, hi, hz, hsz, hby, hzs, hpos, hzl⟩ := elemK_spec he
    obtain ⟨ad, c, hden, hat⟩ := hnews ρ w hs.base
    obtain ⟨s, hsx, hsx2⟩ := hx
    obtain ⟨p, hp, hol⟩ := hsx2 ρ w hs.base
    subst hsz
    have h63' : ((n + m : Nat) : Int) ≤ 9223372036854775807 := by rw [maxLen_eq] at h63; omega
    have hr := run_append_grow (P := P) w t o.type e i z hu hi hz p n n olds hlo hol ad m c news hl hat (by omega) h63' (growslice_fits (by omega) (by rw [hby]; exact h47))
    have hge := grownCap_ge w (n + m) n e
    have hlen : (olds ++ news).length = (n + m) * i.size := by rw [List.length_append, hlo, hl, Nat.add_mul]
    have hown : (w.drew.alloc (.cells (olds.toArray ++ news.toArray ++ Builtin.zeroCells z.cells (grownCap w (n + m) n e - (n + m))) e)).ownsRow 0 e i.size (.slice (some ⟨w.heap.size, 0, none⟩) (n + m) (grownCap w (n + m) n e)) (n + m) (olds ++ news) := by
      refine ⟨hlen, .inr ⟨w.heap.size, _, _, rfl, Nat.zero_le _, heap_alloc_new w.drew _, hge, grownCap_le_maxLen w (n + m) n e h63, ?_, ?_⟩⟩
      · simp only [Array.size_append, List.size_toArray, size_zeroCells, hzs, hlo, hl, ← Nat.add_mul]
        congr 1
        omega
      · simp only [Array.toList_append, List.append_assoc]
        rw [← List.append_assoc, ← hlen]
        exact List.take_left
    have hbel : Below w.heap.size w (w.drew.alloc (.cells (olds.toArray ++ news.toArray ++ Builtin.zeroCells z.cells (grownCap w (n + m) n e - (n + m))) e)) := ⟨rfl, rfl, rfl, by simp, fun k hk => heap_alloc_old w.drew _ hk⟩
    refine ⟨ρ, _, .slice (some ⟨w.heap.size, 0, none⟩) (n + m) (grownCap w (n + m) n e), _, .inl ?_, Sat.put (hs.pushO hbel (.slice e i.size (.slice (some ⟨w.heap.size, 0, none⟩) (n + m) (grownCap w (n + m) n e)) (n + m) (olds ++ news)) (fun _ _ h => by cases h) hown fun b hb => ?_) _ _ _ ?_ (fun _ _ => rfl), h _ _⟩
    · unfold execOp
      rw [hop]
      simp only [Sem.run_bind, resolve, List.map_toArray, List.map_cons, List.map_nil, Sem.run_pure, Result.andThen_ok, invoke, builtin]
      rw [hs.ev hsx ρ (Agree.refl _ _), hs.ev hy ρ (Agree.refl _ _), hden, hp]
      rw [hr]
      rfl
    · simp only [Own.num, Value.ownBlock, Option.some.injEq] at hb; omega
    · intro j hj; exact dOk_lt (σ := σ.pushO _) (by rw [dOk_pushO]; exact hd) j hj

/-! ### Slice expressions -/
/-- A bound: none, or a number. -/
def bdS (σ : St) : Option Operand → Option (Option (IntKind × Int))
  | none => some none
  | some x => match ev σ x with
    | some (.val (.int k i)) => some (some (k, i))
    | _ => none
def loS : Option (IntKind × Int) → Int
  | none => 0
  | some (_, i) => i
def hiS (n : Nat) : Option (IntKind × Int) → Int
  | none => n
  | some (_, i) => i
def slcV (sz : Nat) (p : Option Addr) (c l h : Nat) : Value := .slice (if c = l then p else p.map (·.add (l * sz))) (h - l) (c - l)

theorem bdS_ev {ρ : Nat → Nat} {a : Act} {w : World} (hs : Sat ρ σ a w) : ∀ {x : Option Operand} {r : Option (IntKind × Int)}, bdS σ x = some r → x.map a.eval = r.map fun q => Value.int q.1 q.2
  | none, r, h => by simp only [bdS, Option.some.injEq] at h; subst h; rfl
  | some x, r, h => by
    simp only [bdS] at h
    split at h
    · rename_i k i hx
      simp only [Option.some.injEq] at h
      subst h
      simp [hs.ev hx ρ (Agree.refl _ _), den]
    · cases h

theorem run_slc {t e : TypeId} {sz n c : Nat} {p : Option Addr} {lo hi : Option (IntKind × Int)} {w : World} (he : elemSz P t = some (e, sz)) (h0 : 0 ≤ loS lo) (h1 : loS lo ≤ hiS n hi) (h2 : hiS n hi ≤ c) :
    (Instr.sliceAt t (.slice p n c) (lo.map fun q => Value.int q.1 q.2) (hi.map fun q => Value.int q.1 q.2) none).run P w = .ok (slcV sz p c (loS lo).toNat (hiS n hi).toNat) w := by
  unfold elemSz at he
  split at he
  · rename_i e' hu
    cases hsz : szOf P e' with
    | none => rw [hsz] at he; cases he
    | some z =>
      rw [hsz] at he
      simp only [Option.map_some, Option.some.injEq, Prod.mk.injEq] at he
      obtain ⟨rfl, rfl⟩ := he
      have hse : P.elem t = e' := by unfold Program.elem; rw [hu]
      rw [← hse] at hu
      have hsz' := run_szOf (w := w) hsz
      rw [run_sliceAt_slice (h := hu)]
      rcases lo with _ | ⟨kl, l⟩ <;> rcases hi with _ | ⟨kh, h⟩ <;> simp only [loS, hiS, Option.map_some, Option.map_none] at h0 h1 h2 ⊢
      · rw [run_slice_all (ht := hu), hse, hsz']; simp [sliced, slcV, Result.andThen]
      · rw [run_slice_h (ht := hu) (h0 := h1) (h2 := h2), hse, hsz']; simp [sliced, slcV, Result.andThen]
      · rw [run_slice_l (ht := hu) (h0 := h0) (h1 := h1), hse, hsz']; simp [sliced, slcV, Result.andThen]
      · rw [run_slice_lh (ht := hu) (h0 := h0) (h1 := h1) (h2 := h2), hse, hsz']; simp [sliced, slcV, Result.andThen]
  · cases he

theorem WO.slc {t e : TypeId} {sz n c : Nat} {p : Option Addr} {x : Operand} {lo hi : Option Operand} {rl rh : Option (IntKind × Int)} (hds : dsOk ds ops.toList = true) (hg : gd ds σ o.guard = some true) (hd : dOk σ o.dst = true)
    (hop : o.op = .slice t x lo hi none) (hx : ev σ x = some (.val (.slice p n c))) (he : elemSz P t = some (e, sz)) (hl : bdS σ lo = some rl) (hh : bdS σ hi = some rh) (h0 : 0 ≤ loS rl) (h1 : loS rl ≤ hiS n rh) (h2 : hiS n rh ≤ c)
    (hk : WO P ops Q rest (σ.put o.dst (.val (slcV sz p c (loS rl).toNat (hiS n rh).toNat)))) : WO P ops Q (o :: rest) σ :=
  WO.one hds hg fun ρ a w hs => by
    refine ⟨ρ, _, _, w, .inl ?_, hs.put _ _ _ (dOk_lt hd) (fun ρ' hρ => rfl), hk⟩
    unfold execOp
    rw [hop]
    simp only [Sem.run_bind, Option.map_none, bdS_ev hs hl, bdS_ev hs hh, hs.ev hx ρ (Agree.refl _ _), den, run_slc he h0 h1 h2, Result.andThen_ok, Sem.run_pure]
    rfl
theorem WQ.slc {t e : TypeId} {sz n c : Nat} {p : Option Addr} {x : Operand} {lo hi : Option Operand} {rl rh : Option (IntKind × Int)} (hds : dsOk ds ops.toList = true) (hg : gd ds σ o.guard = some true) (hd : dOk σ o.dst = true)
    (hop : o.op = .slice t x lo hi none) (hx : ev σ x = some (.val (.slice p n c))) (he : elemSz P t = some (e, sz)) (hl : bdS σ lo = some rl) (hh : bdS σ hi = some rh) (h0 : 0 ≤ loS rl) (h1 : loS rl ≤ hiS n rh) (h2 : hiS n rh ≤ c)
    (hk : WQ P ops K rest (σ.put o.dst (.val (slcV sz p c (loS rl).toNat (hiS n rh).toNat)))) : WQ P ops K (o :: rest) σ :=
  WQ.one hds hg hd _ (fun ρ a w hs => by
    refine ⟨_, ?_, fun _ _ => rfl⟩
    unfold execOp
    rw [hop]
    simp only [Sem.run_bind, Option.map_none, bdS_ev hs hl, bdS_ev hs hh, hs.ev hx ρ (Agree.refl _ _), den, run_slc he h0 h1 h2, Result.andThen_ok, Sem.run_pure]
    rfl) hk

/-- What a slice expression of a list reads as. -/
theorem Rp.slc {α : Type} {A : Rp α} {S : Nat → Prop} {w : World} {p : Option Addr} {n c l h : Nat} {xs : List α} (hr : (Rp.slice A).rd S w [.slice p n c] xs) (h1 : l ≤ h) (h2 : h ≤ n) : (Rp.slice A).rd S w [slcV A.sz p c l h] ((xs.drop l).take (h - l)) := by
  obtain ⟨p', n', c', hv, hn, hnc, hcm, hel⟩ := hr
  simp only [List.cons.injEq, and_true, Value.slice.injEq] at hv
  obtain ⟨rfl, rfl, rfl⟩ := hv
  refine ⟨_, _, _, rfl, by simp; omega, by omega, by omega, ?_⟩
  by_cases he : h - l = 0
  · left; simp [he]
  rcases hel with h | ⟨a, rfl, hS, hsz, hel⟩
  · left; simp [h]
  · right
    refine ⟨a.add (l * A.sz), ?_, by rw [block_add]; exact hS, by rw [block_add]; exact hsz, fun i y hy => ?_⟩
    · rw [if_neg (by omega)]; rfl
    · rw [List.getElem?_take] at hy
      split at hy
      · rw [List.getElem?_drop] at hy
        obtain ⟨ces, g1, g2⟩ := hel _ y hy
        refine ⟨ces, ?_, g2⟩
        rw [add_add, ← Nat.add_mul]
        exact g1
      · cases hy

theorem Rp.one {α : Type} {A : Rp α} {S : Nat → Prop} {w : World} {ces : List Value} {y : α} (h : A.rd S w ces y) : ∀ i y', [y][i]? = some y' → A.rd S w ((ces.drop (i * A.sz)).take A.sz) y' := fun i y' hy => by
  cases i with
  | zero =>
    simp only [List.getElem?_cons_zero, Option.some.injEq] at hy
    subst hy
    rwa [Nat.zero_mul, List.drop_zero, List.take_of_length_le (by rw [A.len h]; exact Nat.le_refl _)]
  | succ i => simp at hy
theorem Rp.app {α : Type} {A : Rp α} {S : Nat → Prop} {w : World} {olds news : List Value} {xs ys : List α} (hl : olds.length = xs.length * A.sz) (g1 : ∀ i y, xs[i]? = some y → A.rd S w ((olds.drop (i * A.sz)).take A.sz) y) (g2 : ∀ i y, ys[i]? = some y → A.rd S w ((news.drop (i * A.sz)).take A.sz) y) :
    ∀ i y, (xs ++ ys)[i]? = some y → A.rd S w (((olds ++ news).drop (i * A.sz)).take A.sz) y := fun i y hy => by
  rw [List.getElem?_append] at hy
  split at hy
  · rename_i hi
    have h1 := g1 i y hy
    have : (i + 1) * A.sz ≤ xs.length * A.sz := Nat.mul_le_mul_right _ hi
    rw [Nat.add_mul, Nat.one_mul] at this
    rwa [List.drop_append_of_le_length (by omega), List.take_append_of_le_length (by simp; omega)]
  · rename_i hi
    have h1 := g2 _ y hy
    have : xs.length * A.sz ≤ i * A.sz := Nat.mul_le_mul_right _ (by omega)
    rw [List.drop_append, List.drop_eq_nil_of_le (by omega), List.nil_append]
    rwa [Nat.sub_mul, ← hl] at h1

/-! ### Results, for simp -/
theorem rr_1 (r) : resSV P σ [r] = resOne P σ r := by
  simp only [resSV, resAll]
  cases resOne P σ r <;> rfl
theorem rr_2 (r r2 l) : resSV P σ (r :: r2 :: l) = (resAll P σ (r :: r2 :: l)).map .tup := by
  simp only [resSV, resAll]
  cases resOne P σ r <;> cases resOne P σ r2 <;> cases resAll P σ l <;> rfl
theorem ra_c (r l) : resAll P σ (r :: l) = cons2 (resOne P σ r) (resAll P σ l) := by
  simp only [resAll]
  cases resOne P σ r <;> cases resAll P σ l <;> rfl
theorem ro_c (a t) : resOne P σ (.cell a t) = ld1 P σ t (getE σ.env a) := by
  simp only [resOne]
  cases getE σ.env a <;> rfl
theorem sxr : (∀ {P : Program} {σ : St}, resSV P σ [] = some (.tup [])) ∧ (∀ {P : Program} {σ : St} r, resSV P σ [r] = resOne P σ r) ∧ (∀ {P : Program} {σ : St} r r2 l, resSV P σ (r :: r2 :: l) = (resAll P σ (r :: r2 :: l)).map .tup) ∧
    (∀ {P : Program} {σ : St}, resAll P σ [] = some []) ∧ (∀ {P : Program} {σ : St} r l, resAll P σ (r :: l) = cons2 (resOne P σ r) (resAll P σ l)) ∧ (∀ {P : Program} {σ : St} t, resOne P σ (.tmp t) = getE σ.env t) ∧
    (∀ {P : Program} {σ : St} a t, resOne P σ (.cell a t) = ld1 P σ t (getE σ.env a)) ∧ (∀ (s : SV) (K : SV → Prop), RunR (some s) K = K s) :=
  ⟨rfl, fun r => rr_1 r, fun r r2 l => rr_2 r r2 l, rfl, fun r l => ra_c r l, fun _ => rfl, fun a t => ro_c a t, fun _ _ => rfl⟩
end
end Go.SX
