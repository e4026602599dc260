/-
  Regions that draw their order, whatever waits for whatever: each operation's value is known from what it must wait for; the state is told by the set of operations that have come up.
-/
import Derived.Test.YtnbfdncmlbegmaaSxStore
set_option linter.unusedVariables false
set_option linter.unusedSimpArgs false
namespace Go.SX
open Go Go.RowKit

/-- Of one operation: what must have come up ahead of it; of these, whose values it reads; which slots it reads as they were; which own blocks may turn meanwhile; which own block it turns; is that a new one. -/
structure Pl where
  bef : List Nat
  rd : List Nat
  old : List Nat
  gone : List Nat
  tgt : Option Nat
  new : Bool

def envR (ds : List (Option Nat)) (vs : List SV) : List Nat → List (Nat × SV)
  | [] => []
  | j :: l => match nth ds j, nth vs j with
    | some (some d), some s => (d, s) :: envR ds vs l
    | _, _ => envR ds vs l
def envO (e0 : List (Nat × SV)) : List Nat → List (Nat × SV)
  | [] => []
  | t :: l => match getE e0 t with
    | some s => (t, s) :: envO e0 l
    | none => envO e0 l
def kp2 (s : Option SV) (t : Nat) (E : List (Nat × SV)) : List (Nat × SV) := match s with
  | some s => (t, s) :: E
  | none => E
def ownS (tg : List (Option Nat)) (es : List (Option Own)) : List Nat → List Own → List Own
  | [], O => O
  | i :: l, O => ownS tg es l (match nth tg i, nth es i with
    | some (some k), some (some o) => setN O k o
    | _, _ => O)
def killG : List Nat → List Own → List Own
  | [], O => O
  | k :: l, O => killG l (setN O k .dead)
def stAt (σ : St) (ds tg : List (Option Nat)) (pad : List Own) (vs : List SV) (es : List (Option Own)) (p : Pl) : St :=
  ⟨σ.n, envR ds vs p.rd ++ envO σ.env p.old, killG p.gone (ownS tg es p.bef (σ.own ++ pad)), σ.snaps, σ.dfs⟩
def finS (σ : St) (ds tg : List (Option Nat)) (pad : List Own) (N : Nat) (vs : List SV) (es : List (Option Own)) : St :=
  ⟨σ.n, envR ds vs (List.range N) ++ σ.env, ownS tg es (List.range N) (σ.own ++ pad), σ.snaps, σ.dfs⟩

mutual
def ment (k : Nat) : SV → Bool
  | .val _ => false
  | .loc j _ => j == k
  | .lsl j _ _ _ => j == k
  | .agg cs => mentL k cs
  | .tup vs => mentL k vs
  | .fn _ a b => mentL k a || mentL k b
def mentL (k : Nat) : List SV → Bool
  | [] => false
  | s :: l => ment k s || mentL k l
end
mutual
theorem den_ment (ρ : Nat → Nat) {k b : Nat} : ∀ s, ment k s = false → den (upd ρ k b) s = den ρ s
  | .val _, _ => by simp [den]
  | .loc j _, h => by simp only [ment, beq_eq_false_iff_ne] at h; simp [den, upd, h]
  | .lsl j _ _ _, h => by simp only [ment, beq_eq_false_iff_ne] at h; simp [den, upd, h]
  | .agg cs, h => by simp only [den]; rw [denL_ment ρ cs (by simpa [ment] using h)]
  | .tup vs, h => by simp only [den]; rw [denL_ment ρ vs (by simpa [ment] using h)]
  | .fn _ a c, h => by
    simp only [ment, Bool.or_eq_false_iff] at h
    simp only [den]; rw [denL_ment ρ a h.1, denL_ment ρ c h.2]
theorem denL_ment (ρ : Nat → Nat) {k b : Nat} : ∀ l, mentL k l = false → denL (upd ρ k b) l = denL ρ l
  | [], _ => rfl
  | s :: l, h => by
    simp only [mentL, Bool.or_eq_false_iff] at h
    simp only [denL]; rw [den_ment ρ s h.1, denL_ment ρ l h.2]
end
def mentO (k : Nat) : Option Own → Bool
  | some (.cells _ cs) => mentL k cs
  | _ => false
def bndE (M : Nat) : Option Own → Bool
  | some o => o.bnd M
  | none => true
def isCells : Option Own → Bool
  | some (.cells _ _) => true
  | none => true
  | _ => false

section
variable {P : Program} {ops : Array Oper} {Q : Exit → St → Prop} {σ : St} {ds tg : List (Option Nat)} {pad : List Own}

/-- A value that the operation yields wherever the state is so, old memory lying as it was. -/
def QB (P : Program) (o : Oper) (st : St) (s : SV) : Prop := ∀ ρ a w, Sat ρ st a w →
  ((execOp a.eval o).run P w = .ok (.value (den ρ s)) w) ∨ ∃ f args, (execOp a.eval o).run P w = .ok (.enter f args) w ∧ Calls P f args w fun e w' => e = .returned (den ρ s) ∧ Below w.heap.size w w'
/-- A new block, at place k. -/
def NB (P : Program) (o : Oper) (st : St) (k : Nat) (T : TypeId) (cs : List SV) (s : SV) : Prop := ∀ ρ a w, Sat ρ st a w →
  (execOp a.eval o).run P w = .ok (.value (den (upd ρ k w.heap.size) s)) { w with heap := w.heap.push (.cells (denL ρ cs).toArray T) }

def OpOK (P : Program) (ds : List (Option Nat)) (st : St) (p : Pl) (o : Oper) (s : SV) (e : Option Own) : Prop :=
  gd ds st o.guard = some true ∧
  ((p.tgt = none ∧ e = none ∧ QB P o st s) ∨
   (∃ k T cs, p.tgt = some k ∧ p.new = true ∧ e = some (.cells T cs) ∧ NB P o st k T cs s) ∨
   (∃ k t x y off u T cs, p.tgt = some k ∧ p.new = false ∧ o.op = .store t x y ∧ ev st x = some (.loc k off) ∧ ev st y = some u ∧ nth st.own k = some (.cells T cs) ∧ szOf P t = some (cellsS u).length ∧ off + (cellsS u).length ≤ cs.length ∧ (cellsS u).all oneS = true ∧ s = .val undef ∧ e = some (.cells T (splice cs off (cellsS u)))))

def okAll (pls : List Pl) (vs : List SV) (es : List (Option Own)) (own : List Own) (M : Nat) : Bool :=
  own.all (fun o => o.bnd own.length) && vs.all (bnd M) && es.all (bndE M) && es.all isCells &&
    (List.range pls.length).all fun i => match nth pls i with
      | some p => match p.new, p.tgt with
        | true, some k => (List.range pls.length).all fun j => (match nth pls j with | some q => q.bef.contains i | none => false) || (((j == i) || (match nth vs j with | some s => !ment k s | none => true)) && (match nth es j with | some e => !mentO k e | none => true))
        | _, _ => true
      | none => true

def WS (P : Program) (ds tg : List (Option Nat)) (σ : St) (pad : List Own) (Q : Exit → St → Prop) (N : Nat) (pls : List Pl) : List Oper → List Pl → List SV → List (Option Own) → Prop
  | [], _, vs, es => okAll pls vs es σ.own (σ.own.length + pad.length) = true ∧ Q .normal (finS σ ds tg pad N vs es)
  | _ :: _, [], _, _ => False
  | o :: l, p :: ps, vs, es => ∃ s e, OpOK P ds (stAt σ ds tg pad vs es p) p o s e ∧ WS P ds tg σ pad Q N pls l ps (vs ++ [s]) (es ++ [e])

def befOf (pls : List Pl) (i : Nat) : List Nat := match nth pls i with
  | some p => p.bef
  | none => []
/-- The plan fits the region's edges. -/
def planB (ops : Array Oper) (ds tg : List (Option Nat)) (pls : List Pl) (n m M : Nat) : Bool :=
  dsOk ds ops.toList && (ds.length == ops.size) && (pls.length == ops.size) && (tg == pls.map (·.tgt)) && (ds.all fun d => match d with | some d => decide (d < n) | none => true) &&
  (List.range ops.size).all fun i => match nth pls i with
    | none => false
    | some p =>
      (p.bef == (List.range i).filter fun j => p.bef.contains j) &&
      (p.bef.all fun j => Region.waitsFor .any ops i j || (List.range i).any fun k => Region.waitsFor .any ops i k && (befOf pls k).contains j) &&
      (p.rd.all fun j => p.bef.contains j) &&
      (p.old.all fun t => (List.range ops.size).all fun j => !(nth ds j == some (some t)) || (befOf pls j).contains i) &&
      (match nth ds i with | some (some d) => (List.range i).all fun j => !(nth ds j == some (some d)) | _ => true) &&
      (match p.tgt with
       | some k => decide (k < M) && !(p.gone.contains k) && (if p.new then decide (m ≤ k) && (List.range i).all fun j => !(nth tg j == some (some k)) else true)
       | none => true) &&
      (List.range ops.size).all fun l => (l == i) || (match nth tg l with
        | some (some k) => (match p.tgt with | some k' => if k = k' then (if l < i then p.bef.contains l else (befOf pls l).contains i) else true | none => true) && (p.bef.contains l || (befOf pls l).contains i || p.gone.contains k)
        | _ => true)

/-! ### Proof -/
theorem getE_app : ∀ (l m : List (Nat × SV)) (t : Nat), getE (l ++ m) t = match getE l t with | some s => some s | none => getE m t
  | [], m, t => rfl
  | (j, s) :: l, m, t => by
    simp only [List.cons_append, getE]
    by_cases h : j = t
    · simp [h]
    · simp [h, getE_app l m t]
theorem envR_get {vs : List SV} {t : Nat} {s : SV} : ∀ {l : List Nat}, getE (envR ds vs l) t = some s → ∃ j, j ∈ l ∧ nth ds j = some (some t) ∧ nth vs j = some s
  | [], h => by simp [envR, getE] at h
  | j :: l, h => by
    simp only [envR] at h
    split at h
    · rename_i d s' h1 h2
      simp only [getE] at h
      split at h
      · rename_i he
        subst he
        simp only [Option.some.injEq] at h
        subst h
        exact ⟨j, by simp, h1, h2⟩
      · obtain ⟨k, h3, h4⟩ := envR_get h
        exact ⟨k, by simp [h3], h4⟩
    · obtain ⟨k, h3, h4⟩ := envR_get h
      exact ⟨k, by simp [h3], h4⟩
theorem envR_none {vs : List SV} {t : Nat} : ∀ {l : List Nat}, getE (envR ds vs l) t = none → ∀ j, j ∈ l → nth ds j = some (some t) → nth vs j = none
  | [], _, j, hj, _ => by cases hj
  | i :: l, h, j, hj, hd => by
    simp only [envR] at h
    rcases List.mem_cons.1 hj with rfl | hj
    · rw [hd] at h
      cases hv : nth vs j with
      | none => rfl
      | some s => simp [hv, getE] at h
    · split at h
      · simp only [getE] at h
        split at h
        · cases h
        · exact envR_none h j hj hd
      · exact envR_none h j hj hd
theorem envO_get {e0 : List (Nat × SV)} {t : Nat} {s : SV} : ∀ {l : List Nat}, getE (envO e0 l) t = some s → t ∈ l ∧ getE e0 t = some s
  | [], h => by simp [envO, getE] at h
  | u :: l, h => by
    simp only [envO] at h
    split at h
    · rename_i s' h1
      simp only [getE] at h
      split at h
      · rename_i he
        subst he
        simp only [Option.some.injEq] at h
        subst h
        exact ⟨by simp, h1⟩
      · obtain ⟨h3, h4⟩ := envO_get h
        exact ⟨by simp [h3], h4⟩
    · obtain ⟨h3, h4⟩ := envO_get h
      exact ⟨by simp [h3], h4⟩

def stepO (tg : List (Option Nat)) (es : List (Option Own)) (O : List Own) (i : Nat) : List Own := match nth tg i, nth es i with
  | some (some k), some (some o) => setN O k o
  | _, _ => O
theorem ownS_cons (es : List (Option Own)) (i : Nat) (l : List Nat) (O : List Own) : ownS tg es (i :: l) O = ownS tg es l (stepO tg es O i) := rfl
theorem stepO_len (es : List (Option Own)) (O : List Own) (i : Nat) : (stepO tg es O i).length = O.length := by
  unfold stepO; split <;> simp [setN_eq]
theorem ownS_len (es : List (Option Own)) : ∀ (l : List Nat) (O : List Own), (ownS tg es l O).length = O.length
  | [], O => rfl
  | i :: l, O => by rw [ownS_cons, ownS_len es l, stepO_len]
theorem ownS_app (es : List (Option Own)) : ∀ (l m : List Nat) (O : List Own), ownS tg es (l ++ m) O = ownS tg es m (ownS tg es l O)
  | [], m, O => rfl
  | i :: l, m, O => by rw [List.cons_append, ownS_cons, ownS_cons, ownS_app es l m]
theorem stepO_at (es : List (Option Own)) (O : List Own) (i k : Nat) : (stepO tg es O i)[k]? = if nth tg i = some (some k) then (match nth es i with | some (some o) => if k < O.length then some o else none | _ => O[k]?) else O[k]? := by
  unfold stepO
  split
  · rename_i k' o h1 h2
    rw [setN_eq, List.getElem?_set]
    by_cases h : k' = k
    · subst h; simp [h1, h2]
    · rw [if_neg h, if_neg (by rw [h1]; simp [h])]
  · rename_i hno
    split
    · rename_i h1
      split
      · rename_i o h2; exact absurd h2 (hno k o h1)
      · rfl
    · rfl
theorem ownS_filter (es : List (Option Own)) (k : Nat) : ∀ (l : List Nat) (O O' : List Own), O.length = O'.length → O[k]? = O'[k]? → (ownS tg es l O)[k]? = (ownS tg es (l.filter fun i => nth tg i == some (some k)) O')[k]?
  | [], O, O', _, h => h
  | i :: l, O, O', hl, h => by
    by_cases hi : nth tg i = some (some k)
    · rw [List.filter_cons_of_pos (by simp [hi]), ownS_cons, ownS_cons]
      refine ownS_filter es k l _ _ (by rw [stepO_len, stepO_len, hl]) ?_
      rw [stepO_at, stepO_at, if_pos hi, if_pos hi, hl, h]
    · rw [List.filter_cons_of_neg (by simp [hi]), ownS_cons]
      refine ownS_filter es k l _ _ (by rw [stepO_len, hl]) ?_
      rw [stepO_at, if_neg hi, h]
theorem range_lt (c : Nat → Bool) (i : Nat) : ∀ d, (List.range i).filter c = (List.range (i + d)).filter fun j => decide (j < i) && c j
  | 0 => by
    refine List.filter_congr fun j hj => ?_
    have := List.mem_range.1 hj
    simp [this]
  | d + 1 => by
    rw [show i + (d + 1) = (i + d) + 1 by omega, List.range_succ, List.filter_append, ← range_lt c i d]
    simp [show ¬ i + d < i by omega]
/-- Two sets of operations that hold the same ones that turn block k. -/
theorem ownS_same (es : List (Option Own)) (k : Nat) (O : List Own) {N : Nat} (a b : Nat → Bool) (h : ∀ j, j < N → nth tg j = some (some k) → a j = b j) : (ownS tg es ((List.range N).filter a) O)[k]? = (ownS tg es ((List.range N).filter b) O)[k]? := by
  have he : ((List.range N).filter a).filter (fun i => nth tg i == some (some k)) = ((List.range N).filter b).filter (fun i => nth tg i == some (some k)) := by
    rw [List.filter_filter, List.filter_filter]
    refine List.filter_congr fun j hj => ?_
    by_cases hq : nth tg j = some (some k)
    · rw [h j (List.mem_range.1 hj) hq]
    · rw [show (nth tg j == some (some k)) = false by simpa using hq]; rfl
  rw [ownS_filter es k _ O O rfl rfl, ownS_filter es k ((List.range N).filter b) O O rfl rfl, he]

theorem killG_len : ∀ (l : List Nat) (O : List Own), (killG l O).length = O.length
  | [], O => rfl
  | k :: l, O => by simp [killG, killG_len l, setN_eq]
theorem killG_at : ∀ (l : List Nat) (O : List Own) (k : Nat) (o : Own), (killG l O)[k]? = some o → o = .dead ∨ (O[k]? = some o)
  | [], O, k, o, h => .inr h
  | j :: l, O, k, o, h => by
    rcases killG_at l _ k o h with h1 | h1
    · exact .inl h1
    · rw [setN_eq, List.getElem?_set] at h1
      split at h1
      · split at h1
        · exact .inl (Option.some.inj h1).symm
        · cases h1
      · exact .inr h1
theorem killG_not : ∀ (l : List Nat) (O : List Own) (k : Nat), k ∉ l → (killG l O)[k]? = O[k]?
  | [], O, k, _ => rfl
  | j :: l, O, k, h => by
    simp only [List.mem_cons, not_or] at h
    simp only [killG]
    rw [killG_not l _ k h.2, setN_eq, List.getElem?_set_ne (Ne.symm h.1)]
theorem killG_in : ∀ (l : List Nat) (O : List Own) (k : Nat) (o : Own), k ∈ l → (killG l O)[k]? = some o → o = .dead
  | [], O, k, o, h, _ => by cases h
  | j :: l, O, k, o, h, hk => by
    simp only [killG] at hk
    by_cases hl : k ∈ l
    · exact killG_in l _ k o hl hk
    · rw [killG_not l _ k hl] at hk
      rcases List.mem_cons.1 h with rfl | h
      · rw [setN_eq, List.getElem?_set] at hk
        simp only [if_true] at hk
        split at hk
        · exact (Option.some.inj hk).symm
        · cases hk
      · exact absurd h hl

/-- Fewer blocks are spoken of. -/
theorem Base.weak {ρ : Nat → Nat} {w : World} {n n' : Nat} {e e' : List (Nat × SV)} {U V : List Own} {sn : List ((Nat → Prop) × World)} {F : List Dm} (hb : Base ρ ⟨n, e, U, sn, F⟩ w) (hl : V.length = U.length) (h : ∀ (k : Nat) (o : Own), V[k]? = some o → o = .dead ∨ U[k]? = some o) : Base ρ ⟨n', e', V, sn, F⟩ w := by
  refine ⟨fun k o hk ρ' hρ => ?_, fun i j oi oj b hi hj hni hnj => ?_, fun p hp => ⟨(hb.keep p hp).1, fun k o b hk hn hS => ?_⟩⟩
  · rcases h k o hk with rfl | h1
    · trivial
    · exact hb.own k o h1 ρ' (by rw [show ({ n := n, env := e, own := U, snaps := sn } : St).own.length = V.length from hl.symm]; exact hρ)
  · rcases h i oi hi with rfl | h1
    · cases hni
    · rcases h j oj hj with rfl | h2
      · cases hnj
      · exact hb.apart i j oi oj b h1 h2 hni hnj
  · rcases h k o hk with rfl | h1
    · cases hn
    · exact (hb.keep p hp).2 k o b h1 hn hS

/-- A new block comes to a place that was kept for it. -/
theorem Base.place {ρ : Nat → Nat} {w : World} {n : Nat} {e : List (Nat × SV)} {U : List Own} {sn : List ((Nat → Prop) × World)} {F : List Dm} (hb : Base ρ ⟨n, e, U, sn, F⟩ w) {k : Nat} (hk : U[k]? = some .dead) {T : TypeId} {cs : List SV} (hbd : bndL U.length cs = true) (hm : mentL k cs = false)
    (hc : ∀ (j : Nat) (o : Own), U[j]? = some o → mentO k (some o) = false) : Base (upd ρ k w.heap.size) ⟨n, e, U.set k (.cells T cs), sn, F⟩ { w with heap := w.heap.push (.cells (denL ρ cs).toArray T) } := by
  have hkl : k < U.length := (List.getElem?_eq_some_iff.1 hk).1
  have hb' : Below w.heap.size w { w with heap := w.heap.push (.cells (denL ρ cs).toArray T) } := below_push w _
  have hcase : ∀ (j : Nat) (o : Own), (U.set k (.cells T cs))[j]? = some o → (j = k ∧ o = .cells T cs) ∨ (j ≠ k ∧ U[j]? = some o) := fun j o hj => by
    by_cases h : j = k
    · subst h; rw [List.getElem?_set_self hkl] at hj; exact .inl ⟨rfl, (Option.some.inj hj).symm⟩
    · rw [List.getElem?_set_ne (Ne.symm h)] at hj; exact .inr ⟨h, hj⟩
  have hnum : ∀ j (o : Own), j ≠ k → o.num (upd ρ k w.heap.size) j = o.num ρ j := fun j o h => by cases o <;> simp [Own.num, upd, h]
  have hlt : ∀ j (o : Own) b, U[j]? = some o → o.num ρ j = some b → b < w.heap.size := fun j o b hj hn => Own.lt (hb.own j o hj ρ (Agree.refl _ _)) hn
  refine ⟨fun j o hj ρ' hρ => ?_, fun i j oi oj b hi hj hni hnj => ?_, fun p hp => ?_⟩
  · have hρl : Agree U.length (upd ρ k w.heap.size) ρ' := by
      have : ({ n := n, env := e, own := U.set k (.cells T cs), snaps := sn } : St).own.length = U.length := by simp
      rw [this] at hρ; exact hρ
    rcases hcase j o hj with ⟨rfl, rfl⟩ | ⟨h1, h2⟩
    · simp only [Own.holds]
      have e1 : ρ' j = w.heap.size := by rw [hρl j hkl]; simp [upd]
      rw [e1, denL_agree hρl cs hbd, denL_ment ρ cs hm]
      simp
    · have hag : Agree U.length ρ (upd ρ' k (ρ k)) := fun i hi => by
        by_cases hik : i = k
        · subst hik; simp [upd]
        · have := hρl i hi; simp [upd, hik] at this ⊢; exact this
      have h3 := hb.own j o h2 _ hag
      have h4 : o.holds ρ' j w := by
        cases o with
        | cells T' cs' =>
          simp only [Own.holds] at h3 ⊢
          rw [denL_ment ρ' cs' (by simpa [mentO] using hc j _ h2)] at h3
          simpa [upd, h1] using h3
        | slice => exact h3
        | map => exact h3
        | dead => trivial
      exact Own.holds_same h4 fun b hn => hb'.block b (Own.lt h4 hn)
  · rcases hcase i oi hi with ⟨rfl, rfl⟩ | ⟨h1, h2⟩ <;> rcases hcase j oj hj with ⟨rfl, rfl⟩ | ⟨h3, h4⟩
    · rfl
    · rw [hnum j oj h3] at hnj
      have := hlt j oj b h4 hnj
      simp [Own.num, upd] at hni; omega
    · rw [hnum i oi h1] at hni
      have := hlt i oi b h2 hni
      simp [Own.num, upd] at hnj; omega
    · exact hb.apart i j oi oj b h2 h4 (by rw [← hnum i oi h1]; exact hni) (by rw [← hnum j oj h3]; exact hnj)
  · obtain ⟨h1, h2⟩ := hb.keep p hp
    refine ⟨h1.below hb', fun j o b hj hn hS => ?_⟩
    rcases hcase j o hj with ⟨rfl, rfl⟩ | ⟨h3, h4⟩
    · simp [Own.num, upd] at hn; have := h1.size; omega
    · rw [hnum j o h3] at hn
      exact h2 j o b h4 hn hS

theorem ownS_last {es : List (Option Own)} {O : List Own} {N i k : Nat} {o : Own} {a : Nat → Bool} (hi : i < N) (ht : nth tg i = some (some k)) (he : nth es i = some (some o)) (hk : k < O.length) (ha : a i = true)
    (hl : ∀ l, i < l → l < N → nth tg l = some (some k) → a l = false) : (ownS tg es ((List.range N).filter a) O)[k]? = some o := by
  obtain ⟨d, rfl⟩ : ∃ d, N = (i + 1) + d := ⟨N - (i + 1), by omega⟩
  rw [ownS_same es k O a (fun j => decide (j < i + 1) && a j) (fun j hj hq => by
    by_cases h : j < i + 1
    · simp [h]
    · rw [hl j (by omega) hj hq]; simp [h]), ← range_lt a (i + 1) d, List.range_succ, List.filter_append, ownS_app]
  have : [i].filter a = [i] := by simp [ha]
  rw [this, ownS_cons, ownS, stepO_at, if_pos ht, he]
  simp [ownS_len, hk]
theorem ownS_from {es : List (Option Own)} : ∀ (l : List Nat) (O : List Own) (k : Nat) (o : Own), (ownS tg es l O)[k]? = some o → O[k]? = some o ∨ ∃ i, i ∈ l ∧ nth es i = some (some o)
  | [], O, k, o, h => .inl h
  | i :: l, O, k, o, h => by
    rcases ownS_from l _ k o h with h1 | ⟨j, h1, h2⟩
    · rw [show (match nth tg i, nth es i with | some (some k), some (some o) => setN O k o | _, _ => O) = stepO tg es O i from rfl, stepO_at] at h1
      split at h1
      · split at h1
        · rename_i o' ho
          split at h1
          · obtain rfl := Option.some.inj h1; exact .inr ⟨i, by simp, ho⟩
          · cases h1
        · exact .inl h1
      · exact .inl h1
    · exact .inr ⟨j, by simp [h1], h2⟩

mutual
theorem bnd_ment {m k : Nat} (hk : m ≤ k) : ∀ s, bnd m s = true → ment k s = false
  | .val _, _ => rfl
  | .loc j _, h => by simp only [bnd, decide_eq_true_eq] at h; simp only [ment, beq_eq_false_iff_ne]; omega
  | .lsl j _ _ _, h => by simp only [bnd, decide_eq_true_eq] at h; simp only [ment, beq_eq_false_iff_ne]; omega
  | .agg cs, h => by simp only [ment]; exact bndL_ment hk cs (by simpa [bnd] using h)
  | .tup vs, h => by simp only [ment]; exact bndL_ment hk vs (by simpa [bnd] using h)
  | .fn _ a b, h => by
    simp only [bnd, Bool.and_eq_true] at h
    simp only [ment, bndL_ment hk a h.1, bndL_ment hk b h.2, Bool.or_self]
theorem bndL_ment {m k : Nat} (hk : m ≤ k) : ∀ l, bndL m l = true → mentL k l = false
  | [], _ => rfl
  | s :: l, h => by
    simp only [bndL, Bool.and_eq_true] at h
    simp only [mentL, bnd_ment hk s h.1, bndL_ment hk l h.2, Bool.or_self]
end
theorem bndO_ment {m k : Nat} (hk : m ≤ k) {o : Own} (h : o.bnd m = true) : mentO k (some o) = false := by
  cases o with
  | cells T cs => exact bndL_ment hk cs h
  | _ => rfl

structure PlanOK0 (ops : Array Oper) (ds tg : List (Option Nat)) (pls : List Pl) (n m M : Nat) : Prop where
  hds : dsOk ds ops.toList = true
  hdl : ds.length = ops.size
  hpl : pls.length = ops.size
  htg : ∀ i p, nth pls i = some p → nth tg i = some p.tgt
  hdn : ∀ i d, nth ds i = some (some d) → d < n
  bef : ∀ i p, nth pls i = some p → p.bef = (List.range i).filter fun j => p.bef.contains j
  clo : ∀ i p, nth pls i = some p → ∀ j, j ∈ p.bef → Region.waitsFor .any ops i j = true ∨ ∃ k, k < i ∧ Region.waitsFor .any ops i k = true ∧ j ∈ befOf pls k
  rdb : ∀ i p, nth pls i = some p → ∀ j, j ∈ p.rd → j ∈ p.bef
  old : ∀ i p, nth pls i = some p → ∀ t, t ∈ p.old → ∀ j, j < ops.size → nth ds j = some (some t) → i ∈ befOf pls j
  dist : ∀ i p, nth pls i = some p → ∀ d, nth ds i = some (some d) → ∀ j, j < i → nth ds j ≠ some (some d)
  tgt : ∀ i p, nth pls i = some p → ∀ k, p.tgt = some k → k < M ∧ k ∉ p.gone ∧ (p.new = true → m ≤ k ∧ ∀ j, j < i → nth tg j ≠ some (some k))
  oth : ∀ i p, nth pls i = some p → ∀ l, l < ops.size → l ≠ i → ∀ k, nth tg l = some (some k) → (p.tgt = some k → (l < i → l ∈ p.bef) ∧ (¬ l < i → i ∈ befOf pls l)) ∧ (l ∈ p.bef ∨ i ∈ befOf pls l ∨ k ∈ p.gone)

/-- Edges lead back. -/
def dirB (ops : Array Oper) : Bool := (List.range ops.size).all fun i => match ops[i]? with
  | some o => o.after.toList.all fun e => !Region.binds .any e || decide (e.on < i)
  | none => true
theorem dirB_spec (h : dirB ops = true) : ∀ (i : Nat) (e : Edge) {o : Oper}, e ∈ o.after → Region.binds .any e = true → ops[i]? = some o → e.on < i := fun i e o he hb ho => by
  have hi := (Array.getElem?_eq_some_iff.1 ho).1
  have := List.all_eq_true.1 h i (List.mem_range.2 hi)
  rw [ho] at this
  have := List.all_eq_true.1 this e (by simpa using he)
  rw [hb] at this
  simpa using this
structure PlanOK (ops : Array Oper) (ds tg : List (Option Nat)) (pls : List Pl) (n m M : Nat) : Prop extends PlanOK0 ops ds tg pls n m M where
  dir : ∀ (i : Nat) (e : Edge) {o : Oper}, e ∈ o.after → Region.binds .any e = true → ops[i]? = some o → e.on < i
/-- Places are kept for what will be made. -/
theorem Base.pads {ρ : Nat → Nat} {w : World} (hb : Base ρ σ w) (hpad : ∀ x, x ∈ pad → x = .dead) : Base ρ ⟨σ.n, [], σ.own ++ pad, σ.snaps, σ.dfs⟩ w := by
  have hcase : ∀ (k : Nat) (o : Own), (σ.own ++ pad)[k]? = some o → o = .dead ∨ (k < σ.own.length ∧ σ.own[k]? = some o) := fun k o hk => by
    rcases Nat.lt_or_ge k σ.own.length with h | h
    · rw [List.getElem?_append_left h] at hk; exact .inr ⟨h, hk⟩
    · rw [List.getElem?_append_right h] at hk; exact .inl (hpad o (List.mem_of_getElem? hk))
  refine ⟨fun k o hk ρ' hρ => ?_, fun i j oi oj b hi hj hni hnj => ?_, fun p hp => ⟨(hb.keep p hp).1, fun k o b hk hn hS => ?_⟩⟩
  · rcases hcase k o hk with rfl | ⟨h1, h2⟩
    · trivial
    · exact hb.own k o h2 ρ' (hρ.mono (by simp))
  · rcases hcase i oi hi with rfl | ⟨_, h1⟩
    · cases hni
    · rcases hcase j oj hj with rfl | ⟨_, h2⟩
      · cases hnj
      · exact hb.apart i j oi oj b h1 h2 hni hnj
  · rcases hcase k o hk with rfl | ⟨_, h1⟩
    · cases hn
    · exact (hb.keep p hp).2 k o b h1 hn hS
theorem planB_spec {pls : List Pl} {n m M : Nat} (h : planB ops ds tg pls n m M = true) : PlanOK0 ops ds tg pls n m M := by
  simp only [planB, Bool.and_eq_true, beq_iff_eq] at h
  obtain ⟨⟨⟨⟨⟨h1, h2⟩, h3⟩, h4⟩, h5⟩, h6⟩ := h
  have hnth : ∀ i p, nth pls i = some p → i < ops.size := fun i p hp => by
    rw [nth_eq] at hp; have := (List.getElem?_eq_some_iff.1 hp).1; omega
  have key := fun i p (hp : nth pls i = some p) => by
    have := List.all_eq_true.1 h6 i (List.mem_range.2 (hnth i p hp))
    rw [hp] at this
    simpa only [Bool.and_eq_true, beq_iff_eq] using this
  refine ⟨h1, h2, h3, fun i p hp => ?_, fun i d hd => ?_, fun i p hp => ?_, fun i p hp j hj => ?_, fun i p hp j hj => ?_, fun i p hp t ht j hj hd => ?_, fun i p hp d hd j hj he => ?_, fun i p hp k hk => ?_, fun i p hp l hl hne k hk => ?_⟩
  · rw [h4, nth_eq, List.getElem?_map, ← nth_eq, hp]; rfl
  · rw [nth_eq] at hd
    have := List.all_eq_true.1 h5 _ (List.mem_of_getElem? hd)
    simpa using this
  · exact (key i p hp).1.1.1.1.1.1
  · have := List.all_eq_true.1 (key i p hp).1.1.1.1.1.2 j hj
    simp only [Bool.or_eq_true, List.any_eq_true, Bool.and_eq_true, List.mem_range, List.contains_iff_mem] at this
    rcases this with h | ⟨k, h1, h2, h3⟩
    · exact .inl h
    · exact .inr ⟨k, h1, h2, h3⟩
  · have := List.all_eq_true.1 (key i p hp).1.1.1.1.2 j hj
    simpa using this
  · have := List.all_eq_true.1 (List.all_eq_true.1 (key i p hp).1.1.1.2 t ht) j (List.mem_range.2 hj)
    simp only [Bool.or_eq_true, hd] at this
    simpa using this
  · have := (key i p hp).1.1.2
    rw [hd] at this
    have := List.all_eq_true.1 this j (List.mem_range.2 hj)
    rw [he] at this
    simp at this
  · have := (key i p hp).1.2
    rw [hk] at this
    simp only [Bool.and_eq_true, decide_eq_true_eq, Bool.not_eq_true'] at this
    refine ⟨this.1.1, by simpa using this.1.2, fun hn => ?_⟩
    have h9 := this.2
    rw [if_pos hn] at h9
    simp only [Bool.and_eq_true, decide_eq_true_eq] at h9
    refine ⟨h9.1, fun j hj he => ?_⟩
    have := List.all_eq_true.1 h9.2 j (List.mem_range.2 hj)
    rw [he] at this
    simp at this
  · have := List.all_eq_true.1 (key i p hp).2 l (List.mem_range.2 hl)
    rw [show (l == i) = false by simpa using hne, Bool.false_or, hk] at this
    simp only [Bool.and_eq_true, Bool.or_eq_true, List.contains_iff_mem] at this
    refine ⟨fun ht => ?_, ?_⟩
    · have h9 := this.1
      rw [ht] at h9
      simp only [if_true] at h9
      refine ⟨fun hlt => ?_, fun hge => ?_⟩
      · rw [if_pos hlt] at h9; simpa using h9
      · rw [if_neg hge] at h9; simpa using h9
    · rcases this.2 with (h | h) | h
      · exact .inl h
      · exact .inr (.inl h)
      · exact .inr (.inr h)

theorem WS.all {N : Nat} {pls : List Pl} : ∀ (l : List Oper) (ps : List Pl) (vs : List SV) (es : List (Option Own)), WS P ds tg σ pad Q N pls l ps vs es → l.length = ps.length → vs.length = es.length →
    ∃ vs' es', vs'.length = vs.length + l.length ∧ es'.length = vs'.length ∧ (∀ i, i < vs.length → nth vs' i = nth vs i ∧ nth es' i = nth es i) ∧ okAll pls vs' es' σ.own (σ.own.length + pad.length) = true ∧ Q .normal (finS σ ds tg pad N vs' es') ∧
      ∀ i o p, l[i]? = some o → ps[i]? = some p → ∃ s e, nth vs' (vs.length + i) = some s ∧ nth es' (vs.length + i) = some e ∧ OpOK P ds (stAt σ ds tg pad (vs'.take (vs.length + i)) (es'.take (vs.length + i)) p) p o s e
  | [], ps, vs, es, h, _, hl => ⟨vs, es, rfl, hl.symm, fun _ _ => ⟨rfl, rfl⟩, h.1, h.2, fun i o p ho => by simp at ho⟩
  | o :: l, [], vs, es, h, hl, _ => by simp at hl
  | o :: l, p :: ps, vs, es, h, hl, hv => by
    obtain ⟨s, e, h1, h2⟩ := h
    obtain ⟨vs', es', g1, g2, g3, g4, g5, g6⟩ := WS.all l ps _ _ h2 (by simpa using hl) (by simp [hv])
    have g3' : ∀ i, i < vs.length → nth vs' i = nth vs i ∧ nth es' i = nth es i := fun i hi => by
      obtain ⟨e1, e2⟩ := g3 i (by simp; omega)
      rw [e1, e2]
      simp only [nth_eq]
      rw [List.getElem?_append_left hi, List.getElem?_append_left (by omega)]
      exact ⟨rfl, rfl⟩
    have hsz : ∀ {α : Type} (a b : List α) n, n ≤ a.length → n ≤ b.length → (∀ i, i < n → nth a i = nth b i) → a.take n = b.take n := fun a b n ha hb h => by
      apply List.ext_getElem?
      intro i
      rw [List.getElem?_take, List.getElem?_take]
      split
      · rename_i hi; have := h i hi; simpa only [nth_eq] using this
      · rfl
    refine ⟨vs', es', by simp at g1 ⊢; omega, g2, g3', g4, g5, fun i o' p' ho hp => ?_⟩
    cases i with
    | zero =>
      simp only [List.getElem?_cons_zero, Option.some.injEq] at ho hp
      subst ho; subst hp
      have hlv : vs.length < (vs ++ [s]).length := by simp
      obtain ⟨e1, e2⟩ := g3 vs.length hlv
      refine ⟨s, e, by rw [Nat.add_zero, e1, nth_eq]; simp, by rw [Nat.add_zero, e2, nth_eq, hv]; simp, ?_⟩
      have t1 : vs'.take vs.length = vs := by
        rw [hsz vs' vs vs.length (by simp at g1; omega) (Nat.le_refl _) fun i hi => (g3' i hi).1, List.take_length]
      have t2 : es'.take vs.length = es := by
        rw [hsz es' es vs.length (by simp at g1; omega) (by omega) fun i hi => (g3' i hi).2, hv, List.take_length]
      rw [Nat.add_zero, t1, t2]
      exact h1
    | succ i =>
      have := g6 i o' p' (by simpa using ho) (by simpa using hp)
      simpa [Nat.add_assoc, Nat.add_comm 1] using this

theorem envR_take (vs : List SV) {i : Nat} : ∀ (l : List Nat), (∀ j, j ∈ l → j < i) → envR ds (vs.take i) l = envR ds vs l
  | [], _ => rfl
  | j :: l, h => by
    have hj : nth (vs.take i) j = nth vs j := by rw [nth_eq, nth_eq, List.getElem?_take_of_lt (h j (by simp))]
    simp only [envR, hj, envR_take vs l fun j hj => h j (by simp [hj])]
theorem ownS_take (es : List (Option Own)) {i : Nat} : ∀ (l : List Nat) (O : List Own), (∀ j, j ∈ l → j < i) → ownS tg (es.take i) l O = ownS tg es l O
  | [], _, _ => rfl
  | j :: l, O, h => by
    have hj : nth (es.take i) j = nth es j := by rw [nth_eq, nth_eq, List.getElem?_take_of_lt (h j (by simp))]
    simp only [ownS, hj, ownS_take es l _ fun j hj => h j (by simp [hj])]

/-- What holds of a set of operations that have come up. -/
def SInv (ops : Array Oper) (ds tg : List (Option Nat)) (pls : List Pl) (σ : St) (pad : List Own) (vs : List SV) (es : List (Option Own)) (ρ0 : Nat → Nat) (a0 : Act) (listed : Array Bool) (a : Act) (w : World) : Prop :=
  listed.size = ops.size ∧ (∀ i, listed.getD i false = true → ∀ j, j ∈ befOf pls i → listed.getD j false = true) ∧ a.tmps.size = σ.n ∧ a.defers = σ.dfs.map mark ∧
  ∃ ρ, Agree σ.own.length ρ0 ρ ∧ (∀ i d s, listed.getD i false = true → nth ds i = some (some d) → nth vs i = some s → a.tmps[d]? = some (den ρ s)) ∧
    (∀ t, (∀ i, listed.getD i false = true → nth ds i ≠ some (some t)) → a.tmps[t]? = a0.tmps[t]?) ∧
    Base ρ ⟨σ.n, [], ownS tg es ((List.range ops.size).filter fun j => listed.getD j false) (σ.own ++ pad), σ.snaps, σ.dfs⟩ w

theorem getD_setT {listed : Array Bool} {i j : Nat} (hi : i < listed.size) : (listed.setIfInBounds i true).getD j false = (decide (i = j) || listed.getD j false) := by
  by_cases h : i = j
  · subst h; simp [Array.getD_eq_getD_getElem?, hi]
  · simp [Array.getD_eq_getD_getElem?, h, Array.getElem?_setIfInBounds_ne h]

theorem dsOk_at : ∀ {ds : List (Option Nat)} {l : List Oper} {i : Nat} {x : Option Nat} {o : Oper}, dsOk ds l = true → l[i]? = some o → nth ds i = some x → x = o.dst
  | [], _, _, _, _, _, _, h => by simp [nth] at h
  | _ :: _, [], _, _, _, h, _, _ => by cases h
  | d :: ds, q :: l, i, x, o, h, ho, hx => by
    simp only [dsOk, Bool.and_eq_true] at h
    cases i with
    | zero =>
      simp only [nth, if_true, Option.some.injEq] at hx
      simp only [List.getElem?_cons_zero, Option.some.injEq] at ho
      subst hx; subst ho
      have h1 := h.1
      cases d <;> cases hq : q.dst <;> simp [hq] at h1 ⊢
      exact h1
    | succ i =>
      simp only [nth, Nat.add_one_ne_zero, if_false, Nat.add_sub_cancel] at hx
      exact dsOk_at h.2 (by simpa using ho) hx
theorem S_step {pls : List Pl} {vs : List SV} {es : List (Option Own)} {ρ0 : Nat → Nat} {a0 : Act} {w0 : World} {listed : Array Bool} {a : Act} {w : World} {i : Nat} {o : Oper} {p : Pl} {s : SV} {e : Option Own} {Q' : Exit → Act → World → Prop} {K : Act → World → Prop}
    (hpad : ∀ x, x ∈ pad → x = .dead) (H : PlanOK ops ds tg pls σ.n σ.own.length (σ.own.length + pad.length)) (h0 : Sat ρ0 σ a0 w0) (hok : okAll pls vs es σ.own (σ.own.length + pad.length) = true) (hlv : vs.length = ops.size) (hle : es.length = ops.size)
    (inv : SInv ops ds tg pls σ pad vs es ρ0 a0 listed a w) (hr : i ∈ Region.ready .any ops listed) (ho : ops[i]? = some o) (hp : nth pls i = some p) (hs : nth vs i = some s) (he : nth es i = some e) (hop : OpOK P ds (stAt σ ds tg pad vs es p) p o s e)
    (hK : ∀ a' w', SInv ops ds tg pls σ pad vs es ρ0 a0 (listed.setIfInBounds i true) a' w' → K a' w') : wpOp P ops Q' i K a w := by
  obtain ⟨hsz, hcl, hta, hde, ρ, hag, E1, E0, hB⟩ := inv
  obtain ⟨hun, oi, hoi, hall⟩ := mem_ready.1 hr
  obtain rfl : oi = o := Option.some.inj (hoi.symm.trans ho)
  have hi : i < ops.size := (Array.getElem?_eq_some_iff.1 ho).1
  have hil : i < listed.size := by omega
  have hni : listed.getD i false = false := getD_both hun
  have hbi : befOf pls i = p.bef := by unfold befOf; rw [hp]
  have hbl : ∀ j, j ∈ p.bef → listed.getD j false = true := fun j hj => by
    have hdir : ∀ k, Region.waitsFor .any ops i k = true → listed.getD k false = true := fun k hk => by
      obtain ⟨oj, h1, x, h2, h3, rfl⟩ := Region.waitsFor_spec hk
      obtain rfl : oj = oi := Option.some.inj (h1.symm.trans ho)
      exact hall x h2 h3
    rcases H.clo i p hp j hj with h | ⟨k, _, h1, h2⟩
    · exact hdir j h
    · exact hcl k (hdir k h1) j h2
  have hblt : ∀ j, j ∈ p.bef → j < i := fun j hj => by
    rw [H.bef i p hp] at hj
    exact List.mem_range.1 (List.mem_filter.1 hj).1
  have hlater : ∀ l, listed.getD l false = true → i ∉ befOf pls l := fun l hl hm => by
    have := hcl l hl i hm; rw [hni] at this; cases this
  simp only [okAll, Bool.and_eq_true] at hok
  obtain ⟨⟨⟨⟨ok0, ok1⟩, ok2⟩, ok3⟩, ok4⟩ := hok
  have hbv : ∀ j u, nth vs j = some u → bnd (σ.own.length + pad.length) u = true := fun j u hu => by
    rw [nth_eq] at hu; exact List.all_eq_true.1 ok1 u (List.mem_of_getElem? hu)
  have hden : ∀ j u ρ', nth vs j = some u → Agree (σ.own.length + pad.length) ρ ρ' → den ρ' u = den ρ u := fun j u ρ' hu hρ => den_agree hρ u (hbv j u hu)
  have hown : ∀ k, k ∉ p.gone → (stAt σ ds tg pad vs es p).own[k]? = (ownS tg es ((List.range ops.size).filter fun j => listed.getD j false) (σ.own ++ pad))[k]? := fun k hk => by
    simp only [stAt]
    rw [killG_not _ _ k hk, H.bef i p hp]
    obtain ⟨d, hd⟩ : ∃ d, ops.size = i + d := ⟨ops.size - i, by omega⟩
    rw [range_lt _ i d, ← hd]
    refine ownS_same es k _ _ _ fun j hj hq => ?_
    by_cases hji : j = i
    · subst hji; simp [hni]
    · rcases (H.oth i p hp j hj hji k hq).2 with h | h | h
      · rw [hbl j h]; simp [h, hblt j h]
      · cases hl : listed.getD j false with
        | true => exact absurd h (hlater j hl)
        | false =>
          cases hc : p.bef.contains j with
          | false => simp
          | true => have := hbl j (by simpa using hc); rw [hl] at this; cases this
      · exact absurd h hk
  have hlen : ∀ l, (ownS tg es l (σ.own ++ pad)).length = σ.own.length + pad.length := fun l => by rw [ownS_len]; simp
  have hstl : (stAt σ ds tg pad vs es p).own.length = σ.own.length + pad.length := by simp only [stAt, killG_len, hlen]
  have henv : ∀ t u, getE (stAt σ ds tg pad vs es p).env t = some u → t < σ.n ∧ ∀ ρ', Agree (σ.own.length + pad.length) ρ ρ' → a.tmps[t]? = some (den ρ' u) := fun t u h => by
    simp only [stAt] at h
    rw [getE_app] at h
    split at h
    · rename_i u' h1
      obtain rfl := Option.some.inj h
      obtain ⟨j, hj, hd, hv⟩ := envR_get h1
      refine ⟨H.hdn j t hd, fun ρ' hρ => ?_⟩
      rw [E1 j t u' (hbl j (H.rdb i p hp j hj)) hd hv, hden j u' ρ' hv hρ]
    · obtain ⟨ht, hg⟩ := envO_get h
      obtain ⟨h1, h2⟩ := h0.env t u hg
      refine ⟨h1, fun ρ' hρ => ?_⟩
      rw [E0 t fun j hj hd => ?_]
      · exact h2 ρ' fun q hq => by rw [hρ q (by omega), hag q hq]
      · have hjs : j < ops.size := by
          have := (List.getElem?_eq_some_iff.1 (by rw [← nth_eq]; exact hd)).1
          rw [H.hdl] at this; exact this
        exact hlater j hj (H.old i p hp t ht j hjs hd)
  have hst : Sat ρ (stAt σ ds tg pad vs es p) a w := by
    refine ⟨hta, hde, fun t u h => ?_, ?_⟩
    · obtain ⟨h1, h2⟩ := henv t u h
      exact ⟨h1, fun ρ' hρ => h2 ρ' (by rw [hstl] at hρ; exact hρ)⟩
    · refine Base.weak (U := ownS tg es ((List.range ops.size).filter fun j => listed.getD j false) (σ.own ++ pad)) hB (by rw [hlen]; exact hstl) fun k o' hk => ?_
      by_cases hg : k ∈ p.gone
      · exact .inl (killG_in _ _ _ _ hg hk)
      · right; rw [← hown k hg]; exact hk
  obtain ⟨hgd, hop⟩ := hop
  have hwant := gd_sound hst H.hds hgd
  have hL' : ∀ j, (listed.setIfInBounds i true).getD j false = true → j = i ∨ listed.getD j false = true := fun j hj => by
    rw [getD_setT hil] at hj
    simp only [Bool.or_eq_true, decide_eq_true_eq] at hj
    rcases hj with rfl | h
    · exact .inl rfl
    · exact .inr h
  have mk : ∀ (ρ' : Nat → Nat) (v : Value) (w' : World), Agree σ.own.length ρ0 ρ' → v = den ρ' s → (∀ j u, listed.getD j false = true → nth vs j = some u → den ρ' u = den ρ u) →
      Base ρ' ⟨σ.n, [], ownS tg es ((List.range ops.size).filter fun j => (listed.setIfInBounds i true).getD j false) (σ.own ++ pad), σ.snaps, σ.dfs⟩ w' → SInv ops ds tg pls σ pad vs es ρ0 a0 (listed.setIfInBounds i true) (a.put oi.dst v) w' := fun ρ' v w' h1 h2 h3 h4 => by
    have hdi : ∀ d, nth ds i = some (some d) ↔ oi.dst = some d := fun d => by
      have hdl := H.hdl
      have hlt : i < ds.length := by omega
      obtain ⟨x, hx⟩ : ∃ x, nth ds i = some x := ⟨ds[i], by rw [nth_eq]; exact List.getElem?_eq_getElem hlt⟩
      have hx2 : x = oi.dst := dsOk_at H.hds (by simpa using ho) hx
      rw [hx, hx2]; simp
    refine ⟨by simpa using hsz, fun j hj q hq => ?_, by cases hd : oi.dst <;> simpa [hd, Act.put] using hta, by cases hd : oi.dst <;> simpa [hd, Act.put] using hde, ρ', h1, fun j d u hj hd hu => ?_, fun t ht => ?_, h4⟩
    · rw [getD_setT hil]
      rcases hL' j hj with rfl | hj
      · rw [hbi] at hq; rw [hbl q hq]; simp
      · rw [hcl j hj q hq]; simp
    · rcases hL' j hj with rfl | hjl
      · have hd' := (hdi d).1 hd
        obtain rfl : s = u := Option.some.inj (hs.symm.trans hu)
        have hlt : d < a.tmps.size := by rw [hta]; exact H.hdn j d hd
        rw [hd']
        simp [Act.put, hlt, h2]
      · have hne : ∀ d', oi.dst = some d' → d' ≠ d := fun d' hd' he => by
          subst he
          have hjs : j < ops.size := by
            have := (List.getElem?_eq_some_iff.1 (by rw [← nth_eq]; exact hd)).1
            rw [H.hdl] at this; exact this
          have hji : j ≠ i := fun h => by subst h; rw [hni] at hjl; cases hjl
          rcases Nat.lt_or_ge j i with h | h
          · exact H.dist i p hp d' ((hdi d').2 hd') j h hd
          · have hpl := H.hpl
            obtain ⟨q, hq⟩ : ∃ q, nth pls j = some q := ⟨pls[j], by rw [nth_eq]; exact List.getElem?_eq_getElem (by omega)⟩
            exact H.dist j q hq d' hd i (by omega) ((hdi d').2 hd')
        have : (a.put oi.dst v).tmps[d]? = a.tmps[d]? := by
          cases hdd : oi.dst with
          | none => rfl
          | some d' => simp only [Act.put]; exact Array.getElem?_setIfInBounds_ne (hne d' hdd)
        rw [this, E1 j d u hjl hd hu, h3 j u hjl hu]
    · have hti : oi.dst ≠ some t := fun h => ht i (by rw [getD_setT hil]; simp) ((hdi t).2 h)
      have : (a.put oi.dst v).tmps[t]? = a.tmps[t]? := by
        cases hdd : oi.dst with
        | none => rfl
        | some d' => simp only [Act.put]; exact Array.getElem?_setIfInBounds_ne fun h => hti (by rw [hdd, h])
      rw [this, E0 t fun j hj => ht j (by rw [getD_setT hil, hj]; simp)]
  unfold wpOp
  simp only [ho, hwant, if_true]
  refine .inl ?_
  unfold Oper.wp
  have same : ∀ k, p.tgt ≠ some k → (ownS tg es ((List.range ops.size).filter fun j => (listed.setIfInBounds i true).getD j false) (σ.own ++ pad))[k]? = (ownS tg es ((List.range ops.size).filter fun j => listed.getD j false) (σ.own ++ pad))[k]? := fun k hk =>
    ownS_same es k _ _ _ fun j hj hq => by
      rw [getD_setT hil]
      have hji : i ≠ j := fun h => by
        subst h
        rw [H.htg i p hp] at hq
        exact hk (Option.some.inj hq)
      simp [hji]
  have turned : ∀ k x, p.tgt = some k → e = some x → ownS tg es ((List.range ops.size).filter fun j => (listed.setIfInBounds i true).getD j false) (σ.own ++ pad) = (ownS tg es ((List.range ops.size).filter fun j => listed.getD j false) (σ.own ++ pad)).set k x := fun k x hk hx => by
    have hkM := (H.tgt i p hp k hk).1
    apply List.ext_getElem?
    intro q
    by_cases hq : k = q
    · subst hq
      rw [List.getElem?_set_self (by rw [hlen]; exact hkM)]
      refine ownS_last hi (by rw [H.htg i p hp, hk]) (by rw [he, hx]) (by simpa using hkM) (by rw [getD_setT hil]; simp) fun l hil' hl hq => ?_
      have hlg : (listed.getD l false) = false := by
        cases hl2 : listed.getD l false with
        | false => rfl
        | true => exact absurd (((H.oth i p hp l hl (by omega) k hq).1 hk).2 (by omega)) (hlater l hl2)
      rw [getD_setT hil, hlg]; simp; omega
    · rw [List.getElem?_set_ne hq]
      exact same q fun h => hq (by rw [hk] at h; exact Option.some.inj h)
  rcases hop with ⟨ht, rfl, hq⟩ | ⟨k, T, cs, ht, hnew, rfl, hnb⟩ | ⟨k, t, x, y, off, u, T, cs, ht, hnew, hopx, hex, hey, hkc, hszt, hoff, hone, rfl, rfl⟩
  · have hsame : ownS tg es ((List.range ops.size).filter fun j => (listed.setIfInBounds i true).getD j false) (σ.own ++ pad) = ownS tg es ((List.range ops.size).filter fun j => listed.getD j false) (σ.own ++ pad) := by
      apply List.ext_getElem?
      intro k
      exact same k (by rw [ht]; simp)
    rcases hq ρ a w hst with hrun | ⟨f, args, hrun, hcall⟩
    · rw [hrun, Oper.upon_value]
      exact hK _ _ (mk ρ _ w hag rfl (fun _ _ _ _ => rfl) (by rw [hsame]; exact hB))
    · rw [hrun, Oper.upon_enter]
      refine Calls.mono hcall fun e' w' ⟨h1, h2⟩ => ?_
      subst h1
      exact hK _ _ (mk ρ _ w' hag rfl (fun _ _ _ _ => rfl) (by rw [hsame]; exact hB.below h2))
  · obtain ⟨hkM, hkg, hkn⟩ := H.tgt i p hp k ht
    obtain ⟨hmk, hfirst⟩ := hkn hnew
    have hmx : ∀ j q, j < pls.length → nth pls j = some q → i ∈ q.bef ∨ ((j = i ∨ ∀ u, nth vs j = some u → ment k u = false) ∧ (∀ u, nth es j = some u → mentO k u = false)) := fun j q hj hq => by
      have hpl := H.hpl
      have h1 := List.all_eq_true.1 ok4 i (List.mem_range.2 (by omega))
      simp only [hp, hnew, ht] at h1
      have h2 := List.all_eq_true.1 h1 j (List.mem_range.2 hj)
      simp only [hq, Bool.or_eq_true, Bool.and_eq_true, beq_iff_eq, List.contains_iff_mem] at h2
      rcases h2 with h | h
      · exact .inl h
      · refine .inr ⟨?_, fun u hu => ?_⟩
        · rcases h.1 with h3 | h3
          · exact .inl h3
          · refine .inr fun u hu => ?_
            rw [hu] at h3; simpa using h3
        · have := h.2; rw [hu] at this; simpa using this
    have hnot : ∀ j, listed.getD j false = true → (∀ u, nth vs j = some u → ment k u = false) ∧ (∀ u, nth es j = some u → mentO k u = false) := fun j hj => by
      by_cases hjs : j < pls.length
      · obtain ⟨q, hq⟩ : ∃ q, nth pls j = some q := ⟨pls[j], by rw [nth_eq]; exact List.getElem?_eq_getElem hjs⟩
        rcases hmx j q hjs hq with h | ⟨h | h, h'⟩
        · exact absurd (show i ∈ befOf pls j by unfold befOf; rw [hq]; exact h) (hlater j hj)
        · subst h; rw [hni] at hj; cases hj
        · exact ⟨h, h'⟩
      · have hpl := H.hpl
        exact ⟨fun u hu => (by rw [nth_eq, List.getElem?_eq_none (by omega)] at hu; cases hu), fun u hu => (by rw [nth_eq, List.getElem?_eq_none (by omega)] at hu; cases hu)⟩
    have hdead : (ownS tg es ((List.range ops.size).filter fun j => listed.getD j false) (σ.own ++ pad))[k]? = some .dead := by
      have h1 := ownS_same (tg := tg) es k (σ.own ++ pad) (N := ops.size) (fun j => listed.getD j false) (fun _ => false) fun j hj hq => by
        by_cases hji : j = i
        · subst hji; exact hni
        · cases hl : listed.getD j false with
          | false => rfl
          | true =>
            rcases Nat.lt_or_ge j i with h | h
            · exact absurd hq (hfirst j h)
            · exact absurd (((H.oth i p hp j hj hji k hq).1 ht).2 (by omega)) (hlater j hl)
      rw [h1, show (List.range ops.size).filter (fun _ => false) = [] from List.filter_eq_nil_iff.2 fun _ _ => by simp]
      show (σ.own ++ pad)[k]? = _
      rw [List.getElem?_append_right hmk]
      have : k - σ.own.length < pad.length := by omega
      rw [List.getElem?_eq_getElem this, hpad _ (List.getElem_mem this)]
    have hbcs : bndL (σ.own.length + pad.length) cs = true := by
      have := List.all_eq_true.1 ok2 _ (List.mem_of_getElem? (by rw [← nth_eq]; exact he))
      exact this
    have hmcs : mentL k cs = false := by
      have hpl := H.hpl
      rcases hmx i p (by omega) hp with h | ⟨_, h⟩
      · exact absurd (hblt i h) (Nat.lt_irrefl i)
      · exact h _ he
    rw [hnb ρ a w hst, Oper.upon_value]
    refine hK _ _ (mk (upd ρ k w.heap.size) _ _ (fun q hq => ?_) rfl (fun j u hj hu => den_ment ρ u ((hnot j hj).1 u hu)) ?_)
    · have : q ≠ k := by omega
      simp [upd, this, hag q hq]
    · rw [turned k _ ht rfl]
      refine hB.place hdead (by rw [hlen]; exact hbcs) hmcs fun j o' hj => ?_
      rcases ownS_from _ _ _ _ hj with h | ⟨l, hl, h⟩
      · rcases Nat.lt_or_ge j σ.own.length with hjm | hjm
        · rw [List.getElem?_append_left hjm] at h
          exact bndO_ment hmk (List.all_eq_true.1 ok0 o' (List.mem_of_getElem? h))
        · rw [List.getElem?_append_right hjm] at h
          rw [hpad _ (List.mem_of_getElem? h)]
          rfl
      · exact (hnot l (List.mem_filter.1 hl).2).2 _ h
  · have hkg := (H.tgt i p hp k ht).2.1
    rw [nth_eq, hown k hkg] at hkc
    have hfull : Sat ρ { stAt σ ds tg pad vs es p with own := ownS tg es ((List.range ops.size).filter fun j => listed.getD j false) (σ.own ++ pad) } a w := by
      refine ⟨hta, hde, fun t' u' h => ?_, hB.same rfl rfl⟩
      obtain ⟨h1, h2⟩ := henv t' u' h
      exact ⟨h1, fun ρ' hρ => h2 ρ' (by rw [show ({ stAt σ ds tg pad vs es p with own := ownS tg es ((List.range ops.size).filter fun j => listed.getD j false) (σ.own ++ pad) } : St).own.length = σ.own.length + pad.length from hlen _] at hρ; exact hρ)⟩
    have hstore : storeS P { stAt σ ds tg pad vs es p with own := ownS tg es ((List.range ops.size).filter fun j => listed.getD j false) (σ.own ++ pad) } t u (.loc k off) = some (setOwn { stAt σ ds tg pad vs es p with own := ownS tg es ((List.range ops.size).filter fun j => listed.getD j false) (σ.own ++ pad) } k (.cells T (splice cs off (cellsS u)))) := by
      simp only [storeS, nth_eq, hkc, hszt, if_true, if_pos hoff, hone]
    have hu : ∀ ρ', Agree ({ stAt σ ds tg pad vs es p with own := ownS tg es ((List.range ops.size).filter fun j => listed.getD j false) (σ.own ++ pad) } : St).own.length ρ ρ' → den ρ' u = den ρ u := fun ρ' hρ => by
      rw [← hfull.ev (x := y) hey ρ' hρ, ← hfull.ev (x := y) hey ρ (Agree.refl _ _)]
    obtain ⟨w', hrun, hs'⟩ := storeS_run hfull hu hstore
    have hexec : (execOp a.eval oi).run P w = .ok .skip w' := by
      unfold execOp
      rw [hopx]
      simp only [Sem.run_bind, hst.ev hex ρ (Agree.refl _ _), hst.ev hey ρ (Agree.refl _ _)]
      rw [hrun]
      rfl
    rw [hexec, Oper.upon_skip]
    refine hK _ _ (mk ρ _ w' hag rfl (fun _ _ _ _ => rfl) ?_)
    rw [turned k _ ht rfl, ← setN_eq]
    exact hs'.base.same rfl rfl

theorem filter_one : ∀ (l : List Nat) (q : Nat → Bool) (i : Nat), l.Nodup → i ∈ l → q i = true → (l.filter fun j => q j && !(i == j)).length + 1 = (l.filter q).length
  | [], q, i, _, hi, _ => by cases hi
  | x :: l, q, i, hn, hi, hq => by
    rw [List.nodup_cons] at hn
    by_cases hx : i = x
    · subst hx
      rw [List.filter_cons_of_neg (by simp), List.filter_cons_of_pos hq, List.length_cons]
      congr 2
      refine List.filter_congr fun j hj => ?_
      have : i ≠ j := fun h => hn.1 (h ▸ hj)
      simp [this]
    · have hil : i ∈ l := by
        rcases List.mem_cons.1 hi with h | h
        · exact absurd h hx
        · exact h
      have ih := filter_one l q i hn.2 hil hq
      by_cases hqx : q x = true
      · rw [List.filter_cons_of_pos (by simp [hqx, hx]), List.filter_cons_of_pos hqx, List.length_cons, List.length_cons]
        omega
      · rw [List.filter_cons_of_neg (by simp [hqx]), List.filter_cons_of_neg hqx]
        exact ih

theorem S_any {pls : List Pl} {vs : List SV} {es : List (Option Own)} {ρ0 : Nat → Nat} {a0 : Act} {w0 : World} {Q' : Exit → Act → World → Prop}
    (hpad : ∀ x, x ∈ pad → x = .dead) (H : PlanOK ops ds tg pls σ.n σ.own.length (σ.own.length + pad.length)) (h0 : Sat ρ0 σ a0 w0) (hok : okAll pls vs es σ.own (σ.own.length + pad.length) = true) (hlv : vs.length = ops.size) (hle : es.length = ops.size)
    (hops : ∀ i o p, ops[i]? = some o → nth pls i = some p → ∃ s e, nth vs i = some s ∧ nth es i = some e ∧ OpOK P ds (stAt σ ds tg pad vs es p) p o s e)
    (hQ : ∀ listed a w, SInv ops ds tg pls σ pad vs es ρ0 a0 listed a w → (∀ i, i < ops.size → listed.getD i false = true) → Q' .normal a w) :
    ∀ (f : Nat) (listed : Array Bool) (a : Act) (w : World), ((List.range ops.size).filter fun j => !listed.getD j false).length = f → SInv ops ds tg pls σ pad vs es ρ0 a0 listed a w → wpAny P .any ops Q' f listed a w
  | 0, listed, a, w, hf, inv => by
    have hall : ∀ i, i < ops.size → listed.getD i false = true := fun i hi => by
      have h1 := List.eq_nil_of_length_eq_zero hf
      rw [List.filter_eq_nil_iff] at h1
      simpa using h1 i (List.mem_range.2 hi)
    refine ⟨?_, hQ listed a w inv hall⟩
    cases hr : Region.ready .any ops listed with
    | nil => rfl
    | cons i l =>
      have : i ∈ Region.ready .any ops listed := by rw [hr]; simp
      obtain ⟨h1, o, h2, _⟩ := mem_ready.1 this
      have h3 := hall i (Array.getElem?_eq_some_iff.1 h2).1
      rw [getD_both h1] at h3; cases h3
  | f + 1, listed, a, w, hf, inv => by
    have hne : Region.ready .any ops listed ≠ [] := by
      have hex : ∃ i, i < ops.size ∧ listed.getD i false = false := by
        cases hl : (List.range ops.size).filter fun j => !listed.getD j false with
        | nil => rw [hl] at hf; simp at hf
        | cons i l =>
          have : i ∈ (List.range ops.size).filter fun j => !listed.getD j false := by rw [hl]; simp
          obtain ⟨h1, h2⟩ := List.mem_filter.1 this
          exact ⟨i, List.mem_range.1 h1, by simpa using h2⟩
      have key : ∀ n i, i < n → i < ops.size → listed.getD i false = false → Region.ready .any ops listed ≠ [] := by
        intro n
        induction n with
        | zero => intro i h; omega
        | succ n ih =>
          intro i hin hi hl
          by_cases hr : i ∈ Region.ready .any ops listed
          · exact fun h => by rw [h] at hr; cases hr
          · have ho : ops[i]? = some ops[i] := Array.getElem?_eq_getElem hi
            have hun : listed.getD i true = false := getD_in (by rw [inv.1]; exact hi) hl
            have : ∃ e, e ∈ (ops[i]).after ∧ Region.binds .any e = true ∧ listed.getD e.on false = false := by
              by_cases h : ∃ e, e ∈ (ops[i]).after ∧ Region.binds .any e = true ∧ listed.getD e.on false = false
              · exact h
              · exact absurd (mem_ready.2 ⟨hun, ops[i], ho, fun e he hb => by
                  cases hx : listed.getD e.on false with
                  | true => rfl
                  | false => exact absurd ⟨e, he, hb, hx⟩ h⟩) hr
            obtain ⟨e, he, hb, hx⟩ := this
            have hlt : e.on < i := H.dir i e he hb ho
            exact ih e.on (by omega) (by omega) hx
      obtain ⟨i, h1, h2⟩ := hex
      exact key (i + 1) i (by omega) h1 h2
    refine ⟨fun h => absurd h hne, fun i hi => ?_⟩
    obtain ⟨hun, o, ho, _⟩ := mem_ready.1 hi
    have his := (Array.getElem?_eq_some_iff.1 ho).1
    have hpl := H.hpl
    obtain ⟨p, hp⟩ : ∃ p, nth pls i = some p := ⟨pls[i], by rw [nth_eq]; exact List.getElem?_eq_getElem (by omega)⟩
    obtain ⟨s, e, hs, he, hop⟩ := hops i o p ho hp
    refine S_step hpad H h0 hok hlv hle inv hi ho hp hs he hop fun a' w' inv' => S_any hpad H h0 hok hlv hle hops hQ f _ a' w' ?_ inv'
    have hsz := inv.1
    have h1 := filter_one (List.range ops.size) (fun j => !listed.getD j false) i List.nodup_range (List.mem_range.2 his) (by simp [getD_both hun])
    have h2 : ((List.range ops.size).filter fun j => !(listed.setIfInBounds i true).getD j false) = (List.range ops.size).filter fun j => (!listed.getD j false) && !(i == j) := by
      refine List.filter_congr fun j hj => ?_
      rw [getD_setT (by omega)]
      by_cases h : i = j
      · simp [h]
      · simp [h]
    rw [h2]
    omega

/-- A region that draws its order: every operation's value is known from what it waits for. -/
theorem W.regionS {rO : Option Nat} {id : Nat} (pls : List Pl) (c m n : Nat) (hm : P.follows .mixedOrders = true) (hsm : σ.own.length = m) (hsn : σ.n = n) (hB : planB ops ds tg pls n m (m + c) = true) (hB2 : dirB ops = true)
    (h : WS P ds tg σ (List.replicate c .dead) Q ops.size pls ops.toList pls [] []) (hp : rO = none ∨ (ops.toList.all (fun o => opPlain o.op) = true ∧ ∀ σ, ¬ Q .outgrown σ) := by first | exact .inl rfl | exact .inr ⟨rfl, fun _ h => h⟩) : WR rO P (.region id ops true) Q σ := fun ρ a w hs => by
  subst hsm; subst hsn
  have H := planB_spec hB
  have hD := dirB_spec hB2
  obtain ⟨vs, es, g1, g2, _, g4, g5, g6⟩ := WS.all ops.toList pls [] [] h (by rw [H.hpl]; simp) rfl
  have hlv : vs.length = ops.size := by simpa using g1
  have hpadl : (List.replicate c Own.dead).length = c := by simp
  suffices key : wpAny P .any ops (lift Q) ops.size (Array.replicate ops.size false) a { w with drawn := w.drawn + 1 } by
    rcases hp with rfl | ⟨h1, h2⟩
    · exact of_wp (wp_region_any hm key)
    · refine wpIn_region_draw fun t => ?_
      simp only [Region.schedule, hm, Bool.true_or, if_true]
      exact wpOps_in (letsOut_lift h2) h1 _ _ _ (wpAny_sound ops.size t _ a _ key)
  have hs' : Sat ρ σ a { w with drawn := w.drawn + 1 } := hs.below (below_drew w)
  have inv0 : SInv ops ds tg pls σ (List.replicate c .dead) vs es ρ a (Array.replicate ops.size false) a { w with drawn := w.drawn + 1 } := by
    refine ⟨by simp, fun i hi => (by rw [getD_replicate_false] at hi; cases hi), hs.size, hs.defers, ρ, Agree.refl _ _, fun i d s hi => (by rw [getD_replicate_false] at hi; cases hi), fun t _ => rfl, ?_⟩
    have : ((List.range ops.size).filter fun j => (Array.replicate ops.size false).getD j false) = [] := by
      rw [List.filter_eq_nil_iff]; intro j _; rw [getD_replicate_false]; simp
    rw [this]
    exact hs'.base.pads (fun x hx => (List.mem_replicate.1 hx).2)
  have hfin : ∀ listed a' w', SInv ops ds tg pls σ (List.replicate c .dead) vs es ρ a listed a' w' → (∀ i, i < ops.size → listed.getD i false = true) → lift Q .normal a' w' := fun listed a' w' inv hall => by
    obtain ⟨hsz, hcl, hta, hde, ρ', hag, E1, E0, hBs⟩ := inv
    have hfl : ((List.range ops.size).filter fun j => listed.getD j false) = List.range ops.size := by
      rw [List.filter_eq_self]; intro j hj; exact hall j (List.mem_range.1 hj)
    rw [hfl] at hBs
    simp only [okAll, Bool.and_eq_true] at g4
    obtain ⟨⟨⟨⟨ok0, ok1⟩, ok2⟩, ok3⟩, ok4⟩ := g4
    refine ⟨ρ', finS σ ds tg (List.replicate c .dead) ops.size vs es, ⟨hta, hde, fun t u hg => ?_, hBs.same rfl rfl⟩, g5⟩
    have hol : (finS σ ds tg (List.replicate c .dead) ops.size vs es).own.length = σ.own.length + c := by simp [finS, ownS_len]
    rw [hol]
    simp only [finS] at hg
    rw [getE_app] at hg
    split at hg
    · rename_i u' h1
      obtain rfl := Option.some.inj hg
      obtain ⟨j, hj, hd, hv⟩ := envR_get h1
      refine ⟨H.hdn j t hd, fun ρ'' hρ => ?_⟩
      rw [E1 j t u' (hall j (List.mem_range.1 hj)) hd hv]
      rw [nth_eq] at hv
      rw [den_agree hρ u' (by have := List.all_eq_true.1 ok1 u' (List.mem_of_getElem? hv); rwa [hpadl] at this)]
    · rename_i h1
      obtain ⟨h2, h3⟩ := hs.env t u hg
      refine ⟨h2, fun ρ'' hρ => ?_⟩
      rw [E0 t fun j hj hd => ?_]
      · exact h3 ρ'' fun q hq => by rw [hρ q (by omega), hag q hq]
      · have hjs : j < ops.size := by
          have := (List.getElem?_eq_some_iff.1 (by rw [← nth_eq]; exact hd)).1
          rw [H.hdl] at this; exact this
        have := envR_none h1 j (List.mem_range.2 hjs) hd
        rw [nth_eq, List.getElem?_eq_getElem (by omega)] at this
        cases this
  have hcount : ((List.range ops.size).filter fun j => !(Array.replicate ops.size false).getD j false).length = ops.size := by
    rw [List.filter_eq_self.2 (fun j _ => by rw [getD_replicate_false]; rfl), List.length_range]
  refine S_any (P := P) (Q' := lift Q) (fun x hx => (List.mem_replicate.1 hx).2) ⟨by rw [hpadl]; exact H, hD⟩ hs' g4 hlv (by rw [g2, hlv]) (fun i o p ho hp => ?_) hfin _ _ _ _ hcount inv0
  obtain ⟨s, e, h1, h2, h3⟩ := g6 i o p (by simpa using ho) (by rw [← nth_eq]; exact hp)
  simp only [List.length_nil, Nat.zero_add] at h1 h2 h3
  refine ⟨s, e, h1, h2, ?_⟩
  have hbl : ∀ j, j ∈ p.bef → j < i := fun j hj => by
    rw [H.bef i p hp] at hj
    exact List.mem_range.1 (List.mem_filter.1 hj).1
  have : stAt σ ds tg (List.replicate c .dead) (vs.take i) (es.take i) p = stAt σ ds tg (List.replicate c .dead) vs es p := by
    simp only [stAt, envR_take vs p.rd fun j hj => hbl j (H.rdb i p hp j hj), ownS_take es p.bef _ hbl]
  rwa [this] at h3

/-! ### The rules of a walk -/
section
variable {N : Nat} {pls : List Pl} {o o1 o2 : Oper} {l : List Oper} {p p1 p2 : Pl} {ps : List Pl} {vs : List SV} {es : List (Option Own)}
theorem WS.quiet (s : SV) (hg : gd ds (stAt σ ds tg pad vs es p) o.guard = some true) (ht : p.tgt = none) (hq : QB P o (stAt σ ds tg pad vs es p) s) (k : WS P ds tg σ pad Q N pls l ps (vs ++ [s]) (es ++ [none])) : WS P ds tg σ pad Q N pls (o :: l) (p :: ps) vs es :=
  ⟨s, none, ⟨hg, .inl ⟨ht, rfl, hq⟩⟩, k⟩
def RunP (r : Option St) (K : SV → Prop) : Prop := match r with
  | some σ' => match σ'.env with
    | (_, s) :: _ => K s
    | [] => False
  | none => False
/-- One plain operation, run by simp. -/
theorem WS.go (hg : gd ds (stAt σ ds tg pad vs es p) o.guard = some true) (ht : p.tgt = none) (hm : isMem o.op = false) (h : RunP (step P (stAt σ ds tg pad vs es p) (some 0) o.op) fun s => WS P ds tg σ pad Q N pls l ps (vs ++ [s]) (es ++ [none])) : WS P ds tg σ pad Q N pls (o :: l) (p :: ps) vs es := by
  cases hst : step P (stAt σ ds tg pad vs es p) (some 0) o.op with
  | none => rw [hst] at h; exact h.elim
  | some σ' =>
    rw [hst] at h
    obtain ⟨s, h1, h2, rfl⟩ := step_opv hm hst
    refine WS.quiet s hg ht (fun ρ a w hs => ?_) h
    obtain ⟨v, h3, h4⟩ := opv_sound hs h1
    exact .inl (by rw [h3, h4 ρ (Agree.refl _ _)])
theorem WS.call {f : FuncId} {ss : List SV} (v : Value) (hg : gd ds (stAt σ ds tg pad vs es p) o.guard = some true) (ht : p.tgt = none) (hc : callS (stAt σ ds tg pad vs es p) o.op = some (f, ss)) (hf : callOk P f = true)
    (h : ∀ ρ w, Base ρ (stAt σ ds tg pad vs es p) w → Gives P f (denL ρ ss).toArray w fun v' _ => v' = v) (k : WS P ds tg σ pad Q N pls l ps (vs ++ [.val v]) (es ++ [none])) : WS P ds tg σ pad Q N pls (o :: l) (p :: ps) vs es := by
  refine WS.quiet (.val v) hg ht (fun ρ a w hs => .inr ⟨f, (denL ρ ss).toArray, callS_run hs hf hc, ?_⟩) k
  refine Calls.mono (h ρ w hs.base) fun e w' ⟨v', he, hb, hv⟩ => ?_
  subst he; subst hv
  exact ⟨rfl, hb⟩
theorem WS.alloc {T k : Nat} {z : List SV} (hg : gd ds (stAt σ ds tg pad vs es p) o.guard = some true) (hop : o.op = .alloc T) (hz : zeroS P T = some z) (ht : p.tgt = some k) (hn : p.new = true)
    (h : WS P ds tg σ pad Q N pls l ps (vs ++ [.loc k 0]) (es ++ [some (.cells T z)])) : WS P ds tg σ pad Q N pls (o :: l) (p :: ps) vs es := by
  refine ⟨.loc k 0, some (.cells T z), ⟨hg, .inr (.inl ⟨k, T, z, ht, hn, rfl, fun ρ a w hs => ?_⟩)⟩, h⟩
  unfold execOp
  rw [hop]
  unfold zeroS at hz
  cases hi : P.info? T with
  | none => simp [hi] at hz
  | some i =>
    cases hzz : i.zero with
    | none => simp [hi, hzz] at hz
    | some zv =>
      simp only [hi, hzz, Option.bind_some, Option.map_some, Option.some.injEq] at hz
      have hzc : zv.cells = (denL ρ z).toArray := by rw [← hz, denL_val]
      rw [← hzc]
      simp [Instr.alloc, zeroValue, typeInfo, hi, hzz, newVar, newRow, den, upd]
theorem WS.store {t : TypeId} {x y : Operand} {k off : Nat} {u : SV} {T : TypeId} {cs : List SV} (hg : gd ds (stAt σ ds tg pad vs es p) o.guard = some true) (hop : o.op = .store t x y) (ht : p.tgt = some k) (hn : p.new = false) (hx : ev (stAt σ ds tg pad vs es p) x = some (.loc k off)) (hy : ev (stAt σ ds tg pad vs es p) y = some u)
    (hk : nth (stAt σ ds tg pad vs es p).own k = some (.cells T cs)) (hz : szOf P t = some (cellsS u).length) (hoff : off + (cellsS u).length ≤ cs.length) (h1 : (cellsS u).all oneS = true)
    (h : WS P ds tg σ pad Q N pls l ps (vs ++ [.val undef]) (es ++ [some (.cells T (splice cs off (cellsS u)))])) : WS P ds tg σ pad Q N pls (o :: l) (p :: ps) vs es :=
  ⟨_, _, ⟨hg, .inr (.inr ⟨k, t, x, y, off, u, T, cs, ht, hn, hop, hx, hy, hk, hz, hoff, h1, rfl, rfl⟩)⟩, h⟩
theorem WS.index {t e : TypeId} {x ix : Operand} {q : Addr} {n c sz : Nat} {k : IntKind} {i : Int} (hg : gd ds (stAt σ ds tg pad vs es p) o.guard = some true) (ht : p.tgt = none) (hop : o.op = .indexAddr t x ix) (hx : ev (stAt σ ds tg pad vs es p) x = some (.val (.slice (some q) n c))) (hi : ev (stAt σ ds tg pad vs es p) ix = some (.val (.int k i))) (he : elemSz P t = some (e, sz))
    (h0 : 0 ≤ i) (h1 : i < n) (h : WS P ds tg σ pad Q N pls l ps (vs ++ [.val (.pointer (some (q.add (i.toNat * sz))))]) (es ++ [none])) : WS P ds tg σ pad Q N pls (o :: l) (p :: ps) vs es := by
  refine WS.quiet _ hg ht (fun ρ a w hs => .inl ?_) h
  unfold execOp
  rw [hop]
  simp only [Sem.run_bind, hs.ev hx ρ (Agree.refl _ _), hs.ev hi ρ (Agree.refl _ _), den, run_indexAt he h0 h1, Result.andThen_ok, Sem.run_pure]
theorem WS.load {t : TypeId} {x : Operand} {q : Addr} (cs : List Value) (agg : Bool) (hg : gd ds (stAt σ ds tg pad vs es p) o.guard = some true) (ht : p.tgt = none) (hop : o.op = .load t x) (hx : ev (stAt σ ds tg pad vs es p) x = some (.val (.pointer (some q)))) (ha : aggB P t = some agg) (hn : szOf P t = some cs.length) (h1 : agg = true ∨ cs.length = 1)
    (hat : ∀ ρ w, Base ρ (stAt σ ds tg pad vs es p) w → At w q cs) (h : WS P ds tg σ pad Q N pls l ps (vs ++ [.val (ofCells agg cs)]) (es ++ [none])) : WS P ds tg σ pad Q N pls (o :: l) (p :: ps) vs es := by
  refine WS.quiet _ hg ht (fun ρ a w hs => .inl ?_) h
  unfold execOp
  rw [hop]
  simp only [Sem.run_bind, hs.ev hx ρ (Agree.refl _ _), den, Instr.loadAt, Instr.sureAddr, Sem.run_pure, Result.andThen_ok]
  rw [(hat ρ w hs.base).load ha hn (fun hf => by rcases h1 with h1 | h1; rw [hf] at h1; cases h1; exact h1)]
  rfl
/-- x[i] of a slice that came in. -/
theorem WS.elem {α : Type} {A : Rp α} {S : Nat → Prop} {sw : World} {v : Value} {xs : List α} {y : α} {t e : TypeId} {x ix : Operand} {k : IntKind} {i : Int} {d1 : Nat} {agg : Bool}
    (hl : (Rp.slice A).rd S sw [v] xs) (hm : (S, sw) ∈ σ.snaps) (hg : gd ds (stAt σ ds tg pad vs es p1) o1.guard = some true) (ht : p1.tgt = none) (hg2 : ∀ u, gd ds (stAt σ ds tg pad (vs ++ [u]) (es ++ [none]) p2) o2.guard = some true) (ht2 : p2.tgt = none)
    (hop : o1.op = .indexAddr t x ix) (hop2 : o2.op = .load e (.tmp d1)) (hev : ∀ u, ev (stAt σ ds tg pad (vs ++ [u]) (es ++ [none]) p2) (.tmp d1) = some u)
    (hx : ev (stAt σ ds tg pad vs es p1) x = some (.val v)) (hi : ev (stAt σ ds tg pad vs es p1) ix = some (.val (.int k i))) (he : elemSz P t = some (e, A.sz))
    (ha : aggB P e = some agg) (hn : szOf P e = some A.sz) (h1 : agg = true ∨ A.sz = 1) (h0 : 0 ≤ i) (hy : xs[i.toNat]? = some y)
    (hk : ∀ q ces, A.rd S sw ces y → WS P ds tg σ pad Q N pls l ps (vs ++ [.val (.pointer (some q))] ++ [.val (ofCells agg ces)]) (es ++ [none] ++ [none])) : WS P ds tg σ pad Q N pls (o1 :: o2 :: l) (p1 :: p2 :: ps) vs es := by
  obtain ⟨q, n, c, hv, hnl, hnc, hcm, hel⟩ := hl
  simp only [List.cons.injEq, and_true] at hv
  subst hv
  have hlt : i.toNat < xs.length := (List.getElem?_eq_some_iff.1 hy).1
  rcases hel with h | ⟨a, rfl, hS, hsz, hel⟩
  · subst h; simp at hlt
  obtain ⟨ces, hat, hrd⟩ := hel _ y hy
  refine WS.index hg ht hop hx hi he h0 (by omega) ?_
  refine WS.load (q := a.add (i.toNat * A.sz)) ces agg (hg2 _) ht2 hop2 (hev _) ha (by rw [A.len hrd]; exact hn) (by rw [A.len hrd]; exact h1) (fun ρ w hb => hat.frame ?_) (hk _ ces hrd)
  rw [block_add]
  exact ((hb.keep _ (show (S, sw) ∈ (stAt σ ds tg pad (vs ++ [_]) (es ++ [none]) p2).snaps from hm)).1).block _ hS hsz
theorem WS.nil (ix : List Nat) (hix : List.range N = ix) (hok : okAll pls vs es σ.own (σ.own.length + pad.length) = true) (h : Q .normal ⟨σ.n, envR ds vs ix ++ σ.env, ownS tg es ix (σ.own ++ pad), σ.snaps, σ.dfs⟩) : WS P ds tg σ pad Q N pls [] ps vs es := by
  subst hix; exact ⟨hok, h⟩
end
def or1 (d : Option (Option Nat)) (s : Option SV) (E : List (Nat × SV)) : List (Nat × SV) := match d, s with
  | some (some d), some s => (d, s) :: E
  | _, _ => E
def os1 (O : List Own) (t : Option (Option Nat)) (e : Option (Option Own)) : List Own := match t, e with
  | some (some k), some (some o) => setN O k o
  | _, _ => O
theorem so_1 (vs : List SV) (j : Nat) (l : List Nat) : envR ds vs (j :: l) = or1 (nth ds j) (nth vs j) (envR ds vs l) := by
  simp only [envR, or1]
theorem so_2 (es : List (Option Own)) (j : Nat) (l : List Nat) (O : List Own) : ownS tg es (j :: l) O = ownS tg es l (os1 O (nth tg j) (nth es j)) := by
  simp only [ownS, os1]
theorem so_3 (e0 : List (Nat × SV)) (t : Nat) (l : List Nat) : envO e0 (t :: l) = kp2 (getE e0 t) t (envO e0 l) := by
  simp only [envO, kp2]
theorem sxs : (∀ {n : Nat} {e : List (Nat × SV)} {O : List Own} {sn : List ((Nat → Prop) × World)} {F : List Dm} {ds tg : List (Option Nat)} {pad : List Own} {vs : List SV} {es : List (Option Own)} (bef rd old gone : List Nat) (t : Option Nat) (b : Bool), stAt ⟨n, e, O, sn, F⟩ ds tg pad vs es ⟨bef, rd, old, gone, t, b⟩ = ⟨n, envR ds vs rd ++ envO e old, killG gone (ownS tg es bef (O ++ pad)), sn, F⟩) ∧
    (∀ {ds : List (Option Nat)} (vs : List SV), envR ds vs [] = []) ∧ (∀ {ds : List (Option Nat)} (vs : List SV) (j : Nat) (l : List Nat), envR ds vs (j :: l) = or1 (nth ds j) (nth vs j) (envR ds vs l)) ∧ (∀ (d : Nat) (s : SV) (E : List (Nat × SV)), or1 (some (some d)) (some s) E = (d, s) :: E) ∧ (∀ (s : Option SV) (E : List (Nat × SV)), or1 (some none) s E = E) ∧
    (∀ {tg : List (Option Nat)} (es : List (Option Own)) (O : List Own), ownS tg es [] O = O) ∧ (∀ {tg : List (Option Nat)} (es : List (Option Own)) (j : Nat) (l : List Nat) (O : List Own), ownS tg es (j :: l) O = ownS tg es l (os1 O (nth tg j) (nth es j))) ∧ (∀ (O : List Own) (e : Option (Option Own)), os1 O (some none) e = O) ∧ (∀ (O : List Own) (k : Nat) (o : Own), os1 O (some (some k)) (some (some o)) = setN O k o) ∧
    (∀ (e0 : List (Nat × SV)), envO e0 [] = []) ∧ (∀ (e0 : List (Nat × SV)) (t : Nat) (l : List Nat), envO e0 (t :: l) = kp2 (getE e0 t) t (envO e0 l)) ∧ (∀ (s : SV) (t : Nat) (E : List (Nat × SV)), kp2 (some s) t E = (t, s) :: E) ∧ (∀ (t : Nat) (E : List (Nat × SV)), kp2 none t E = E) ∧
    (∀ O : List Own, killG [] O = O) ∧ (∀ (k : Nat) (l : List Nat) (O : List Own), killG (k :: l) O = killG l (setN O k .dead)) ∧ (∀ (n d : Nat) (s : SV) (e : List (Nat × SV)) (O : List Own) (sn : List ((Nat → Prop) × World)) (F : List Dm) (K : SV → Prop), RunP (some ⟨n, (d, s) :: e, O, sn, F⟩) K = K s) :=
  ⟨fun _ _ _ _ _ _ => rfl, fun _ => rfl, fun vs j l => so_1 vs j l, fun _ _ _ => rfl, fun _ _ => rfl, fun _ _ => rfl, fun es j l O => so_2 es j l O, fun _ _ => rfl, fun _ _ _ => rfl, fun _ => rfl, fun e0 t l => so_3 e0 t l, fun _ _ _ => rfl, fun _ _ => rfl, fun _ => rfl, fun _ _ _ => rfl, fun _ _ _ _ _ _ _ _ => rfl⟩
end
end Go.SX
