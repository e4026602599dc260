/-
  The symbolic executor's rules for elements of slices that came in, and for slices of the call's own.
-/
import Derived.Test.YtnbfdncmlbegmaaSxSimp
import Derived.IntWalk
set_option linter.unusedVariables false
set_option linter.unusedSimpArgs false
namespace Go.SX
open Go Go.RowKit
section
variable {P : Program} {ops : Array Oper} {Q : Exit → St → Prop} {σ : St} {l rest : List Oper} {o o1 o2 o3 : Oper} {ds : List (Option Nat)}

theorem block_add (a : Addr) (n : Nat) : (a.add n).block = a.block := by unfold Addr.add; split <;> rfl
theorem add_add (a : Addr) (m n : Nat) : (a.add m).add n = a.add (m + n) := by
  unfold Addr.add
  by_cases hm : m = 0
  · subst hm; simp
  · by_cases hn : n = 0
    · subst hn; simp [hm]
    · simp [hm, hn, Nat.add_assoc]

theorem dOk_put (d : Option Nat) (u : SV) (d' : Option Nat) : dOk (σ.put d u) d' = dOk σ d' := by cases d <;> cases d' <;> rfl
theorem dOk_setOwn (k : Nat) (o : Own) (d' : Option Nat) : dOk (setOwn σ k o) d' = dOk σ d' := by cases d' <;> rfl
theorem dOk_pushO (o : Own) (d' : Option Nat) : dOk (σ.pushO o) d' = dOk σ d' := by cases d' <;> rfl

theorem At.part {w : World} {p : Addr} {cs : List Value} (h : At w p cs) (off n : Nat) : At w (p.add off) ((cs.drop off).take n) := fun j v hv => by
  rw [add_add]
  refine h (off + j) v ?_
  rw [List.getElem?_take] at hv
  split at hv
  · rw [← List.getElem?_drop]; exact hv
  · cases hv

/-- x[i] of a slice that came in: the place, then the load. -/
theorem WO.elem {α : Type} {A : Rp α} {S : Nat → Prop} {s : World} {v : Value} {xs : List α} {y : α} {t e : TypeId} {x ix : Operand} {k : IntKind} {i : Int} {d1 : Nat} {agg : Bool}
    (hl : (Rp.slice A).rd S s [v] xs) (hm : (S, s) ∈ σ.snaps) (hds : dsOk ds ops.toList = true) (hg : gd ds σ o1.guard = some true) (hd : o1.dst = some d1) (hd1 : d1 < σ.n)
    (hg2 : ∀ u, gd ds (σ.put (some d1) u) o2.guard = some true) (hd2 : dOk σ o2.dst = true)
    (hop : o1.op = .indexAddr t x ix) (hop2 : o2.op = .load e (.tmp d1)) (hx : ev σ x = some (.val v)) (hi : ev σ ix = some (.val (.int k i))) (he : elemSz P t = some (e, A.sz))
    (ha : aggB P e = some agg) (hn : szOf P e = some A.sz) (h1 : agg = true ∨ A.sz = 1) (h0 : 0 ≤ i) (hy : xs[i.toNat]? = some y)
    (hk : ∀ p ces, A.rd S s ces y → WO P ops Q rest ((σ.put (some d1) (.val (.pointer (some p)))).put o2.dst (.val (ofCells agg ces)))) : WO P ops Q (o1 :: o2 :: rest) σ := by
  obtain ⟨p, n, c, hv, hnl, hnc, hcm, hel⟩ := hl
  simp only [List.cons.injEq, and_true] at hv
  subst hv
  have hlt : i.toNat < xs.length := (List.getElem?_eq_some_iff.1 hy).1
  rcases hel with h | ⟨a, rfl, hS, hsz, hel⟩
  · subst h; simp at hlt
  obtain ⟨ces, hat, hrd⟩ := hel _ y hy
  refine WO.index hds hg (by rw [hd]; simpa [dOk] using hd1) hop hx hi he h0 (by omega) ?_
  rw [hd]
  refine WO.load (p := a.add (i.toNat * A.sz)) ces agg hds (hg2 _) (by rw [dOk_put]; exact hd2) hop2 (by simp [SX.ev, getE, St.put]) ha (by rw [A.len hrd]; exact hn) (by rw [A.len hrd]; exact h1)
    (fun ρ w hb => hat.frame ?_) (hk _ ces hrd)
  rw [block_add]
  exact ((hb.keep _ (by simpa [St.put] using hm)).1).block _ hS hsz

/-- x[i].f of a slice of structs that came in: the place, the field's place, then the load. -/
theorem WO.elemF {α : Type} {A : Rp α} {S : Nat → Prop} {s : World} {v : Value} {xs : List α} {y : α} {t e u fld : Nat} {x ix : Operand} {k : IntKind} {i : Int} {d1 d2 off m sn : Nat} {agg : Bool}
    (hl : (Rp.slice A).rd S s [v] xs) (hm : (S, s) ∈ σ.snaps) (hds : dsOk ds ops.toList = true) (hg : gd ds σ o1.guard = some true) (hd : o1.dst = some d1) (hd1 : d1 < σ.n)
    (hg2 : ∀ u, gd ds (σ.put (some d1) u) o2.guard = some true) (hd2 : o2.dst = some d2) (hd2' : d2 < σ.n) (hg3 : ∀ u u', gd ds ((σ.put (some d1) u).put (some d2) u') o3.guard = some true) (hd3 : dOk σ o3.dst = true)
    (hop : o1.op = .indexAddr t x ix) (hop2 : o2.op = .fieldAddr sn (.tmp d1) fld) (hop3 : o3.op = .load u (.tmp d2)) (hx : ev σ x = some (.val v)) (hi : ev σ ix = some (.val (.int k i))) (he : elemSz P t = some (e, A.sz))
    (hf : fieldOff P sn fld = some off) (ha : aggB P u = some agg) (hn : szOf P u = some m) (hle : off + m ≤ A.sz) (h1 : agg = true ∨ m = 1) (h0 : 0 ≤ i) (hy : xs[i.toNat]? = some y)
    (hk : ∀ p q ces, A.rd S s ces y → WO P ops Q rest (((σ.put (some d1) (.val (.pointer (some p)))).put (some d2) (.val (.pointer (some q)))).put o3.dst (.val (ofCells agg ((ces.drop off).take m))))) : WO P ops Q (o1 :: o2 :: o3 :: rest) σ := by
  obtain ⟨p, n, c, hv, hnl, hnc, hcm, hel⟩ := hl
  simp only [List.cons.injEq, and_true] at hv
  subst hv
  have hlt : i.toNat < xs.length := (List.getElem?_eq_some_iff.1 hy).1
  rcases hel with h | ⟨a, rfl, hS, hsz, hel⟩
  · subst h; simp at hlt
  obtain ⟨ces, hat, hrd⟩ := hel _ y hy
  refine WO.index hds hg (by rw [hd]; simpa [dOk] using hd1) hop hx hi he h0 (by omega) ?_
  rw [hd]
  refine WO.one hds (hg2 _) fun ρ w' w hs => ?_
  have hev : ev (σ.put (some d1) (.val (.pointer (some (a.add (i.toNat * A.sz)))))) (.tmp d1) = some (.val (.pointer (some (a.add (i.toNat * A.sz))))) := by simp [SX.ev, getE, St.put]
  refine ⟨ρ, (σ.put (some d1) (.val (.pointer (some (a.add (i.toNat * A.sz)))))).put (some d2) (.val (.pointer (some ((a.add (i.toNat * A.sz)).add off)))), .pointer (some ((a.add (i.toNat * A.sz)).add off)), w, .inl ?_, ?_, ?_⟩
  · unfold execOp
    rw [hop2]
    simp only [Sem.run_bind, hs.ev hev ρ (Agree.refl _ _)]
    rw [fldAdr_run (u := .val (.pointer (some (a.add (i.toNat * A.sz))))) hf rfl ρ]
    rfl
  · rw [hd2]
    exact hs.put _ _ _ (fun j hj => by cases hj; simpa [St.put] using hd2') (fun _ _ => rfl)
  · have hlen := A.len hrd
    refine WO.load (p := (a.add (i.toNat * A.sz)).add off) ((ces.drop off).take m) agg hds (hg3 _ _) (by rw [dOk_put, dOk_put]; exact hd3) hop3 (by simp [SX.ev, getE, St.put]) ha
      (by simp [hlen]; rw [Nat.min_eq_left (by omega)]; exact hn) (by simp [hlen]; rw [Nat.min_eq_left (by omega)]; exact h1)
      (fun ρ w hb => (hat.part off m).frame ?_) (hk _ _ ces hrd)
    rw [block_add, block_add]
    exact ((hb.keep _ (by simpa [St.put] using hm)).1).block _ hS hsz

/-! ### Slices of the call's own -/

/-- A block of another kind comes to the call's own: its number is new, or there is none. -/
theorem Base.pushO {ρ : Nat → Nat} {w w' : World} (hb : Base ρ σ w) (hw : Below w.heap.size w w') (o : Own) (hc : ∀ T cs, o ≠ .cells T cs) (hh : o.holds ρ σ.own.length w') (hn : ∀ b, o.num ρ σ.own.length = some b → w.heap.size ≤ b) : Base ρ (σ.pushO o) w' := by
  have hb' := hb.below hw
  have hcase : ∀ (k : Nat) (o' : Own), (σ.pushO o).own[k]? = some o' → (k < σ.own.length ∧ σ.own[k]? = some o') ∨ (k = σ.own.length ∧ o' = o) := fun k o' hk => by
    simp only [St.pushO] at hk
    rcases Nat.lt_or_ge k σ.own.length with h | h
    · rw [List.getElem?_append_left h] at hk; exact .inl ⟨h, hk⟩
    · rw [List.getElem?_append_right h] at hk
      have hlt := (List.getElem?_eq_some_iff.1 hk).1
      simp at hlt
      have : k = σ.own.length := by omega
      subst this
      simp at hk
      exact .inr ⟨rfl, hk.symm⟩
  have hany : ∀ (ρ' : Nat → Nat) k, o.holds ρ' k w' ∧ o.num ρ' k = o.num ρ σ.own.length := fun ρ' k => by
    cases o with
    | cells T cs => exact absurd rfl (hc T cs)
    | slice T sz v n xs => exact ⟨hh, rfl⟩
    | map r es c => exact ⟨hh, rfl⟩
    | dead => exact ⟨trivial, rfl⟩
  have hlt : ∀ k o' b, σ.own[k]? = some o' → Own.num ρ k o' = some b → b < w.heap.size := fun k o' b hk hn => Own.lt (hb.own k o' hk ρ (Agree.refl _ _)) hn
  refine ⟨fun k o' hk ρ' hρ => ?_, fun i j oi oj b hi hj hni hnj => ?_, fun p hp => ?_⟩
  · rcases hcase k o' hk with ⟨h1, h2⟩ | ⟨rfl, rfl⟩
    · exact hb'.own k o' h2 ρ' (hρ.mono (by simp [St.pushO]))
    · exact (hany ρ' _).1
  · rcases hcase i oi hi with ⟨h1, h2⟩ | ⟨rfl, rfl⟩ <;> rcases hcase j oj hj with ⟨h3, h4⟩ | ⟨rfl, rfl⟩
    · exact hb.apart i j oi oj b h2 h4 hni hnj
    · have := hlt i oi b h2 hni; have := hn b hnj; omega
    · have := hlt j oj b h4 hnj; have := hn b hni; omega
    · rfl
  · obtain ⟨h1, h2⟩ := hb'.keep p hp
    refine ⟨h1, fun k o' b hk hnb hS => ?_⟩
    rcases hcase k o' hk with ⟨h3, h4⟩ | ⟨rfl, rfl⟩
    · exact h2 k o' b h4 hnb hS
    · have h3 := hn b hnb; have h4 := (hb.keep p hp).1.size; omega

theorem Sat.pushO {ρ : Nat → Nat} {a : Act} {w w' : World} (hs : Sat ρ σ a w) (hw : Below w.heap.size w w') (o : Own) (hc : ∀ T cs, o ≠ .cells T cs) (hh : o.holds ρ σ.own.length w') (hn : ∀ b, o.num ρ σ.own.length = some b → w.heap.size ≤ b) : Sat ρ (σ.pushO o) a w' :=
  ⟨hs.size, hs.defers, fun i s hi => ⟨(hs.env i s hi).1, fun ρ' hρ => (hs.env i s hi).2 ρ' (hρ.mono (by simp [St.pushO]))⟩, hs.base.pushO hw o hc hh hn⟩

/-- A nil slice to append to. -/
theorem WO.ownNil (T : TypeId) (sz : Nat) (h : WO P ops Q l (σ.pushO (.slice T sz (.slice none 0 0) 0 []))) : WO P ops Q l σ := fun ρ a w hs =>
  h ρ a w (hs.pushO (Below.refl _ _) _ (fun _ _ h => by cases h) (World.ownsRow_nil w 0 T sz) (fun b hb => by simp [Own.num, Value.ownBlock] at hb))
theorem W.ownNil {rO : Option Nat} {c : Code} (T : TypeId) (sz : Nat) (h : WR rO P c Q (σ.pushO (.slice T sz (.slice none 0 0) 0 []))) : WR rO P c Q σ := fun ρ a w hs =>
  h ρ a w (hs.pushO (Below.refl _ _) _ (fun _ _ h => by cases h) (World.ownsRow_nil w 0 T sz) (fun b hb => by simp [Own.num, Value.ownBlock] at hb))

/-- Own block k is turned into another of its kind, in a world that differs there alone (or in what is new). -/
theorem Base.turn {ρ : Nat → Nat} {w w' : World} (hb : Base ρ σ w) {k : Nat} {oo o' : Own} (hk : σ.own[k]? = some oo) (hc : ∀ T cs, o' ≠ .cells T cs) (hg : w.grownBy w' (oo.num ρ k))
    (hh : o'.holds ρ k w') (hn : ∀ b, o'.num ρ k = some b → oo.num ρ k = some b ∨ w.heap.size ≤ b) : Base ρ (setOwn σ k o') w' := by
  have hkl : k < σ.own.length := (List.getElem?_eq_some_iff.1 hk).1
  have hget : ∀ (j : Nat) (o : Own), (setOwn σ k o').own[j]? = some o → (j = k ∧ o = o') ∨ (j ≠ k ∧ σ.own[j]? = some o) := fun j o hj => by
    simp only [setOwn, setN_eq] at hj
    by_cases h : j = k
    · subst h; rw [List.getElem?_set_self hkl] at hj; exact .inl ⟨rfl, (Option.some.inj hj).symm⟩
    · rw [List.getElem?_set_ne (Ne.symm h)] at hj; exact .inr ⟨h, hj⟩
  have hlen : (setOwn σ k o').own.length = σ.own.length := by simp [setOwn, setN_eq]
  have hany : ∀ (ρ' : Nat → Nat), o'.holds ρ' k w' := fun ρ' => by
    cases o' with
    | cells T cs => exact absurd rfl (hc T cs)
    | slice T sz v n xs => exact hh
    | map r es c => exact hh
    | dead => trivial
  have hlt : ∀ k o' b, σ.own[k]? = some o' → Own.num ρ k o' = some b → b < w.heap.size := fun k o' b hk hn => Own.lt (hb.own k o' hk ρ (Agree.refl _ _)) hn
  refine ⟨fun j o hj ρ' hρ => ?_, fun i j oi oj b hi hj hni hnj => ?_, fun p hp => ?_⟩
  · rw [hlen] at hρ
    rcases hget j o hj with ⟨rfl, rfl⟩ | ⟨h1, h2⟩
    · exact hany ρ'
    · have h3 := hb.own j o h2 ρ' hρ
      refine Own.holds_same h3 fun b hnb => hg.block b (Own.lt h3 hnb) fun he => h1 ?_
      have hjl : j < σ.own.length := (List.getElem?_eq_some_iff.1 h2).1
      exact hb.apart j k o oo b h2 hk (by rw [← Own.num_agree hρ hjl]; exact hnb) he.symm
  · rcases hget i oi hi with ⟨rfl, rfl⟩ | ⟨h1, h2⟩ <;> rcases hget j oj hj with ⟨rfl, rfl⟩ | ⟨h3, h4⟩
    · rfl
    · rcases hn b hni with h | h
      · exact hb.apart i j oo oj b hk h4 h hnj
      · have := hlt j oj b h4 hnj; omega
    · rcases hn b hnj with h | h
      · exact hb.apart i j oi oo b h2 hk hni h
      · have := hlt i oi b h2 hni; omega
    · exact hb.apart i j oi oj b h2 h4 hni hnj
  · obtain ⟨h1, h2⟩ := hb.keep p hp
    refine ⟨⟨hg.os.trans h1.os, hg.tape.trans h1.tape, hg.output.trans h1.output, Nat.le_trans h1.size hg.size, fun b hS hlt' => ?_⟩, fun j o b hj hnb hS => ?_⟩
    · rw [hg.block b (Nat.lt_of_lt_of_le hlt' h1.size) (fun he => ?_)]
      · exact h1.block b hS hlt'
      · have := h2 k oo b hk he.symm hS; omega
    · rcases hget j o hj with ⟨rfl, rfl⟩ | ⟨h3, h4⟩
      · rcases hn b hnb with h | h
        · exact h2 j oo b hk h hS
        · have := h1.size; omega
      · exact h2 j o b h4 hnb hS

theorem Sat.turn {ρ : Nat → Nat} {a : Act} {w w' : World} (hs : Sat ρ σ a w) {k : Nat} {oo o' : Own} (hk : σ.own[k]? = some oo) (hc : ∀ T cs, o' ≠ .cells T cs) (hg : w.grownBy w' (oo.num ρ k))
    (hh : o'.holds ρ k w') (hn : ∀ b, o'.num ρ k = some b → oo.num ρ k = some b ∨ w.heap.size ≤ b) : Sat ρ (setOwn σ k o') a w' := by
  have hlen : (setOwn σ k o').own.length = σ.own.length := by simp [setOwn, setN_eq]
  exact ⟨hs.size, hs.defers, fun i s hi => ⟨(hs.env i s hi).1, fun ρ' hρ => (hs.env i s hi).2 ρ' (by rw [hlen] at hρ; exact hρ)⟩, hs.base.turn hk hc hg hh hn⟩

/-- An element type: its cells, its bytes, its zero value's cells. -/
def elemK (P : Program) (t : TypeId) : Option (TypeId × Nat × Nat × List Value) :=
  match P.underlying t with
  | some (.slice e) => match P.info? e with
    | some i => match i.zero with
      | some z => if z.cells.size = i.size then (if 0 < i.size then some (e, i.size, i.bytes, z.cells.toList) else none) else none
      | none => none
    | none => none
  | _ => none

theorem elemK_spec {t e : TypeId} {sz by' : Nat} {zs : List Value} (h : elemK P t = some (e, sz, by', zs)) :
    P.underlying t = some (.slice e) ∧ ∃ i z, P.info? e = some i ∧ i.zero = some z ∧ i.size = sz ∧ i.bytes = by' ∧ z.cells.size = sz ∧ 0 < sz ∧ z.cells.toList = zs := by
  unfold elemK at h
  split at h
  · rename_i e' hu
    split at h
    · rename_i i hi
      split at h
      · rename_i z hz
        split at h
        · rename_i h1
          split at h
          · rename_i h2
            simp only [Option.some.injEq, Prod.mk.injEq] at h
            obtain ⟨rfl, rfl, rfl, rfl⟩ := h
            exact ⟨hu, i, z, hi, hz, rfl, rfl, h1, h2, rfl⟩
          · cases h
        · cases h
      · cases h
    · cases h
  · cases h

theorem ownsRow_shape {w : World} {b : Nat} {e : TypeId} {sz : Nat} {v : Value} {n : Nat} {xs : List Value} (h : w.ownsRow b e sz v n xs) : ∃ p c, v = .slice p n c := by
  rcases h.2 with ⟨rfl, rfl⟩ | ⟨g, cap, cur, rfl, _⟩
  · exact ⟨none, 0, rfl⟩
  · exact ⟨_, _, rfl⟩

/-- The law of append on a row of the call's own, with what it says of the block: the old one, or a new one. -/
theorem run_append (w : World) (t ty e : TypeId) (i : TypeInfo) (z : Value) (size : Nat) (ht : P.underlying t = some (.slice e)) (hi : P.info? e = some i) (hz : i.zero = some z)
    (hsize : i.size = size) (hzs : z.cells.size = size)
    (v : Value) (n : Nat) (xs : List Value) (hown : w.ownsRow 0 e size v n xs)
    (a : Addr) (m c : Nat) (news : List Value) (hl : news.length = m * size) (hnews : At w a news) (h1 : ∀ u ∈ news, u.oneCell' = true)
    (h63 : n + m ≤ maxLen) (hbytes : (n + m) * i.bytes ≤ 140737488355328) :
    ∃ p c' w', (Builtin.append_ #[t, t] ty #[v, .slice (some a) m c]).run P w = .ok (.slice p (n + m) c') w' ∧ w'.ownsRow 0 e size (.slice p (n + m) c') (n + m) (xs ++ news) ∧ w.grownBy w' v.ownBlock ∧
      (∀ b, (Value.slice p (n + m) c').ownBlock = some b → v.ownBlock = some b ∨ w.heap.size ≤ b) := by
  subst hsize
  have hm63 : n + m ≤ 9223372036854775807 := by simp only [maxLen] at h63; omega
  have hlen : (xs ++ news).length = (n + m) * i.size := by rw [List.length_append, hown.1, hl, Nat.add_mul]
  have fresh : ∀ (old : Nat), ∀ (row : Option Nat),
      let w' := w.drew.alloc (.cells (xs.toArray ++ news.toArray ++ Builtin.zeroCells z.cells (grownCap w (n + m) old e - (n + m))) e)
      w'.ownsRow 0 e i.size (.slice (some ⟨w.heap.size, 0, none⟩) (n + m) (grownCap w (n + m) old e)) (n + m) (xs ++ news) ∧ w.grownBy w' row := by
    intro old row
    have hge := grownCap_ge w (n + m) old e
    refine ⟨⟨hlen, .inr ⟨w.heap.size, _, _, rfl, Nat.zero_le _, heap_alloc_new w.drew _, hge, grownCap_le_maxLen w (n + m) old e h63, ?_, ?_⟩⟩, ⟨rfl, rfl, rfl, by simp, fun k hk _ => heap_alloc_old w.drew _ hk⟩⟩
    · simp only [Array.size_append, List.size_toArray, size_zeroCells, hzs, hown.1, hl, ← Nat.add_mul]
      congr 1
      omega
    · simp only [Array.toList_append, List.append_assoc]
      rw [← List.append_assoc, ← hlen]
      exact List.take_left
  rcases hown.2 with ⟨rfl, rfl⟩ | ⟨g, cap, cur, rfl, hbg, hg, hnc, hcm, hcs, htake⟩
  · obtain rfl : xs = [] := List.eq_nil_of_length_eq_zero (by simpa using hown.1)
    by_cases hm : m = 0
    · subst hm
      obtain rfl : news = [] := List.eq_nil_of_length_eq_zero (by simpa using hl)
      refine ⟨none, 0, w, ?_, World.ownsRow_nil w 0 e i.size, ⟨rfl, rfl, rfl, Nat.le_refl _, fun _ _ _ => rfl⟩, fun b hb => by simp [Value.ownBlock] at hb⟩
      simp [Builtin.append_, run_underlying ht, sizeOf, typeInfo, hi, Builtin.lenOf, Builtin.firstCells, loadCells, loadCellsFrom]
    · have hr := run_append_nil (P := P) w t ty e i z ht hi hz a m c news hl hnews (by omega) (by omega) (by have hb := hbytes; simp only [Nat.zero_add] at hb; omega)
      have hgr := fresh 0 (Value.ownBlock (.slice none 0 0))
      simp only [Nat.zero_add, List.nil_append, Array.empty_append] at hgr ⊢
      refine ⟨_, _, _, hr, hgr.1, hgr.2, fun b hb => ?_⟩
      simp [Value.ownBlock] at hb
      exact .inr (by omega)
  · by_cases hroom : n + m ≤ cap
    · have hfit : n * i.size + news.length ≤ cur.size := by rw [hl, hcs, ← Nat.add_mul]; exact Nat.mul_le_mul_right _ hroom
      have hr := run_append_room (P := P) w t ty e i ht hi g n cap cur hg a m c news hl hnews h1 hroom hfit
      refine ⟨_, _, _, hr, ⟨hlen, .inr ⟨g, cap, _, rfl, hbg, setRow_heap w g cur _ e _ hg, hroom, hcm, ?_, ?_⟩⟩, ⟨rfl, rfl, rfl, by simp, fun k _ hk => setRow_other w g k _ (fun e => hk (by simp [Value.ownBlock, e]))⟩, fun b hb => .inl hb⟩
      · simp only [List.size_toArray, List.length_append, List.length_take, List.length_drop, Array.length_toList]
        omega
      · rw [htake, ← hlen]
        exact List.take_left
    · have holds : ∀ j u, xs[j]? = some u → w.cell? ((⟨g, 0, none⟩ : Addr).add j) = some u := hown.cells (g := g) rfl
      have hr := run_append_grow (P := P) w t ty e i z ht hi hz ⟨g, 0, none⟩ n cap xs hown.1 holds a m c news hl hnews (by omega) (by omega) (growslice_fits (by omega) hbytes)
      have hgr := fresh cap (Value.ownBlock (.slice (some ⟨g, 0, none⟩) n cap))
      refine ⟨_, _, _, hr, hgr.1, hgr.2, fun b hb => ?_⟩
      simp [Value.ownBlock] at hb
      exact .inr (by omega)

/-- append on a slice of the call's own. -/
theorem WO.append {x y : Operand} {t e : TypeId} {k sz by' n m : Nat} {zs : List Value} {v : Value} {xs : List Value} {ys : SV} (news : List Value) (hds : dsOk ds ops.toList = true) (hg : gd ds σ o.guard = some true) (hd : dOk σ o.dst = true)
    (hop : o.op = .call ⟨.builtin .append, #[x, y], #[t, t]⟩) (hk : nth σ.own k = some (.slice e sz v n xs)) (hx : ev σ x = some (.val v)) (hy : ev σ y = some ys) (he : elemK P t = some (e, sz, by', zs))
    (hnews : ∀ ρ w, Base ρ σ w → ∃ a c, den ρ ys = .slice (some a) m c ∧ At w a news) (hl : news.length = m * sz) (h1 : ∀ u, u ∈ news → u.oneCell' = true) (h63 : n + m ≤ maxLen) (h47 : (n + m) * by' ≤ 140737488355328)
    (h : ∀ p c, WO P ops Q rest ((setOwn σ k (.slice e sz (.slice p (n + m) c) (n + m) (xs ++ news))).put o.dst (.val (.slice p (n + m) c)))) : WO P ops Q (o :: rest) σ :=
  WO.one hds hg fun ρ a w hs => by
    rw [nth_eq] at hk
    obtain ⟨hu, i, z, hi, hz, hsz, hby, hzs, hpos, hzl⟩ := elemK_spec he
    obtain ⟨ad, c, hden, hat⟩ := hnews ρ w hs.base
    have hown := hs.base.own k _ hk ρ (Agree.refl _ _)
    simp only [Own.holds] at hown
    obtain ⟨p, c', w', hrun, hown', hgr, hblk⟩ := run_append (P := P) w t o.type e i z sz hu hi hz hsz hzs v n xs hown ad m c news hl hat h1 h63 (by rw [hby]; exact h47)
    refine ⟨ρ, _, .slice p (n + m) c', w', .inl ?_, Sat.put (hs.turn (o' := .slice e sz (.slice p (n + m) c') (n + m) (xs ++ news)) hk (fun _ _ h => by cases h) hgr hown' (fun b hb => hblk b hb)) _ _ _ ?_ (fun _ _ => rfl), h p c'⟩
    · unfold execOp
      rw [hop]
      simp only [Sem.run_bind, resolve, List.map_toArray, List.map_cons, List.map_nil, Sem.run_pure, Result.andThen_ok, invoke, builtin]
      rw [hs.ev hx ρ (Agree.refl _ _), hs.ev hy ρ (Agree.refl _ _), hden]
      simp only [den]
      rw [hrun]
      rfl
    · intro j hj; exact dOk_lt (σ := setOwn σ k _) (by rw [dOk_setOwn]; exact hd) j hj

/-- A literal slice of the call's own, as append's second operand. -/
theorem news_own {k2 m : Nat} {T : TypeId} {cs : List SV} {news : List Value} (hk : nth σ.own k2 = some (.cells T cs)) (hcs : ∀ ρ, denL ρ cs = news) :
    ∀ ρ w, Base ρ σ w → ∃ a c, den ρ (.lsl k2 0 m m) = .slice (some a) m c ∧ At w a news := fun ρ w hb => by
  rw [nth_eq] at hk
  refine ⟨⟨ρ k2, 0, none⟩, m, rfl, fun j v hv => ?_⟩
  have := hb.own k2 _ hk ρ (Agree.refl _ _)
  simp only [Own.holds, hcs] at this
  rw [Addr.add_mid]
  simp [World.cell?, this, hv]

/-- make([]T, n, c). -/
theorem WO.make {x y : Operand} {t e : TypeId} {sz by' n c : Nat} {zs : List Value} {k1 k2 : IntKind} (hds : dsOk ds ops.toList = true) (hg : gd ds σ o.guard = some true) (hd : dOk σ o.dst = true)
    (hop : o.op = .makeSlice t x y) (hx : ev σ x = some (.val (.int k1 n))) (hy : ev σ y = some (.val (.int k2 c))) (he : elemK P t = some (e, sz, by', zs)) (hnc : n ≤ c) (h63 : c ≤ maxLen) (h48 : by' * c ≤ 281474976710656)
    (h : ∀ b, WO P ops Q rest ((σ.pushO (.slice e sz (.slice (some ⟨b, 0, none⟩) n c) n ((List.replicate n zs).flatten))).put o.dst (.val (.slice (some ⟨b, 0, none⟩) n c)))) : WO P ops Q (o :: rest) σ :=
  WO.one hds hg fun ρ a w hs => by
    obtain ⟨hu, i, z, hi, hz, hsz, hby, hzs, hpos, hzl⟩ := elemK_spec he
    have hb := below_push w (.cells ((List.replicate c zs).flatten).toArray e)
    have hzlen : zs.length = sz := by rw [← hzl]; simpa using hzs
    have hm : (c : Int) ≤ 9223372036854775807 := by have h := h63; simp [maxLen] at h; omega
    have hb1 : (i.bytes : Int) * (c : Int) ≤ 281474976710656 := by
      have h : ((i.bytes * c : Nat) : Int) ≤ 281474976710656 := by rw [hby]; omega
      rwa [Int.natCast_mul] at h
    have hr := run_make (P := P) w t e i z hu hi hz k1 k2 n c (by omega) (by omega) hb1 hm
    simp only [Int.toNat_natCast] at hr
    have hcells : madeCells z.cells (c * i.size) = ((List.replicate c zs).flatten).toArray := by
      rw [hsz, ← hzs, ← hzl]
      exact zero_cells c z.cells (by omega)
    rw [hcells] at hr
    refine ⟨ρ, (σ.pushO (.slice e sz (.slice (some ⟨w.heap.size, 0, none⟩) n c) n ((List.replicate n zs).flatten))).put o.dst (.val (.slice (some ⟨w.heap.size, 0, none⟩) n c)), .slice (some ⟨w.heap.size, 0, none⟩) n c, _, .inl ?_,
      Sat.put (hs.pushO hb _ (fun _ _ h => by cases h) ?_ (fun b hb => ?_)) _ _ _ ?_ (fun _ _ => rfl), h w.heap.size⟩
    · unfold execOp
      rw [hop]
      simp only [Sem.run_bind, hs.ev hx ρ (Agree.refl _ _), hs.ev hy ρ (Agree.refl _ _), den]
      rw [hr]
      rfl
    · refine ⟨by simp [hzlen], .inr ⟨w.heap.size, c, ((List.replicate c zs).flatten).toArray, rfl, Nat.zero_le _, by simp, hnc, h63, by simp [hzlen], ?_⟩⟩
      rw [show ((List.replicate c zs).flatten).toArray.toList = (List.replicate c zs).flatten from rfl]
      obtain ⟨d, rfl⟩ := Nat.exists_eq_add_of_le hnc
      rw [← List.replicate_append_replicate, List.flatten_append, List.take_append_of_le_length (by simp [hzlen]), List.take_of_length_le (by simp [hzlen])]
    · simp only [Own.num, Value.ownBlock, Option.some.injEq] at hb; omega
    · intro j hj; exact dOk_lt (σ := σ.pushO _) (by rw [dOk_pushO]; exact hd) j hj

/-- x[i] = u on a slice of the call's own, of one-cell elements. -/
theorem WO.storeOwn {t : TypeId} {x y : Operand} {T : TypeId} {k b n c i : Nat} {xs : List Value} {q : Addr} {u : Value} (hds : dsOk ds ops.toList = true) (hg : gd ds σ o.guard = some true) (hd : dOk σ o.dst = true)
    (hop : o.op = .store t x y) (hk : nth σ.own k = some (.slice T 1 (.slice (some ⟨b, 0, none⟩) n c) n xs)) (hx : ev σ x = some (.val (.pointer (some q)))) (hq : q = (⟨b, 0, none⟩ : Addr).add (i * 1)) (hi : i < n)
    (hy : ev σ y = some (.val u)) (h1 : u.oneCell' = true) (hsz : szOf P t = some 1)
    (h : WO P ops Q rest ((setOwn σ k (.slice T 1 (.slice (some ⟨b, 0, none⟩) n c) n (xs.set i u))).put o.dst (.val undef))) : WO P ops Q (o :: rest) σ :=
  WO.one hds hg fun ρ a w hs => by
    rw [nth_eq] at hk
    have hown := hs.base.own k _ hk ρ (Agree.refl _ _)
    simp only [Own.holds] at hown
    obtain ⟨hxl, hown⟩ := hown
    rcases hown with ⟨hv, hn0⟩ | ⟨g, cap, cur, hv, hbg, hcell, hnc, hcm, hcs, htake⟩
    · omega
    · simp only [Value.slice.injEq, Option.some.injEq, Addr.mk.injEq] at hv
      obtain ⟨⟨rfl, _⟩, _, rfl⟩ := hv
      have hq' : q = ⟨b, i, none⟩ := by rw [hq, Addr.add_mid]; simp
      have hcell' : w.cell? ⟨b, i, none⟩ = some cur[i]! := by
        have : i < cur.size := by omega
        simp [World.cell?, hcell, this, getElem!_pos cur i this]
      have hfr : w.frozen? ⟨b, i, none⟩ = false := by simp [World.frozen?, hcell]
      have hu1 : u.cells = #[u] := by cases u <;> first | rfl | cases h1
      have hrun : (Instr.storeAt t (.pointer (some q)) u).run P w = .ok () (w.setCell ⟨b, i, none⟩ u) := by
        rw [hq']
        have h0 : (⟨b, i, none⟩ : Addr).add 0 = ⟨b, i, none⟩ := by simp [Addr.add]
        simp only [Instr.storeAt, Instr.sureAddr, Sem.run_bind, Sem.run_pure, Result.andThen_ok, storeVar, run_szOf hsz, hu1]
        simp only [List.size_toArray, List.length_cons, List.length_nil, Nat.zero_add, ne_eq, not_true_eq_false, if_false, storeCells, Sem.run_bind, h0]
        rw [run_store P w _ u .plain h1, hcell', hfr]
        rfl
      have hheap : (w.setCell ⟨b, i, none⟩ u).heap[b]? = some (.cells (cur.setIfInBounds i u) T (0, 0)) := by
        simp [World.setCell, Array.getElem?_modify, hcell]
      have hgr : w.grownBy (w.setCell ⟨b, i, none⟩ u) (some b) := ⟨rfl, rfl, rfl, by simp [World.setCell], fun j hj hne => Below.heap_setCell w _ u j (fun he => hne (by rw [he]))⟩
      refine ⟨ρ, _, undef, _, .inr ⟨?_, rfl⟩, Sat.put (hs.turn (o' := .slice T 1 (.slice (some ⟨b, 0, none⟩) n c) n (xs.set i u)) hk (fun _ _ h => by cases h) hgr ?_ (fun b' hb => .inl hb)) _ _ _ ?_ (fun _ _ => rfl), h⟩
      · unfold execOp
        rw [hop]
        simp only [Sem.run_bind, hs.ev hx ρ (Agree.refl _ _), hs.ev hy ρ (Agree.refl _ _), den]
        rw [hrun]
        rfl
      · refine ⟨by simpa using hxl, .inr ⟨b, c, _, rfl, hbg, hheap, hnc, hcm, by simpa using hcs, ?_⟩⟩
        rw [Array.toList_setIfInBounds, List.take_set, htake]
      · intro j hj; exact dOk_lt (σ := setOwn σ k _) (by rw [dOk_setOwn]; exact hd) j hj

/-- A row of the call's own: what lies at its i-th element. -/
theorem own_at {ρ : Nat → Nat} {w : World} {k n c sz : Nat} {T : TypeId} {p : Addr} {xs : List Value} (hb : Base ρ σ w) (hk : nth σ.own k = some (.slice T sz (.slice (some p) n c) n xs)) : At w p xs := by
  rw [nth_eq] at hk
  have hown := hb.own k _ hk ρ (Agree.refl _ _)
  simp only [Own.holds] at hown
  obtain ⟨hxl, hown⟩ := hown
  rcases hown with ⟨hv, hn0⟩ | ⟨g, cap, cur, hv, hbg, hcell, hnc, hcm, hcs, htake⟩
  · cases hv
  · simp only [Value.slice.injEq, Option.some.injEq] at hv
    obtain ⟨rfl, _, rfl⟩ := hv
    intro j v hv
    rw [Addr.add_mid]
    rw [← htake, List.getElem?_take] at hv
    split at hv
    · simpa [World.cell?, hcell] using hv
    · cases hv

/-- x[i] of a slice of the call's own. -/
theorem WO.elemOwn {t e T : TypeId} {x ix : Operand} {k : Nat} {p : Addr} {n c sz : Nat} {xs : List Value} {kk : IntKind} {i : Int} {d1 : Nat} {agg : Bool}
    (hk : nth σ.own k = some (.slice T sz (.slice (some p) n c) n xs)) (hds : dsOk ds ops.toList = true) (hg : o1.guard = none) (hd : o1.dst = some d1) (hd1 : d1 < σ.n) (hg2 : o2.guard = none) (hd2 : dOk σ o2.dst = true)
    (hop : o1.op = .indexAddr t x ix) (hop2 : o2.op = .load e (.tmp d1)) (hx : ev σ x = some (.val (.slice (some p) n c))) (hi : ev σ ix = some (.val (.int kk i))) (he : elemSz P t = some (e, sz))
    (ha : aggB P e = some agg) (hn : szOf P e = some sz) (h1 : agg = true ∨ sz = 1) (h0 : 0 ≤ i) (hin : i < n) (hxs : xs.length = n * sz)
    (hkk : WO P ops Q rest ((σ.put (some d1) (.val (.pointer (some (p.add (i.toNat * sz)))))).put o2.dst (.val (ofCells agg ((xs.drop (i.toNat * sz)).take sz))))) : WO P ops Q (o1 :: o2 :: rest) σ := by
  refine WO.index hds (by rw [hg]; rfl) (by rw [hd]; simpa [dOk] using hd1) hop hx hi he h0 hin ?_
  rw [hd]
  have hlen : ((xs.drop (i.toNat * sz)).take sz).length = sz := by
    have : i.toNat * sz + sz ≤ n * sz := by rw [← Nat.succ_mul]; exact Nat.mul_le_mul_right _ (by omega)
    simp; omega
  refine WO.load (p := p.add (i.toNat * sz)) ((xs.drop (i.toNat * sz)).take sz) agg hds (by rw [hg2]; rfl) (by rw [dOk_put]; exact hd2) hop2 (by simp [SX.ev, getE, St.put]) ha (by rw [hlen]; exact hn) (by rw [hlen]; exact h1)
    (fun ρ w hb => (own_at (σ := σ.put _ _) hb (by simpa [St.put] using hk)).part _ _) hkk
end
end Go.SX
