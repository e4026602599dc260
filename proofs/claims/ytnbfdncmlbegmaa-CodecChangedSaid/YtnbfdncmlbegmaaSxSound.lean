/-
  The symbolic executor's operations do what the model does.
-/
import Derived.Test.YtnbfdncmlbegmaaSxRun
set_option linter.unusedVariables false
set_option linter.unusedSimpArgs false
namespace Go.SX
open Go Go.RowKit
section
variable {P : Program} {ρ : Nat → Nat} {σ : St} {a : Act} {w : World}

theorem Sat.ev (hs : Sat ρ σ a w) {x : Operand} {s : SV} (h : ev σ x = some s) : ∀ ρ', Agree σ.own.length ρ ρ' → a.eval x = den ρ' s := by
  intro ρ' hρ
  cases x with
  | tmp t =>
    have := (hs.env t s h).2 ρ' hρ
    simp [Act.eval, Array.getD_eq_getD_getElem?, this]
  | const v => simp only [SX.ev, Option.some.injEq] at h; subst h; simp [Act.eval, den]
  | global g => simp only [SX.ev, Option.some.injEq] at h; subst h; simp [Act.eval, den]
  | func f => simp only [SX.ev, Option.some.injEq] at h; subst h; simp [Act.eval, den]

theorem Sat.evL (hs : Sat ρ σ a w) : ∀ {l : List Operand} {ss : List SV}, evL σ l = some ss → ∀ ρ', Agree σ.own.length ρ ρ' → l.map a.eval = denL ρ' ss
  | [], ss, h, ρ', _ => by simp only [SX.evL, Option.some.injEq] at h; subst h; simp [denL]
  | x :: l, ss, h, ρ', hρ => by
    simp only [SX.evL] at h
    split at h
    · rename_i s ss' h1 h2
      simp only [Option.some.injEq] at h; subst h
      simp [denL, hs.ev h1 ρ' hρ, hs.evL h2 ρ' hρ]
    · cases h

theorem Sat.evP (hs : Sat ρ σ a w) : ∀ {l : List (Nat × Operand)} {ss : List (Nat × SV)}, evP σ l = some ss → ∀ ρ', Agree σ.own.length ρ ρ' →
    l.map (fun p => (p.1, a.eval p.2)) = ss.map (fun p => (p.1, den ρ' p.2))
  | [], ss, h, ρ', _ => by simp only [SX.evP, Option.some.injEq] at h; subst h; simp
  | (i, x) :: l, ss, h, ρ', hρ => by
    simp only [SX.evP] at h
    split at h
    · rename_i s ss' h1 h2
      simp only [Option.some.injEq] at h; subst h
      simp [hs.ev h1 ρ' hρ, hs.evP h2 ρ' hρ]
    · cases h

theorem cellsS_den (ρ : Nat → Nat) (s : SV) : (den ρ s).cells = (denL ρ (cellsS s)).toArray := by
  cases s with
  | val x =>
    cases x <;> simp [cellsS, den, denL, Value.cells]
    rename_i c
    apply Array.toList_inj.1
    simp [denL_eq, Function.comp_def, den]
  | agg cs => simp [cellsS, den, Value.cells]
  | loc k off => simp [cellsS, den, denL, Value.cells]
  | lsl k off len cap => simp [cellsS, den, denL, Value.cells]
  | tup vs => simp [cellsS, den, denL, Value.cells]
  | fn f x y => simp [cellsS, den, denL, Value.cells]

theorem oneS_den (ρ : Nat → Nat) {s : SV} (h : oneS s = true) : (den ρ s).oneCell' = true := by
  cases s with
  | val x => exact h
  | agg cs => cases h
  | tup vs => cases h
  | loc k off => rfl
  | lsl k off len cap => rfl
  | fn f x y => rfl

theorem denL_get (ρ : Nat → Nat) (l : List SV) (i : Nat) : (denL ρ l)[i]? = (l[i]?).map (den ρ) := by simp [denL_eq]
theorem denL_append (ρ : Nat → Nat) (l r : List SV) : denL ρ (l ++ r) = denL ρ l ++ denL ρ r := by simp [denL_eq]
theorem denL_take (ρ : Nat → Nat) (l : List SV) (n : Nat) : denL ρ (l.take n) = (denL ρ l).take n := by simp [denL_eq, List.map_take]
theorem denL_drop (ρ : Nat → Nat) (l : List SV) (n : Nat) : denL ρ (l.drop n) = (denL ρ l).drop n := by simp [denL_eq, List.map_drop]
theorem denL_val (ρ : Nat → Nat) (l : List Value) : denL ρ (l.map .val) = l := by simp [denL_eq, Function.comp_def, den]
theorem splice_eq {α : Type} (l : List α) (off : Nat) (new : List α) : splice l off new = l.take off ++ new ++ l.drop (off + new.length) := by
  simp [splice, takeN_eq, dropN_eq, List.append_assoc]

/-! ### Values -/
theorem intB_run {op : BinOp} {k : IntKind} {x y : Int} {r : Value} {t : TypeId} (hop : isSh op = false) (h : intB op k x y = some r) : (binOp op t (.int k x) (.int k y)).run P w = .ok r w := by
  cases op <;> simp only [isSh, Bool.true_eq_false] at hop <;> simp only [intB, Option.some.injEq, reduceCtorEq] at h <;>
    first
      | (subst h; simp [binOp, Op.intArith, Op.intBits, Op.intCmp]; done)
      | (split at h
         · cases h
         · rename_i h0
           simp only [Option.some.injEq] at h; subst h; simp [binOp, Op.intDiv, h0])

theorem shB_run {op : BinOp} {k k' : IntKind} {x y : Int} {r : Value} {t : TypeId} (h : shB op k x y = some r) : (binOp op t (.int k x) (.int k' y)).run P w = .ok r w := by
  cases op <;> simp only [shB, reduceCtorEq] at h <;>
    (split at h
     · cases h
     · rename_i h0
       simp only [Option.some.injEq] at h; subst h; simp [binOp, Op.shift, h0])

theorem shB_sh {op : BinOp} {k : IntKind} {x y : Int} (h : isSh op = false) : shB op k x y = none := by cases op <;> simp_all [isSh, shB]

theorem eqGuard_int {op : BinOp} {t : TypeId} {x y : Operand} {k k' : IntKind} {u v : Int} : (eqGuard op t x y (.int k u) (.int k' v)).run P w = .ok () w := by cases op <;> rfl
theorem eqGuard_bool {op : BinOp} {t : TypeId} {x y : Operand} {u v : Bool} : (eqGuard op t x y (.bool u) (.bool v)).run P w = .ok () w := by cases op <;> rfl
theorem eqGuard_string {op : BinOp} {t : TypeId} {x y : Operand} {u v : ByteArray} : (eqGuard op t x y (.string u) (.string v)).run P w = .ok () w := by cases op <;> rfl
theorem equalIn_bool (d : Nat) {t : TypeId} {x y : Bool} (hu : P.underlying t = some .bool) : (Op.equalIn (d + 1) t (.bool x) (.bool y)).run P w = .ok (x == y) w := by
  simp [Op.equalIn, run_underlying hu]
theorem equal_bool {t : TypeId} {x y : Bool} (hu : P.underlying t = some .bool) : (Op.equal t (.bool x) (.bool y)).run P w = .ok (x == y) w := equalIn_bool 9999 hu

theorem binS_run {op : BinOp} {t : TypeId} {x y : Operand} {u v r : Value} (h : binS P t op u v = some r) : (do eqGuard op t x y u v; binOp op t u v : Sem Value).run P w = .ok r w := by
  cases u <;> cases v <;> simp only [binS, reduceCtorEq] at h
  case bool.bool b c =>
    rw [Sem.run_bind, eqGuard_bool]
    simp only [Result.andThen_ok]
    have hu : boolT P t = true → P.underlying t = some .bool := by
      unfold boolT; split
      · intro _; assumption
      · intro h; cases h
    split at h
    · rename_i hb
      simp only [Option.some.injEq] at h; subst h
      have : binOp .eql t (.bool b) (.bool c) = (do pure (.bool (← Op.equal t (.bool b) (.bool c))) : Sem Value) := by simp [binOp]
      rw [this, Sem.run_bind, equal_bool (hu hb)]; rfl
    · rename_i hb
      simp only [Option.some.injEq] at h; subst h
      have : binOp .neq t (.bool b) (.bool c) = (do pure (.bool (!(← Op.equal t (.bool b) (.bool c)))) : Sem Value) := by simp [binOp]
      rw [this, Sem.run_bind, equal_bool (hu hb)]; rfl
    · cases h
  case int.int k x' k' y' =>
    rw [Sem.run_bind, eqGuard_int]
    simp only [Result.andThen_ok]
    split at h
    · exact shB_run h
    · rename_i hsh
      split at h
      · rename_i hk; subst hk; exact intB_run (by simpa using hsh) h
      · cases h
  case string.string s s' =>
    rw [Sem.run_bind, eqGuard_string]
    simp only [Result.andThen_ok]
    cases op <;> simp only [reduceCtorEq, Option.some.injEq] at h <;> (subst h; simp [binOp, Op.stringOp])

theorem unS_run {op : UnOp} {u r : Value} (h : unS op u = some r) : (Op.unary op u).run P w = .ok r w := by
  cases u <;> cases op <;> simp only [unS, reduceCtorEq, Option.some.injEq] at h <;> (subst h; simp [Op.unary, Op.intArith])

theorem underlying_info {t : TypeId} {d : TypeDesc} (h : P.underlying t = some d) : ∃ i, P.info? t = some i := by
  unfold Program.underlying at h
  cases hi : P.info? t with
  | none => rw [hi] at h; cases h
  | some i => exact ⟨i, rfl⟩

theorem run_szOf {t : TypeId} {n : Nat} (h : szOf P t = some n) : (sizeOf t).run P w = .ok n w := by
  unfold szOf at h
  cases hi : P.info? t with
  | none => rw [hi] at h; cases h
  | some i => rw [hi] at h; simp only [Option.map_some, Option.some.injEq] at h; simp [sizeOf, typeInfo, hi, h]

theorem run_aggB {t : TypeId} {b : Bool} (h : aggB P t = some b) : (isAgg t).run P w = .ok b w := by
  unfold aggB at h
  unfold isAgg
  split at h
  · rename_i hu; simp only [Option.some.injEq] at h; subst h; rw [Sem.run_bind, run_underlying hu]; rfl
  · rename_i hu; simp only [Option.some.injEq] at h; subst h; rw [Sem.run_bind, run_underlying hu]; rfl
  · rename_i d h1 h2 hu
    simp only [Option.some.injEq] at h; subst h
    rw [Sem.run_bind, run_underlying hu]
    cases d <;> first | rfl | exact (h1 _ rfl).elim | exact (h2 _ _ rfl).elim
  · cases h

/-- a part of a row of cells -/
theorem partS_run {t : TypeId} {off n : Nat} {agg : Bool} {cs : List SV} {s : SV} (ha : aggB P t = some agg) (hn : szOf P t = some n) (h : partS off n agg cs = some s) (ρ : Nat → Nat) :
    (part t (denL ρ cs).toArray off).run P w = .ok (den ρ s) w := by
  unfold part
  rw [Sem.run_bind, run_aggB ha]
  simp only [Result.andThen_ok]
  cases agg with
  | true =>
    simp only [partS] at h
    split at h
    · rename_i hle
      simp only [Option.some.injEq] at h; subst h
      simp only [if_true, Sem.run_bind, run_szOf hn, Result.andThen_ok, Sem.run_pure, den, takeN_eq, dropN_eq, denL_take, denL_drop]
      congr 2
      apply Array.toList_inj.1
      simp [List.take_drop, Nat.add_comm]
    · cases h
  | false =>
    simp only [partS, nth_eq] at h
    simp [denL_get, h]

theorem loadS_run {t : TypeId} {u s : SV} (hs : Base ρ σ w) (h : loadS P σ t u = some s) : ∀ ρ', Agree σ.own.length ρ ρ' → (Instr.loadAt t (den ρ' u)).run P w = .ok (den ρ' s) w := by
  intro ρ' hρ
  cases u with
  | loc k off =>
    simp only [loadS, nth_eq] at h
    split at h
    · rename_i T cs hk
      split at h
      · rename_i agg n ha hn
        have hb := hs.own k _ hk ρ' hρ
        simp only [Own.holds] at hb
        have hcell : ∀ j, w.cell? ⟨ρ' k, j, none⟩ = (cs[j]?).map (den ρ') := fun j => by simp [World.cell?, hb, denL_get]
        simp only [den, Instr.loadAt, Instr.sureAddr, Sem.run_bind, Sem.run_pure, Result.andThen_ok]
        cases agg with
        | false =>
          simp only [partS, nth_eq] at h
          unfold loadVar
          rw [Sem.run_bind, run_aggB ha]
          simp [hcell, h]
        | true =>
          simp only [partS] at h
          split at h
          · rename_i hle
            simp only [Option.some.injEq] at h; subst h
            unfold loadVar
            rw [Sem.run_bind, run_aggB ha]
            simp only [Result.andThen_ok, if_true, Sem.run_bind, run_szOf hn, takeN_eq, dropN_eq, den]
            have hlen : (denL ρ' ((cs.drop off).take n)).length = n := by simp; omega
            have := run_loadCells_list (P := P) w ⟨ρ' k, off, none⟩ (denL ρ' ((cs.drop off).take n)) (fun j v hv => by
              rw [Addr.add_mid, hcell]
              rw [denL_get] at hv
              rw [← hv, List.getElem?_take, List.getElem?_drop]
              split
              · rfl
              · rename_i hj
                have : j < (denL ρ' ((cs.drop off).take n)).length := by
                  by_cases hj' : j < (denL ρ' ((cs.drop off).take n)).length
                  · exact hj'
                  · rw [← denL_get, List.getElem?_eq_none (by omega)] at hv; cases hv
                omega)
            rw [hlen] at this
            rw [this]
            rfl
          · cases h
      · cases h
    · cases h
  | _ => simp [loadS] at h

theorem fldAdr_run {s f o : Nat} {u r : SV} (hf : fieldOff P s f = some o) (h : fldAdr o u = some r) (ρ : Nat → Nat) : (Instr.fieldAt s (den ρ u) f).run P w = .ok (den ρ r) w := by
  unfold fieldOff at hf
  split at hf
  · rename_i fs hu
    split at hf
    · rename_i fd hfd
      split at hf
      · rename_i n hn
        split at hf
        · cases hf
        · rename_i hn0
          simp only [Option.some.injEq] at hf; subst hf
          unfold Instr.fieldAt
          rw [Sem.run_bind, run_underlying hu]
          cases u with
          | loc k off =>
            simp only [fldAdr, Option.some.injEq] at h; subst h
            simp [hfd, den, Instr.sureAddr, fieldPlace, run_szOf hn, hn0, Addr.add_mid]
          | val x =>
            cases x with
            | pointer p =>
              cases p with
              | some p => simp only [fldAdr, Option.some.injEq] at h; subst h; simp [hfd, den, Instr.sureAddr, fieldPlace, run_szOf hn, hn0]
              | none => simp [fldAdr] at h
            | _ => simp [fldAdr] at h
          | _ => simp [fldAdr] at h
      · cases hf
    · cases hf
  · cases hf

theorem fieldS_run {t f : Nat} {u r : SV} (h : fieldS P t f u = some r) (ρ : Nat → Nat) : (Instr.field t (den ρ u) f).run P w = .ok (den ρ r) w := by
  have key : ∀ (cs : List SV), (match fieldAt' P t f with | some (off, n, agg) => partS off n agg cs | none => none) = some r → (Instr.field t (.agg (denL ρ cs).toArray) f).run P w = .ok (den ρ r) w := by
    intro cs h
    split at h
    · rename_i off n agg hf
      unfold fieldAt' at hf
      split at hf
      · rename_i fs hu
        split at hf
        · rename_i fd hfd
          split at hf
          · rename_i n' b' hn ha
            simp only [Option.some.injEq, Prod.mk.injEq] at hf
            obtain ⟨rfl, rfl, rfl⟩ := hf
            unfold Instr.field
            rw [Sem.run_bind, run_underlying hu]
            simp [hfd, asAgg, partS_run ha hn h ρ]
          · cases hf
        · cases hf
      · cases hf
    · cases h
  cases u with
  | agg cs => exact key cs h
  | val x =>
    cases x with
    | agg a =>
      have := key (a.toList.map .val) h
      rw [denL_val] at this
      simpa [den] using this
    | _ => simp [fieldS] at h
  | _ => simp [fieldS] at h

theorem extS_run {i : Nat} {u r : SV} (h : extS i u = some r) (ρ : Nat → Nat) : (Instr.extract (den ρ u) i).run P w = .ok (den ρ r) w := by
  cases u with
  | tup vs =>
    simp only [extS, nth_eq] at h
    simp [den, Instr.extract, denL_get, h]
  | val x =>
    cases x with
    | tuple vs =>
      simp only [extS, nth_eq] at h
      cases hv : vs[i]? with
      | none => simp [hv] at h
      | some v => simp [hv] at h; subst h; simp [den, Instr.extract, hv]
    | _ => simp [extS] at h
  | _ => simp [extS] at h

theorem lenS_run {t : TypeId} {u r : SV} {x : Operand} (h : lenS P t (some u) = some r) (ρ : Nat → Nat) (ty : TypeId) : (Builtin.len_ #[t] ty #[den ρ u]).run P w = .ok (den ρ r) w := by
  have hk : ∀ {K : Kd}, lenKd P t = K → (K = .slice → ∃ e, P.underlying t = some (.slice e)) ∧ (K = .string → P.underlying t = some .string) := by
    intro K hK
    unfold lenKd at hK
    split at hK <;> subst hK
    · rename_i e hu; exact ⟨fun _ => ⟨e, hu⟩, (fun h => by cases h)⟩
    · rename_i hu; exact ⟨(fun h => by cases h), fun _ => hu⟩
    · exact ⟨(fun h => by cases h), (fun h => by cases h)⟩
  cases u with
  | val x =>
    cases x with
    | slice p n c =>
      simp only [lenS] at h
      split at h
      · rename_i hK
        obtain ⟨e, hu⟩ := (hk hK).1 rfl
        simp only [Option.some.injEq] at h; subst h
        simp [Builtin.len_, run_underlying hu, den, goInt]
      · cases h
    | string s =>
      simp only [lenS] at h
      split at h
      · rename_i hK
        have hu := (hk hK).2 rfl
        simp only [Option.some.injEq] at h; subst h
        simp [Builtin.len_, run_underlying hu, den, goInt]
      · cases h
    | _ => simp [lenS] at h
  | lsl k off n c =>
    simp only [lenS] at h
    split at h
    · rename_i hK
      obtain ⟨e, hu⟩ := (hk hK).1 rfl
      simp only [Option.some.injEq] at h; subst h
      simp [Builtin.len_, run_underlying hu, den, goInt]
    · cases h
  | _ => simp [lenS] at h

theorem foldl_splice (off : Nat) : ∀ (l : List Value) (s : Nat) (arr : Array Value), off + s + l.length ≤ arr.size →
    ((l.zipIdx s).foldl (fun cs (p : Value × Nat) => cs.setIfInBounds (off + p.2) p.1) arr).toList = arr.toList.take (off + s) ++ l ++ arr.toList.drop (off + s + l.length)
  | [], s, arr, h => by simp
  | v :: l, s, arr, h => by
    simp only [List.length_cons] at h
    rw [List.zipIdx_cons, List.foldl_cons, foldl_splice off l (s + 1) _ (by simp; omega)]
    have hlt : off + s < arr.toList.length := by simp; omega
    simp only [Array.toList_setIfInBounds, List.length_cons]
    rw [show off + (s + 1) = off + s + 1 by omega, List.take_set, List.drop_set_of_lt (by omega)]
    rw [show off + s + 1 + l.length = off + s + (l.length + 1) by omega]
    congr 1
    rw [List.take_succ_eq_append_getElem hlt, List.set_append_right _ _ (by simp; omega)]
    simp [Nat.min_eq_left (Nat.le_of_lt (show off + s < arr.size by simpa using hlt))]

theorem fillS_mono {place place' : Nat → Option (Nat × Nat)} (h : ∀ i x, place i = some x → place' i = some x) : ∀ (ps : List (Nat × SV)) (cells r : List SV), fillS place cells ps = some r → fillS place' cells ps = some r
  | [], cells, r, hr => hr
  | (i, s) :: ps, cells, r, hr => by
    simp only [fillS] at hr ⊢
    split at hr
    · rename_i off n hp
      rw [h i _ hp]
      split at hr
      · rename_i h1
        split at hr
        · rename_i h2
          simp only [h1, if_true, h2]
          exact fillS_mono h ps _ r hr
        · cases hr
      · cases hr
    · cases hr
theorem fillS_run {place : Nat → Option (Nat × Nat)} (ρ : Nat → Nat) : ∀ (ps : List (Nat × SV)) (cells r : List SV), fillS place cells ps = some r →
    Instr.fill place (denL ρ cells).toArray (ps.map fun p => (p.1, den ρ p.2)) = some (denL ρ r).toArray
  | [], cells, r, h => by simp only [fillS, Option.some.injEq] at h; subst h; rfl
  | (i, s) :: ps, cells, r, h => by
    simp only [fillS] at h
    split at h
    · rename_i off n hp
      split at h
      · rename_i hl
        split at h
        · rename_i hle
          have ih := fillS_run ρ ps _ r h
          simp only [List.map_cons, Instr.fill, hp]
          have hsz : (den ρ s).cells.size = n := by rw [cellsS_den]; simpa using hl
          have hcs : (denL ρ cells).toArray.size = cells.length := by simp
          rw [if_neg (by rw [hsz, hcs]; simp; omega)]
          rw [← ih]
          congr 1
          apply Array.toList_inj.1
          rw [cellsS_den, ← Array.foldl_toList]
          have hz : ((denL ρ (cellsS s)).toArray.zipIdx).toList = (denL ρ (cellsS s)).zipIdx 0 := by simp
          rw [hz, foldl_splice off _ 0 _ (by simp; omega)]
          simp [splice_eq, denL_append, denL_take, denL_drop, List.append_assoc]
        · cases h
      · cases h
    · cases h

/-- What an operation yields that turns nothing in memory. -/
theorem opv_sound (hs : Sat ρ σ a w) {o : Oper} {s : SV} (h : opv P σ o.op = some s) :
    ∃ v, (execOp a.eval o).run P w = .ok (.value v) w ∧ ∀ ρ', Agree σ.own.length ρ ρ' → v = den ρ' s := by
  have key : ∀ {x : Sem Value}, (∀ ρ', Agree σ.own.length ρ ρ' → x.run P w = .ok (den ρ' s) w) → (execOp a.eval o = do pure (.value (← x))) →
      ∃ v, (execOp a.eval o).run P w = .ok (.value v) w ∧ ∀ ρ', Agree σ.own.length ρ ρ' → v = den ρ' s := by
    intro x hx he
    have h0 := hx ρ (Agree.refl _ _)
    refine ⟨den ρ s, by rw [he, Sem.run_bind, h0]; rfl, fun ρ' hρ => ?_⟩
    have h1 := hx ρ' hρ
    rw [h0] at h1
    exact (Result.ok.inj h1).1
  obtain ⟨dst, op, ty, pos, after, guard⟩ := o
  cases op <;> simp only [opv, reduceCtorEq] at h
  case move x => exact key (x := pure (a.eval x)) (fun ρ' hρ => by rw [hs.ev h ρ' hρ]; rfl) rfl
  case assign x => exact key (x := pure (a.eval x)) (fun ρ' hρ => by rw [hs.ev h ρ' hρ]; rfl) rfl
  case pick c x y =>
    split at h
    · rename_i b hc
      have hcb := hs.ev hc
      have hx : ∀ u, ev σ x = some u → ∀ ρ', Agree σ.own.length ρ ρ' → a.eval x = den ρ' u := fun u hu => hs.ev hu
      have hy : ∀ u, ev σ y = some u → ∀ ρ', Agree σ.own.length ρ ρ' → a.eval y = den ρ' u := fun u hu => hs.ev hu
      refine key (x := do pure (if ← asBool (a.eval c) then a.eval x else a.eval y)) (fun ρ' hρ => ?_) ?_
      · rw [hcb ρ' hρ]
        simp only [den, asBool, Sem.run_bind, Sem.run_pure, Result.andThen_ok]
        congr 1
        unfold pickS at h
        split at h
        · rename_i p q h1 h2
          simp only [Option.some.injEq] at h; subst h
          rw [hx _ h1 ρ' hρ, hy _ h2 ρ' hρ]
          cases b <;> simp [den]
        · cases b
          · exact hy _ (by simpa using h) ρ' hρ
          · exact hx _ (by simpa using h) ρ' hρ
      · simp [execOp]
    · cases h
  case binOp op t x y yt =>
    split at h
    · rename_i u v hu hv
      cases hb : binS P t op u v with
      | none => simp [hb] at h
      | some r =>
        simp only [hb, Option.map_some, Option.some.injEq] at h; subst h
        refine key (x := do eqGuard op t x y (a.eval x) (a.eval y); binOp op t (a.eval x) (a.eval y)) (fun ρ' hρ => ?_) rfl
        rw [hs.ev hu ρ' hρ, hs.ev hv ρ' hρ]
        exact binS_run hb
    · cases h
  case unOp op t x =>
    split at h
    · rename_i u hu
      cases hb : unS op u with
      | none => simp [hb] at h
      | some r =>
        simp only [hb, Option.map_some, Option.some.injEq] at h; subst h
        refine key (x := Op.unary op (a.eval x)) (fun ρ' hρ => ?_) rfl
        rw [hs.ev hu ρ' hρ]
        exact unS_run hb
    · cases h
  case fieldAddr t x f =>
    split at h
    · rename_i o u ho hu
      refine key (x := Instr.fieldAt t (a.eval x) f) (fun ρ' hρ => ?_) rfl
      rw [hs.ev hu ρ' hρ]
      exact fldAdr_run ho h ρ'
    · cases h
  case field t x f =>
    split at h
    · rename_i u hu
      refine key (x := Instr.field t (a.eval x) f) (fun ρ' hρ => ?_) rfl
      rw [hs.ev hu ρ' hρ]
      exact fieldS_run h ρ'
    · cases h
  case extract x i =>
    split at h
    · rename_i u hu
      refine key (x := Instr.extract (a.eval x) i) (fun ρ' hρ => ?_) rfl
      rw [hs.ev hu ρ' hρ]
      exact extS_run h ρ'
    · cases h
  case load t x =>
    split at h
    · rename_i u hu
      refine key (x := Instr.loadAt t (a.eval x)) (fun ρ' hρ => ?_) rfl
      rw [hs.ev hu ρ' hρ]
      exact loadS_run hs.base h ρ' hρ
    · cases h
  case convert src dst' x =>
    split at h
    · rename_i k k' n hk hu
      simp only [Option.some.injEq] at h; subst h
      refine key (x := convert src dst' (a.eval x)) (fun ρ' hρ => ?_) rfl
      rw [hs.ev hu ρ' hρ]
      unfold convTo at hk
      split at hk
      · rename_i d k'' h1 h2
        simp only [Option.some.injEq] at hk; subst hk
        unfold convert
        rw [Sem.run_bind, run_underlying h1, Result.andThen_ok, Sem.run_bind, run_underlying h2, Result.andThen_ok]
        cases d <;> simp [den, Conv.intToInt]
      · cases hk
    · cases h
  case makeFunc f first caps =>
    split at h
    · rename_i x y hx hy
      simp only [Option.some.injEq] at h; subst h
      refine key (x := Instr.makeFunc f (first.map a.eval) (caps.map a.eval)) (fun ρ' hρ => ?_) rfl
      have h1 := hs.evL hx ρ' hρ
      have h2 := hs.evL hy ρ' hρ
      simp only [Instr.makeFunc, Sem.run_pure, den]
      congr 2
      · apply Array.toList_inj.1; simpa using h1
      · apply Array.toList_inj.1; simpa using h2
    · cases h
  case build t parts =>
    split at h
    · rename_i z fs ps hz hfs hps
      cases hf : fillS (nth fs) z ps with
      | none => simp [hf] at h
      | some r =>
        simp only [hf, Option.map_some, Option.some.injEq] at h; subst h
        refine key (x := Instr.build t (parts.map fun (i, x) => (i, a.eval x))) (fun ρ' hρ => ?_) rfl
        unfold zeroS at hz
        cases hi : P.info? t with
        | none => simp [hi] at hz
        | some i =>
          cases hzz : i.zero with
          | none => simp [hi, hzz] at hz
          | some zv =>
            simp only [hi, hzz, Option.bind_some, Option.map_some, Option.some.injEq] at hz
            have hzc : zv.cells = (denL ρ' z).toArray := by rw [← hz, denL_val]
            unfold fieldsS at hfs
            split at hfs
            · rename_i fields hu
              have hpl : (fields.mapM (fun (f : Field) => do pure (f.offset, ← sizeOf f.type) : Field → Sem (Nat × Nat))).run P w = .ok fs.toArray w := by
                have : ∀ (l : List Field) (fs : List (Nat × Nat)), (l.mapM fun f => (szOf P f.type).map fun n => (f.offset, n)) = some fs →
                    (l.mapM (fun (f : Field) => do pure (f.offset, ← sizeOf f.type) : Field → Sem (Nat × Nat))).run P w = .ok fs w := by
                  intro l
                  induction l with
                  | nil => intro fs h; simp at h; subst h; simp
                  | cons f l ih =>
                    intro fs h
                    rw [List.mapM_cons] at h
                    cases hsz : szOf P f.type with
                    | none => simp [hsz] at h
                    | some n =>
                      cases hrest : (l.mapM fun f => (szOf P f.type).map fun n => (f.offset, n)) with
                      | none => simp [hsz, hrest] at h
                      | some fs' =>
                        simp [hsz, hrest] at h
                        subst h
                        rw [List.mapM_cons]
                        have := ih fs' hrest
                        simp only [Sem.run_bind, run_szOf hsz, Result.andThen_ok, Sem.run_pure]
                        rw [this]
                        rfl
                have h2 := this fields.toList fs hfs
                rw [← Array.toArray_toList (xs := fields), List.mapM_toArray, Sem.run_map, h2]
                rfl
              unfold Instr.build
              have hz0 : (zeroValue t).run P w = .ok zv w := by simp [zeroValue, typeInfo, hi, hzz]
              rw [Sem.run_bind, hz0, Result.andThen_ok, Sem.run_bind, run_underlying hu, Result.andThen_ok]
              simp only [Sem.run_bind]
              rw [hpl]
              have hps' : (parts.map fun (x : Nat × Operand) => (x.1, a.eval x.2)).toList = ps.map fun p => (p.1, den ρ' p.2) := by
                have := hs.evP hps ρ' hρ
                simpa using this
              have hnth : (fun x => fs.toArray[x]?) = nth fs := by funext x; rw [nth_eq]; simp
              simp only [Result.andThen_ok, hps', hzc, hnth]
              rw [fillS_run ρ' ps z r hf]
              simp [den]
            · rename_i n e hu
              cases hsz : szOf P e with
              | none => simp [hsz] at hfs
              | some q =>
                simp only [hsz, Option.map_some, Option.some.injEq] at hfs
                subst hfs
                unfold Instr.build
                have hz0 : (zeroValue t).run P w = .ok zv w := by simp [zeroValue, typeInfo, hi, hzz]
                rw [Sem.run_bind, hz0, Result.andThen_ok, Sem.run_bind, run_underlying hu, Result.andThen_ok]
                simp only [Sem.run_bind, run_szOf hsz]
                have hps' : (parts.map fun (x : Nat × Operand) => (x.1, a.eval x.2)).toList = ps.map fun p => (p.1, den ρ' p.2) := by
                  have := hs.evP hps ρ' hρ
                  simpa using this
                simp only [Result.andThen_ok, hps', hzc]
                rw [fillS_run ρ' ps z r (fillS_mono (fun i x hx => ?_) ps z r hf)]
                · simp [den]
                · rw [nth_eq, List.getElem?_map] at hx
                  cases hr : (List.range n)[i]? with
                  | none => simp [hr] at hx
                  | some j =>
                    have hj := (List.getElem?_eq_some_iff.1 hr).2
                    simp only [List.getElem_range] at hj
                    subst hj
                    simpa [hr] using hx
            · cases hfs
    · cases h
  case call c =>
    split at h
    · rename_i h1 h2 h3
      obtain ⟨callee, args, tys⟩ := c
      simp only at h1 h2 h3
      rename_i x t
      cases hu : ev σ x with
      | none => rw [hu] at h; simp [lenS] at h
      | some u =>
        rw [hu] at h
        have ha : args = #[x] := by apply Array.toList_inj.1; simpa using h2
        have ht : tys = #[t] := by apply Array.toList_inj.1; simpa using h3
        subst ha; subst ht; subst h1
        refine key (x := Builtin.len_ #[t] ty #[a.eval x]) (fun ρ' hρ => ?_) ?_
        · rw [hs.ev hu ρ' hρ]; exact lenS_run (x := x) h ρ' ty
        · simp [execOp, resolve, invoke, builtin]
    · cases h
end
end Go.SX
