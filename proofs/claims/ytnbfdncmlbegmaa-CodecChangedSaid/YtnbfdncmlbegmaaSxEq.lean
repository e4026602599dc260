/-
  Structs of numbers compared.
-/
import Derived.Test.YtnbfdncmlbegmaaSxBox
import Derived.Laws.StructEq
set_option linter.unusedVariables false
namespace Go.SX
open Go Go.RowKit

section
variable {P : Program} {ops : Array Oper} {Q : Exit → St → Prop} {σ : St} {l : List Oper} {o : Oper} {rest : List Oper} {ds : List (Option Nat)} {K : St → Prop}

def isIntT (P : Program) (t : TypeId) : Bool := match P.underlying t with | some (.int _) => true | _ => false
def fieldsInt (P : Program) : Nat → List Field → Bool
  | _, [] => true
  | i, f :: fs => (f.name != "_") && (f.offset == i) && isIntT P f.type && aggB P f.type == some false && fieldsInt P (i + 1) fs
/-- a struct of so many numbers -/
def intsT (P : Program) (t : TypeId) : Option Nat :=
  match P.underlying t with
  | some (.struct fs) => if fieldsInt P 0 fs.toList && P.stoodInHeld t == false && P.eqGuardType P.depth t == false then some fs.size else none
  | _ => none

theorem run_eqFields_ints {d : Nat} {xs ys : Array Value} {w : World} : ∀ (fs : List Field) (i : Nat) (as bs : List Int), fieldsInt P i fs = true → xs.toList.drop i = as.map (Value.int .i64) → ys.toList.drop i = bs.map (Value.int .i64) → as.length = fs.length → bs.length = fs.length →
    (Op.eqFields (d + 1) xs ys fs).run P w = .ok (as == bs) w
  | [], i, as, bs, _, _, _, h1, h2 => by
    obtain rfl := List.eq_nil_of_length_eq_zero h1
    obtain rfl := List.eq_nil_of_length_eq_zero h2
    simp [Op.eqFields]
  | f :: fs, i, [], bs, _, _, _, h1, _ => by simp at h1
  | f :: fs, i, a :: as, [], _, _, _, _, h2 => by simp at h2
  | f :: fs, i, a :: as, b :: bs, hf, hx, hy, h1, h2 => by
    simp only [fieldsInt, Bool.and_eq_true, bne_iff_ne, ne_eq, beq_iff_eq] at hf
    obtain ⟨⟨⟨⟨hn, ho⟩, hi⟩, hag⟩, hrest⟩ := hf
    have gx : xs[i]? = some (.int .i64 a) := by
      have := congrArg (fun l : List Value => l[0]?) hx
      simpa using this
    have gy : ys[i]? = some (.int .i64 b) := by
      have := congrArg (fun l : List Value => l[0]?) hy
      simpa using this
    have hx' : xs.toList.drop (i + 1) = as.map (Value.int .i64) := by
      have := congrArg List.tail hx
      simpa using this
    have hy' : ys.toList.drop (i + 1) = bs.map (Value.int .i64) := by
      have := congrArg List.tail hy
      simpa using this
    have ih := run_eqFields_ints (d := d) (xs := xs) (ys := ys) (w := w) fs (i + 1) as bs hrest hx' hy' (by simpa using h1) (by simpa using h2)
    have hu : ∃ k, P.underlying f.type = some (.int k) := by
      unfold isIntT at hi
      split at hi
      · rename_i k hk; exact ⟨k, hk⟩
      · cases hi
    obtain ⟨k, hu⟩ := hu
    simp only [Op.eqFields, ne_eq, hn, not_false_eq_true, if_true, Sem.run_bind, part, run_aggB hag, Result.andThen_ok, Bool.false_eq_true, if_false, ho, gx, gy, Sem.run_pure, run_equalIn_int w d f.type .i64 k a b hu]
    cases hab : (a == b)
    · simp [hab]
    · simp only [Bool.not_true, Bool.false_eq_true, if_false, ih]
      simp [hab]

theorem run_equal_ints {t : TypeId} {n : Nat} {as bs : List Int} {w : World} (ht : intsT P t = some n) (ha : as.length = n) (hb : bs.length = n) :
    (Op.equal t (.agg (as.map (Value.int .i64)).toArray) (.agg (bs.map (Value.int .i64)).toArray)).run P w = .ok (as == bs) w := by
  unfold intsT at ht
  split at ht
  · rename_i fs hu
    split at ht
    · rename_i h
      simp only [Bool.and_eq_true, beq_iff_eq] at h
      simp only [Option.some.injEq] at ht
      have hfo : P.fieldsOf t = fs := by unfold Program.fieldsOf; rw [hu]
      show (Op.equalIn (9998 + 1 + 1) t _ _).run P w = _
      rw [run_equalIn_struct w (9998 + 1) t _ _ (by rw [hfo]; exact hu) h.1.2, hfo]
      exact run_eqFields_ints fs.toList 0 as bs h.1.1 (by simp) (by simp) (by simp [ha, ← ht]) (by simp [hb, ← ht])
    · cases ht
  · cases ht

theorem intsT_guard {t : TypeId} {n : Nat} (ht : intsT P t = some n) : P.eqGuardType P.depth t = false := by
  unfold intsT at ht
  split at ht
  · split at ht
    · rename_i h; simp only [Bool.and_eq_true, beq_iff_eq] at h; exact h.2
    · cases ht
  · cases ht
theorem run_eqGuard_agg {op : BinOp} {t : TypeId} {x y : Operand} {a b : Array Value} {w : World} (hg : P.eqGuardType P.depth t = false) : (eqGuard op t x y (.agg a) (.agg b)).run P w = .ok () w := by
  unfold eqGuard
  cases op <;> simp [hg]
def eqRes : BinOp → Bool → Option Bool
  | .eql, b => some b
  | .neq, b => some (!b)
  | _, _ => none
theorem run_aggCmp {op : BinOp} {t : TypeId} {x y : Operand} {n : Nat} {as bs : List Int} {r : Bool} {w : World} (ht : intsT P t = some n) (ha : as.length = n) (hb : bs.length = n) (hr : eqRes op (as == bs) = some r) :
    (do eqGuard op t x y (.agg (as.map (Value.int .i64)).toArray) (.agg (bs.map (Value.int .i64)).toArray); binOp op t (.agg (as.map (Value.int .i64)).toArray) (.agg (bs.map (Value.int .i64)).toArray) : Sem Value).run P w = .ok (.bool r) w := by
  have he := run_equal_ints (w := w) ht ha hb
  rw [Sem.run_bind, run_eqGuard_agg (intsT_guard ht), Result.andThen_ok]
  unfold eqRes at hr
  split at hr
  · simp only [Option.some.injEq] at hr; subst hr
    rw [run_eql_struct]
    have he' : (Op.equalIn 10000 t (.agg (as.map (Value.int .i64)).toArray) (.agg (bs.map (Value.int .i64)).toArray)).run P w = .ok (as == bs) w := he
    rw [he']; rfl
  · simp only [Option.some.injEq] at hr; subst hr
    rw [run_neq_struct]
    have he' : (Op.equalIn 10000 t (.agg (as.map (Value.int .i64)).toArray) (.agg (bs.map (Value.int .i64)).toArray)).run P w = .ok (as == bs) w := he
    rw [he']; rfl
  · cases hr

/-- structs of numbers compared: 'as', 'bs' are their numbers -/
theorem WO.aggCmp {op : BinOp} {t ty : TypeId} {x y : Operand} {n : Nat} {r : Bool} (as bs : List Int) (hds : dsOk ds ops.toList = true) (hg : gd ds σ o.guard = some true) (hd : dOk σ o.dst = true)
    (hop : o.op = .binOp op t x y ty) (hx : ∃ s, ev σ x = some s ∧ ∀ ρ, den ρ s = .agg (as.map (Value.int .i64)).toArray) (hy : ∃ s, ev σ y = some s ∧ ∀ ρ, den ρ s = .agg (bs.map (Value.int .i64)).toArray)
    (ht : intsT P t = some n) (ha : as.length = n) (hb : bs.length = n) (hr : eqRes op (as == bs) = some r) (hk : WO P ops Q rest (σ.put o.dst (.val (.bool r)))) : WO P ops Q (o :: rest) σ :=
  WO.one hds hg fun ρ a w hs => by
    obtain ⟨s1, e1, d1⟩ := hx
    obtain ⟨s2, e2, d2⟩ := hy
    refine ⟨ρ, _, .bool r, w, .inl ?_, hs.put _ _ _ (dOk_lt hd) (fun ρ' hρ => rfl), hk⟩
    unfold execOp
    rw [hop]
    simp only [hs.ev e1 ρ (Agree.refl _ _), hs.ev e2 ρ (Agree.refl _ _), d1, d2]
    rw [Sem.run_bind, run_aggCmp ht ha hb hr]
    rfl
theorem WQ.aggCmp {op : BinOp} {t ty : TypeId} {x y : Operand} {n : Nat} {r : Bool} (as bs : List Int) (hds : dsOk ds ops.toList = true) (hg : gd ds σ o.guard = some true) (hd : dOk σ o.dst = true)
    (hop : o.op = .binOp op t x y ty) (hx : ∃ s, ev σ x = some s ∧ ∀ ρ, den ρ s = .agg (as.map (Value.int .i64)).toArray) (hy : ∃ s, ev σ y = some s ∧ ∀ ρ, den ρ s = .agg (bs.map (Value.int .i64)).toArray)
    (ht : intsT P t = some n) (ha : as.length = n) (hb : bs.length = n) (hr : eqRes op (as == bs) = some r) (hk : WQ P ops K rest (σ.put o.dst (.val (.bool r)))) : WQ P ops K (o :: rest) σ :=
  WQ.one hds hg hd _ (fun ρ a w hs => by
    obtain ⟨s1, e1, d1⟩ := hx
    obtain ⟨s2, e2, d2⟩ := hy
    refine ⟨_, ?_, fun _ _ => rfl⟩
    unfold execOp
    rw [hop]
    simp only [hs.ev e1 ρ (Agree.refl _ _), hs.ev e2 ρ (Agree.refl _ _), d1, d2]
    rw [Sem.run_bind, run_aggCmp ht ha hb hr]
    rfl) hk
end
end Go.SX
