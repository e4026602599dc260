/-
  From the reading of an argument that a row gives to a representation; and the closing of a law whose call leaves old memory alone.
-/
import Derived.Test.YtnbfdncmlbegmaaSxMore
import Derived.ProofKit
import Derived.Deep.Slices
import Derived.Deep.Fields
import Derived.OpenShut
set_option linter.unusedVariables false
namespace Go.SX
open Go Go.RowKit Go.ChangeShapes Go.WideShapes Go.Deep

section
variable {P : Program}

/-- What reads as type t reads as A. -/
def Cov (P : Program) (t : TypeId) {α : Type} (A : Rp α) : Prop :=
  P.cellsOf t = A.sz ∧ ∀ (H : Type) (enc : TypeId × Value → H) (w : World) (base : Nat) (spare : Nat → Bool) (held : Bool) (fuel : Nat) (cs : List Value) (x : DataW H × List MemPlace), DataW.trod enc P w base spare held fuel t cs = some x → ∃ y, A.rd (fun _ => True) w cs y

theorem Cov.int {t : TypeId} {k : IntKind} (ht : P.underlying t = some (.int k)) (hc : P.cellsOf t = 1) : Cov P t (Rp.int k) :=
  ⟨hc, fun H enc w base spare held fuel cs x h => by
    obtain ⟨n, rfl, _⟩ := DataW.trod_int ht h
    exact ⟨n, rfl⟩⟩
theorem Cov.bool {t : TypeId} (ht : P.underlying t = some .bool) (hc : P.cellsOf t = 1) : Cov P t Rp.bool :=
  ⟨hc, fun H enc w base spare held fuel cs x h => by
    obtain ⟨n, rfl, _⟩ := DataW.trod_bool ht h
    exact ⟨n, rfl⟩⟩
theorem Cov.str {t : TypeId} (ht : P.underlying t = some .string) (hc : P.cellsOf t = 1) : Cov P t Rp.str :=
  ⟨hc, fun H enc w base spare held fuel cs x h => by
    obtain ⟨n, rfl, _, hs⟩ := DataW.trod_string ht h
    exact ⟨n, rfl, hs⟩⟩

theorem list_of {α : Type} {R : Nat → α → Prop} : ∀ n, (∀ i, i < n → ∃ y, R i y) → ∃ ys : List α, ys.length = n ∧ ∀ i y, ys[i]? = some y → R i y
  | 0, _ => ⟨[], rfl, fun i y h => by simp at h⟩
  | n + 1, h => by
    obtain ⟨ys, h1, h2⟩ := list_of n fun i hi => h i (by omega)
    obtain ⟨y, hy⟩ := h n (by omega)
    refine ⟨ys ++ [y], by simp [h1], fun i z hz => ?_⟩
    rcases Nat.lt_trichotomy i n with hi | hi | hi
    · rw [List.getElem?_append_left (by omega)] at hz; exact h2 i z hz
    · subst hi
      rw [List.getElem?_append_right (by omega), h1] at hz
      simp at hz
      exact hz ▸ hy
    · rw [List.getElem?_eq_none (by simp; omega)] at hz; cases hz

theorem Cov.slice {t e : TypeId} {α : Type} {A : Rp α} (ht : P.underlying t = some (.slice e)) (hc : P.cellsOf t = 1) (hA : Cov P e A) (hpos : 0 < A.sz) : Cov P t (Rp.slice A) :=
  ⟨hc, fun H enc w base spare held fuel cs x h => by
    rcases open_slice ht h with ⟨rfl, _⟩ | ⟨a, len, cap, m, n, D, Pl, rfl, hb, hl, hm, hmm, hx, hi⟩
    · exact ⟨[], none, 0, 0, rfl, rfl, Nat.le_refl _, Nat.zero_le _, .inl rfl⟩
    · have hml : len ≤ m := by rw [hmm]; split <;> omega
      rw [hA.1] at hi
      have key : ∀ i, i < len → ∃ y, ∃ ces, At w (a.add (i * A.sz)) ces ∧ A.rd (fun _ => True) w ces y := fun i him => by
        obtain ⟨cs', hcs, ht'⟩ := hi i (by omega)
        obtain ⟨_, hlen, hat⟩ := World.cells?_some hcs
        obtain ⟨y, hy⟩ := hA.2 H enc w base spare held n cs' _ ht'
        refine ⟨y, cs', fun j v hv => ?_, hy⟩
        have hj := (List.getElem?_eq_some_iff.1 hv).1
        rw [hat j (by omega), hv]
      obtain ⟨ys, h1, h2⟩ := list_of len key
      refine ⟨ys, some a, len, cap, rfl, h1.symm, hl, hm, ?_⟩
      by_cases hz : len = 0
      · left; exact List.eq_nil_of_length_eq_zero (by omega)
      · right
        refine ⟨a, rfl, trivial, ?_, h2⟩
        obtain ⟨cs', hcs, _⟩ := hi 0 (by omega)
        obtain ⟨_, hlen, hat⟩ := World.cells?_some hcs
        have := hat 0 hpos
        rw [List.getElem?_eq_getElem (by omega)] at this
        have h3 := World.block_lt_of_cell? w _ this
        simpa [block_add] using h3⟩

/-- The fields of a struct, from cell o on. -/
def CovF (P : Program) (fs : List Field) (o : Nat) {α : Type} (A : Rp α) : Prop :=
  ∀ (H : Type) (enc : TypeId × Value → H) (w : World) (base : Nat) (spare : Nat → Bool) (held : Bool) (fuel : Nat) (cs : List Value), (∀ f, f ∈ fs → ∃ x, DataW.trod enc P w base spare held fuel f.type ((cs.drop f.offset).take (P.cellsOf f.type)) = some x) → cs.length = o + A.sz → ∃ y, A.rd (fun _ => True) w (cs.drop o) y

theorem CovF.one {f : Field} {o : Nat} {α : Type} {A : Rp α} (ho : f.offset = o) (hA : Cov P f.type A) : CovF P [f] o A := fun H enc w base spare held fuel cs h hl => by
  obtain ⟨x, hx⟩ := h f (by simp)
  rw [ho, hA.1, List.take_of_length_le (by simp; omega)] at hx
  exact hA.2 H enc w base spare held fuel _ x hx
theorem CovF.cons {f : Field} {fs : List Field} {o : Nat} {α β : Type} {A : Rp α} {B : Rp β} (ho : f.offset = o) (hA : Cov P f.type A) (hB : CovF P fs (o + A.sz) B) : CovF P (f :: fs) o (Rp.pair A B) := fun H enc w base spare held fuel cs h hl => by
  obtain ⟨x, hx⟩ := h f (by simp)
  rw [ho, hA.1] at hx
  obtain ⟨y, hy⟩ := hA.2 H enc w base spare held fuel _ x hx
  have hl' : cs.length = o + (A.sz + B.sz) := hl
  obtain ⟨z, hz⟩ := hB H enc w base spare held fuel cs (fun f' hf' => h f' (by simp [hf'])) (by omega)
  refine ⟨(y, z), _, _, ?_, hy, hz⟩
  rw [← List.drop_drop, List.take_append_drop]
theorem Cov.struct {t : TypeId} {fs : List Field} {α : Type} {A : Rp α} (ht : P.underlying t = some (.struct fs.toArray)) (hc : P.cellsOf t = A.sz) (hA : CovF P fs 0 A) : Cov P t A :=
  ⟨hc, fun H enc w base spare held fuel cs x h => by
    obtain ⟨xs, n, _, hx, hlen, hxl, hf⟩ := DataW.trod_struct ht h
    have := hA H enc w base spare held n cs (fun f hfm => ?_) (by omega)
    · simpa using this
    · obtain ⟨i, hi, hfi⟩ := List.getElem_of_mem hfm
      have h1 := hf i f (by simp [← hfi, hi])
      have h2 : i < xs.length := by rw [hxl]; simpa using hi
      rw [List.getElem?_eq_getElem h2] at h1
      exact ⟨_, h1⟩⟩

variable {H : Type} {enc : TypeId × Value → H} {w : World} {base b0 : Nat} {spare : Nat → Bool} {held : Bool} {r : Reach} {v : Value} {d : DataW H} {ps : List MemPlace}
theorem open_sl {t e : TypeId} {α : Type} {A : Rp α} (ht : P.underlying t = some (.slice e)) (hA : Cov P t (Rp.slice A)) (hval : Value.okWide P w r b0 t v) (hd : DataW.Trod enc P w base spare held t v d ps) : ∃ y, (Rp.slice A).rd (fun _ => True) w [v] y := by
  obtain ⟨a, len, cap, rfl⟩ := okWide_slice ht hval
  obtain ⟨fuel, hf⟩ := hd
  exact hA.2 H enc w base spare held fuel _ _ hf
theorem open_st {t : TypeId} (ht : P.underlying t = some .string) (hval : Value.okWide P w r b0 t v) (hd : DataW.Trod enc P w base spare held t v d ps) : ∃ s : ByteArray, v = .string s ∧ s.size ≤ maxLen := by
  obtain ⟨s, rfl⟩ := okWide_string ht hval
  obtain ⟨fuel, hf⟩ := hd
  obtain ⟨s', h1, _, h2⟩ := DataW.trod_string ht hf
  simp [Value.cells] at h1
  subst h1
  exact ⟨s, rfl, h2⟩
theorem open_agg {t : TypeId} {fs : Array Field} {α : Type} {A : Rp α} (ht : P.underlying t = some (.struct fs)) (hA : Cov P t A) (hval : Value.okWide P w r b0 t v) (hd : DataW.Trod enc P w base spare held t v d ps) : ∃ cs y, v = .agg cs ∧ A.rd (fun _ => True) w cs.toList y := by
  obtain ⟨cs, rfl, _⟩ := okWide_struct ht hval
  obtain ⟨fuel, hf⟩ := hd
  obtain ⟨y, hy⟩ := hA.2 H enc w base spare held fuel _ _ hf
  exact ⟨cs, y, rfl, hy⟩

/-- All arguments read as they did. -/
theorem trodAll_below {W W' : World} (hl : laidOutB P = true) (hb : Below W.heap.size W W') : ∀ {ts : List TypeId} {vs : List Value} {ds : List (DataW H)} {ps : List MemPlace}, (∀ t, t ∈ ts → P.readableRec t = true ∧ t < P.types.size) → (∀ x, x ∈ ps → x.block < W.heap.size) →
    DataW.TrodAll enc P W 0 (fun _ => true) true ts vs ds ps → ∀ sp : Nat → Bool, (∀ p ∈ ps, sp p.block = true) → DataW.TrodAll enc P W' 0 sp true ts vs ds ps
  | [], [], [], ps, _, _, h, sp, hsp => h
  | [], _ :: _, _, _, _, _, h, _, _ => h.elim
  | [], [], _ :: _, _, _, _, h, _, _ => h.elim
  | _ :: _, [], _, _, _, _, h, _, _ => h.elim
  | _ :: _, _ :: _, [], _, _, _, h, _, _ => h.elim
  | t :: ts, v :: vs, d :: ds, ps, hr, hlt, h, sp, hsp => by
    obtain ⟨p, q, h1, h2, rfl⟩ := h
    exact ⟨p, q, WideElems.Trod_stays hl (hr t (by simp)).1 (hr t (by simp)).2 h1 (fun x hx => hb.same (hlt x (by simp [hx]))) (fun x hx => hsp x (by simp [hx])),
      trodAll_below hl hb (fun t' ht' => hr t' (by simp [ht'])) (fun x hx => hlt x (by simp [hx])) h2 sp (fun x hx => hsp x (by simp [hx])), rfl⟩

/-- The closing of a law that answers true and leaves old memory alone. -/
theorem law_post {f : Func} {s : ChangeSpec} {apart fresh handsOn : Bool} {W W' : World} {args : Array Value} {ds gs : List (DataW H)} {before : List MemPlace} {tb : TypeId} (hl : laidOutB P = true)
    (hW : DataW.Whole enc P f.params.toList s.vars apart W args.toList ds gs before) (hb : Below W.heap.size W W') (hvs : s.vars = []) (hts : ∀ t, t ∈ f.params.toList → P.readableRec t = true ∧ t < P.types.size)
    (hrt : f.resultTypes = #[tb]) (htb : P.underlying tb = some .bool) (hr : (s.fn H (ds ++ gs)).results = [.lit (.bool true)]) (ha : (s.fn H (ds ++ gs)).args = ds) (hv : (s.fn H (ds ++ gs)).vars = []) :
    s.post enc P f apart fresh handsOn false W args (.bool true) W' := by
  have hlt := hW.lt
  have hW' := hW
  obtain ⟨p, q, hA, hV, rfl, _, _⟩ := hW
  rw [hvs] at hV
  refine ⟨ds, gs, p ++ q, [], p, [], hW', ?_, ?_, ?_, hb.frame _, fun h => by cases h⟩
  · rw [hr, hrt]
    exact trodAll_cons_mk (shut_bool htb _) trodAll_mk0
  · rw [ha]
    exact trodAll_below hl hb hts (fun x hx => hlt x (by simp [hx])) hA _ fun x hx => by simpa using hlt x (by simp [hx])
  · rw [hv, hvs]; rfl
end
end Go.SX
