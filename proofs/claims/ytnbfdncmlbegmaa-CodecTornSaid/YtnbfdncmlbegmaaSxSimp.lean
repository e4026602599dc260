/-
  The executor's functions at the forms that occur: rules for 'simp only', each by computing.
-/
import Derived.Test.YtnbfdncmlbegmaaSxRd
set_option linter.unusedVariables false
set_option linter.defProp false
namespace Go.SX
open Go Go.RowKit
section
variable {P : Program} {σ : St} {d : Option Nat}

def stepV (σ : St) (d : Option Nat) (r : Option SV) : Option St :=
  match dOk σ d with
  | true => r.map fun s => σ.put d s
  | false => none
theorem r_stepV (n i : Nat) (E O S F s) : stepV ⟨n, E, O, S, F⟩ (some i) (some s) = if i < n then some ⟨n, (i, s) :: E, O, S, F⟩ else none := by
  simp only [stepV, dOk]
  split <;> rename_i h
  · simp only [decide_eq_true_eq] at h; rw [if_pos h]; rfl
  · simp only [decide_eq_false_iff_not] at h; rw [if_neg h]
theorem r_stepV0 (s) : stepV σ none (some s) = some σ := rfl

theorem r_move (x) : step P σ d (.move x) = stepV σ d (ev σ x) := rfl
theorem r_assign (x) : step P σ d (.assign x) = stepV σ d (ev σ x) := rfl
def pick1 (σ : St) (x y : Operand) : Option SV → Option SV
  | some (.val (.bool b)) => pickS b (ev σ x) (ev σ y)
  | _ => none
theorem r_pick (c x y) : step P σ d (.pick c x y) = stepV σ d (pick1 σ x y (ev σ c)) := rfl
theorem r_pick1 (x y b) : pick1 σ x y (some (.val (.bool b))) = pickS b (ev σ x) (ev σ y) := rfl
theorem r_pickbb (b p q) : pickS b (some (.val (.bool p))) (some (.val (.bool q))) = some (.val (.bool (if b = true then p else q))) := rfl
theorem r_pickt (x y) : pickS true x y = x := by
  unfold pickS; split
  · simp
  · simp
theorem r_pickf (x y) : pickS false x y = y := by
  unfold pickS; split
  · simp
  · simp
def bin2 (P : Program) (t : TypeId) (op : BinOp) : Option SV → Option SV → Option SV
  | some (.val u), some (.val v) => (binS P t op u v).map .val
  | _, _ => none
theorem r_bin (op t x y yt) : step P σ d (.binOp op t x y yt) = stepV σ d (bin2 P t op (ev σ x) (ev σ y)) := rfl
theorem r_bin2 (op t u v) : bin2 P t op (some (.val u)) (some (.val v)) = (binS P t op u v).map .val := rfl
theorem r_add (t k a b) : binS P t .add (.int k a) (.int k b) = some (.int k (k.wrap (a + b))) := by simp [binS, isSh, intB]
theorem r_sub (t k a b) : binS P t .sub (.int k a) (.int k b) = some (.int k (k.wrap (a - b))) := by simp [binS, isSh, intB]
theorem r_mul (t k a b) : binS P t .mul (.int k a) (.int k b) = some (.int k (k.wrap (a * b))) := by simp [binS, isSh, intB]
theorem r_quo (t k a b) : binS P t .quo (.int k a) (.int k b) = if b = 0 then none else some (.int k (k.wrap (a.tdiv b))) := by simp [binS, isSh, intB]
theorem r_rem (t k a b) : binS P t .rem (.int k a) (.int k b) = if b = 0 then none else some (.int k (a.tmod b)) := by simp [binS, isSh, intB]
theorem r_eql (t k a b) : binS P t .eql (.int k a) (.int k b) = some (.bool (a == b)) := by simp [binS, isSh, intB]
theorem r_neq (t k a b) : binS P t .neq (.int k a) (.int k b) = some (.bool (a != b)) := by simp [binS, isSh, intB]
theorem r_lss (t k a b) : binS P t .lss (.int k a) (.int k b) = some (.bool (decide (a < b))) := by simp [binS, isSh, intB]
theorem r_leq (t k a b) : binS P t .leq (.int k a) (.int k b) = some (.bool (decide (a ≤ b))) := by simp [binS, isSh, intB]
theorem r_gtr (t k a b) : binS P t .gtr (.int k a) (.int k b) = some (.bool (decide (b < a))) := by simp [binS, isSh, intB]
theorem r_geq (t k a b) : binS P t .geq (.int k a) (.int k b) = some (.bool (decide (b ≤ a))) := by simp [binS, isSh, intB]
theorem r_and (t k a b) : binS P t .and (.int k a) (.int k b) = some (.int k (k.wrap (BitVec.ofInt k.bits a &&& BitVec.ofInt k.bits b).toNat)) := by simp [binS, isSh, intB]
theorem r_or (t k a b) : binS P t .or (.int k a) (.int k b) = some (.int k (k.wrap (BitVec.ofInt k.bits a ||| BitVec.ofInt k.bits b).toNat)) := by simp [binS, isSh, intB]
theorem r_xor (t k a b) : binS P t .xor (.int k a) (.int k b) = some (.int k (k.wrap (BitVec.ofInt k.bits a ^^^ BitVec.ofInt k.bits b).toNat)) := by simp [binS, isSh, intB]
theorem r_shl (t k k' a b) : binS P t .shl (.int k a) (.int k' b) = if b < 0 then none else some (.int k (k.wrap (a * 2 ^ (min b.toNat k.bits)))) := by simp [binS, isSh, shB]
theorem r_shr (t k k' a b) : binS P t .shr (.int k a) (.int k' b) = if b < 0 then none else some (.int k (a.fdiv (2 ^ (min b.toNat k.bits)))) := by simp [binS, isSh, shB]
def bB (x : Bool) : Option Bool → Option Value
  | some true => some (.bool x)
  | _ => none
theorem r_bbe (t a b) : binS P t .eql (.bool a) (.bool b) = bB (a == b) (some (boolT P t)) := by cases h : boolT P t <;> simp [binS, h, bB]
theorem r_bbn (t a b) : binS P t .neq (.bool a) (.bool b) = bB (!(a == b)) (some (boolT P t)) := by cases h : boolT P t <;> simp [binS, h, bB]
theorem r_bbt (x : Bool) : bB x (some true) = some (.bool x) := rfl
theorem r_beql (t a b) (h : boolT P t = true) : binS P t .eql (.bool a) (.bool b) = some (.bool (a == b)) := by simp [binS, h]
theorem r_bneq (t a b) (h : boolT P t = true) : binS P t .neq (.bool a) (.bool b) = some (.bool (!(a == b))) := by simp [binS, h]
theorem r_seql (t a b) : binS P t .eql (.string a) (.string b) = some (.bool (a.toList == b.toList)) := rfl
theorem r_sneq (t a b) : binS P t .neq (.string a) (.string b) = some (.bool (!(a.toList == b.toList))) := rfl
def un1 (op : UnOp) : Option SV → Option SV
  | some (.val u) => (unS op u).map .val
  | _ => none
theorem r_un (op t x) : step P σ d (.unOp op t x) = stepV σ d (un1 op (ev σ x)) := rfl
theorem r_not (b) : un1 .not (some (.val (.bool b))) = some (.val (.bool (!b))) := rfl
theorem r_neg (k n) : un1 .neg (some (.val (.int k n))) = some (.val (.int k (k.wrap (0 - n)))) := rfl
def fa1 (r : Option Nat) (x : Option SV) : Option SV :=
  match r, x with
  | some o, some u => fldAdr o u
  | _, _ => none
theorem r_fa (s x f) : step P σ d (.fieldAddr s x f) = stepV σ d (fa1 (fieldOff P s f) (ev σ x)) := rfl
theorem r_fal (o k off) : fa1 (some o) (some (.loc k off)) = some (.loc k (off + o)) := rfl
theorem r_fap (o a) : fa1 (some o) (some (.val (.pointer (some a)))) = some (.val (.pointer (some (a.add o)))) := rfl
def fd1 (P : Program) (t f : Nat) : Option SV → Option SV
  | some u => fieldS P t f u
  | none => none
theorem r_fd (t x f) : step P σ d (.field t x f) = stepV σ d (fd1 P t f (ev σ x)) := rfl
def fd2 (r : Option (Nat × Nat × Bool)) (cs : List SV) : Option SV :=
  match r with
  | some (off, n, agg) => partS off n agg cs
  | none => none
theorem r_fda (t f cs) : fd1 P t f (some (.agg cs)) = fd2 (fieldAt' P t f) cs := rfl
theorem r_fdv (t f a) : fd1 P t f (some (.val (.agg a))) = fd2 (fieldAt' P t f) (a.toList.map .val) := rfl
theorem r_fd2 (off n agg cs) : fd2 (some (off, n, agg)) cs = partS off n agg cs := rfl
theorem r_part0 (off n cs) : partS off n false cs = nth cs off := rfl
theorem r_part1 (off n cs) : partS off n true cs = if off + n ≤ cs.length then some (.agg (takeN (dropN cs off) n)) else none := rfl
def ex1 (i : Nat) : Option SV → Option SV
  | some u => extS i u
  | none => none
theorem r_ex (x i) : step P σ d (.extract x i) = stepV σ d (ex1 i (ev σ x)) := rfl
theorem r_ext (i vs) : ex1 i (some (.tup vs)) = nth vs i := rfl
theorem r_exv (i l) : ex1 i (some (.val (.tuple (List.toArray l)))) = (nth l i).map .val := rfl
def ld1 (P : Program) (σ : St) (t : TypeId) : Option SV → Option SV
  | some u => loadS P σ t u
  | none => none
theorem r_ld (t x) : step P σ d (.load t x) = stepV σ d (ld1 P σ t (ev σ x)) := rfl
def ld2 (agg : Option Bool) (n : Option Nat) (off : Nat) (o : Option Own) : Option SV :=
  match o with
  | some (.cells _ cs) => match agg, n with
    | some agg, some n => partS off n agg cs
    | _, _ => none
  | _ => none
theorem r_ldl (t k off) : ld1 P σ t (some (.loc k off)) = ld2 (aggB P t) (szOf P t) off (nth σ.own k) := rfl
theorem r_ld2 (T cs agg n off) : ld2 (some agg) (some n) off (some (.cells T cs)) = partS off n agg cs := rfl
def cv1 (k : Option IntKind) (x : Option SV) : Option SV :=
  match k, x with
  | some k, some (.val (.int _ n)) => some (.val (.int k (k.wrap n)))
  | _, _ => none
theorem r_cv (s t x) : step P σ d (.convert s t x) = stepV σ d (cv1 (convTo P s t) (ev σ x)) := rfl
theorem r_cv1 (k k' n) : cv1 (some k) (some (.val (.int k' n))) = some (.val (.int k (k.wrap n))) := rfl
def mf1 (f : Fn) (a b : Option (List SV)) : Option SV :=
  match a, b with
  | some a, some b => some (.fn f a b)
  | _, _ => none
theorem r_mf (f a b) : step P σ d (.makeFunc f (List.toArray a) (List.toArray b)) = stepV σ d (mf1 f (evL σ a) (evL σ b)) := rfl
theorem r_mf1 (f a b) : mf1 f (some a) (some b) = some (.fn f a b) := rfl
def bd1 (z : Option (List SV)) (fs : Option (List (Nat × Nat))) (ps : Option (List (Nat × SV))) : Option SV :=
  match z, fs, ps with
  | some z, some fs, some ps => (fillS (nth fs) z ps).map .agg
  | _, _, _ => none
theorem r_bd (t ps) : step P σ d (.build t (List.toArray ps)) = stepV σ d (bd1 (zeroS P t) (fieldsS P t) (evP σ ps)) := rfl
theorem r_bd1 (z fs ps) : bd1 (some z) (some fs) (some ps) = (fillS (nth fs) z ps).map .agg := rfl
theorem r_fill0 (pl cs) : fillS pl cs [] = some cs := rfl
def fill1 (pl : Nat → Option (Nat × Nat)) (cells : List SV) (s : SV) (rest : List (Nat × SV)) : Option (Nat × Nat) → Option (List SV)
  | some (off, n) => if (cellsS s).length = n then (if off + n ≤ cells.length then fillS pl (splice cells off (cellsS s)) rest else none) else none
  | none => none
theorem r_fill1 (pl cs i s l) : fillS pl cs ((i, s) :: l) = fill1 pl cs s l (pl i) := rfl
theorem r_fill2 (pl cs s l off n) : fill1 pl cs s l (some (off, n)) = if (cellsS s).length = n then (if off + n ≤ cs.length then fillS pl (splice cs off (cellsS s)) l else none) else none := rfl
theorem r_len (t x) : step P σ d (.call ⟨.builtin .len, #[x], #[t]⟩) = stepV σ d (lenS P t (ev σ x)) := rfl
def len1 : Kd → SV → Option SV
  | .slice, .val (.slice _ n _) => some (.val (.int .i64 n))
  | .slice, .lsl _ _ n _ => some (.val (.int .i64 n))
  | .string, .val (.string s) => some (.val (.int .i64 s.size))
  | _, _ => none
theorem r_lens (t p n c) : lenS P t (some (.val (.slice p n c))) = len1 (lenKd P t) (.val (.slice p n c)) := by
  simp only [lenS]; cases lenKd P t <;> rfl
theorem r_lenl (t k o n c) : lenS P t (some (.lsl k o n c)) = len1 (lenKd P t) (.lsl k o n c) := by
  simp only [lenS]; cases lenKd P t <;> rfl
theorem r_lenst (t s) : lenS P t (some (.val (.string s))) = len1 (lenKd P t) (.val (.string s)) := by
  simp only [lenS]; cases lenKd P t <;> rfl
theorem r_len1a (p n c) : len1 .slice (.val (.slice p n c)) = some (.val (.int .i64 n)) := rfl
theorem r_len1b (k o n c) : len1 .slice (.lsl k o n c) = some (.val (.int .i64 n)) := rfl
theorem r_len1c (s) : len1 .string (.val (.string s)) = some (.val (.int .i64 s.size)) := rfl

def box1 (σ : St) (d : Option Nat) (T : TypeId) : Option SV → Option St
  | some s => match dOk σ d with
    | true => some ((pushOwn σ T (cellsS s)).put d (.loc σ.own.length 0))
    | false => none
  | none => none
theorem r_box (T x) : step P σ d (.box T x) = box1 σ d T (ev σ x) := by
  simp only [step, box1]
  cases ev σ x <;> cases dOk σ d <;> rfl
theorem r_box1 (n i : Nat) (E O S F T s) : box1 ⟨n, E, O, S, F⟩ (some i) T (some s) = if i < n then some ⟨n, (i, .loc O.length 0) :: E, O ++ [.cells T (cellsS s)], S, F⟩ else none := by
  simp only [box1, dOk]
  split <;> rename_i h
  · simp only [decide_eq_true_eq] at h; rw [if_pos h]; rfl
  · simp only [decide_eq_false_iff_not] at h; rw [if_neg h]
def al1 (σ : St) (d : Option Nat) (T : TypeId) : Option (List SV) → Option St
  | some z => match dOk σ d with
    | true => some ((pushOwn σ T z).put d (.loc σ.own.length 0))
    | false => none
  | none => none
theorem r_al (T) : step P σ d (.alloc T) = al1 σ d T (zeroS P T) := by
  simp only [step, al1]
  cases zeroS P T <;> cases dOk σ d <;> rfl
theorem r_al1 (n i : Nat) (E O S F T z) : al1 ⟨n, E, O, S, F⟩ (some i) T (some z) = if i < n then some ⟨n, (i, .loc O.length 0) :: E, O ++ [.cells T z], S, F⟩ else none := by
  simp only [al1, dOk]
  split <;> rename_i h
  · simp only [decide_eq_true_eq] at h; rw [if_pos h]; rfl
  · simp only [decide_eq_false_iff_not] at h; rw [if_neg h]
def st1 (P : Program) (σ : St) (t : TypeId) (p u : Option SV) : Option St :=
  match p, u with
  | some p, some u => storeS P σ t u p
  | _, _ => none
theorem r_st (t x y) : step P σ none (.store t x y) = st1 P σ t (ev σ x) (ev σ y) := by
  simp only [step, st1, dOk]
  cases ev σ x <;> cases ev σ y <;> try rfl
  rename_i p u
  simp only
  cases storeS P σ t u p <;> rfl
def st2 (σ : St) (k off : Nat) (u : SV) (n : Option Nat) : Option Own → Option St
  | some (.cells T cs) => match n with
    | some n => if (cellsS u).length = n then (if off + n ≤ cs.length then (if (cellsS u).all oneS = true then some (setOwn σ k (.cells T (splice cs off (cellsS u)))) else none) else none) else none
    | none => none
  | _ => none
theorem r_st1 (t k off u) : st1 P σ t (some (.loc k off)) (some u) = st2 σ k off u (szOf P t) (nth σ.own k) := rfl
theorem r_st2 (n E O S F k off u m T cs) : st2 ⟨n, E, O, S, F⟩ k off u (some m) (some (.cells T cs)) =
    if (cellsS u).length = m then (if off + m ≤ cs.length then (if (cellsS u).all oneS = true then some ⟨n, E, setN O k (.cells T (splice cs off (cellsS u))), S, F⟩ else none) else none) else none := rfl
def bs1 (σ : St) (d : Option Nat) (len : Nat) (e : TypeId) (sz : Nat) : Option (List SV) → Option (List (Nat × SV)) → Option St
  | some z, some ps => match dOk σ d with
    | true => if len * sz ≤ 16777216 then (if z.length = sz then (fillS (fun i => some (i * sz, sz)) ((List.replicate len z).flatten) ps).map fun cs => (pushOwn σ e cs).put d (.lsl σ.own.length 0 len len) else none) else none
    | false => none
  | _, _ => none
def bs0 (P : Program) (σ : St) (d : Option Nat) (len : Nat) (ps : Option (List (Nat × SV))) : Option (TypeId × Nat) → Option St
  | some (e, sz) => bs1 σ d len e sz (zeroS P e) ps
  | none => none
theorem r_bs (t len ps) : step P σ d (.buildSlice t len (List.toArray ps)) = bs0 P σ d len (evP σ ps) (elemSz P t) := by
  simp only [step, bs0]
  cases elemSz P t with
  | none => cases dOk σ d <;> rfl
  | some p =>
    obtain ⟨e, sz⟩ := p
    simp only [bs1]
    cases h1 : evP σ ps <;> cases h2 : zeroS P e <;> cases dOk σ d <;> simp [h2]
theorem r_bs0 (len e sz ps) : bs0 P σ d len ps (some (e, sz)) = bs1 σ d len e sz (zeroS P e) ps := rfl
theorem r_bs1 (n i : Nat) (E O S F len e sz z ps) : bs1 ⟨n, E, O, S, F⟩ (some i) len e sz (some z) (some ps) =
    if i < n then (if len * sz ≤ 16777216 then (if z.length = sz then (fillS (fun i => some (i * sz, sz)) ((List.replicate len z).flatten) ps).map fun cs => ⟨n, (i, .lsl O.length 0 len len) :: E, O ++ [.cells e cs], S, F⟩ else none) else none) else none := by
  simp only [bs1, dOk]
  split <;> rename_i h
  · simp only [decide_eq_true_eq] at h; rw [if_pos h]; rfl
  · simp only [decide_eq_false_iff_not] at h; rw [if_neg h]

/-! cells -/
theorem r_ca (cs) : cellsS (.agg cs) = cs := rfl
theorem r_cva (l) : cellsS (.val (.agg (List.toArray l))) = l.map .val := rfl
theorem r_ci (k n) : cellsS (.val (.int k n)) = [.val (.int k n)] := rfl
theorem r_cb (b) : cellsS (.val (.bool b)) = [.val (.bool b)] := rfl
theorem r_cs (s) : cellsS (.val (.string s)) = [.val (.string s)] := rfl
theorem r_csl (p n c) : cellsS (.val (.slice p n c)) = [.val (.slice p n c)] := rfl
theorem r_cp (p) : cellsS (.val (.pointer p)) = [.val (.pointer p)] := rfl
theorem r_cm (p) : cellsS (.val (.map p)) = [.val (.map p)] := rfl
theorem r_cf (f a b) : cellsS (.val (.func f a b)) = [.val (.func f a b)] := rfl
theorem r_cl (k o) : cellsS (.loc k o) = [.loc k o] := rfl
theorem r_cls (k o n c) : cellsS (.lsl k o n c) = [.lsl k o n c] := rfl
theorem r_cfn (f a b) : cellsS (.fn f a b) = [.fn f a b] := rfl
theorem r_oi (k n) : oneS (.val (.int k n)) = true := rfl
theorem r_ob (b) : oneS (.val (.bool b)) = true := rfl
theorem r_os (s) : oneS (.val (.string s)) = true := rfl
theorem r_osl (p n c) : oneS (.val (.slice p n c)) = true := rfl
theorem r_op (p) : oneS (.val (.pointer p)) = true := rfl
theorem r_om (p) : oneS (.val (.map p)) = true := rfl
theorem r_of (f a b) : oneS (.val (.func f a b)) = true := rfl
theorem r_ol (k o) : oneS (.loc k o) = true := rfl
theorem r_ols (k o n c) : oneS (.lsl k o n c) = true := rfl
theorem r_ofn (f a b) : oneS (.fn f a b) = true := rfl

/-! guards -/
theorem r_g0 (ds) : gd ds σ none = some true := rfl
def gd1 (want : Bool) (E : List (Nat × SV)) : Option (Option Nat) → Option Bool
  | some (some t) => match getE E t with
    | some (.val (.bool b)) => some (b == want)
    | some (.val (.tuple _)) => some false
    | _ => none
  | _ => none
def gd2 (want : Bool) : Option SV → Option Bool
  | some (.val (.bool b)) => some (b == want)
  | some (.val (.tuple _)) => some false
  | _ => none
theorem r_g1 (ds j want) : gd ds σ (some (j, want)) = gd1 want σ.env (nth ds j) := rfl
theorem r_g2 (want E t) : gd1 want E (some (some t)) = gd2 want (getE E t) := rfl
theorem r_g3 (want b) : gd2 want (some (.val (.bool b))) = some (b == want) := rfl
theorem r_g4 (want) : gd2 want (some (.val undef)) = some false := rfl
theorem r_sk (n i : Nat) (E O S F) : skip1 ⟨n, E, O, S, F⟩ (some i) = if i < n then some ⟨n, (i, .val undef) :: E, O, S, F⟩ else none := by
  simp only [skip1, dOk]
  split <;> rename_i h
  · simp only [decide_eq_true_eq] at h; rw [if_pos h]; rfl
  · simp only [decide_eq_false_iff_not] at h; rw [if_neg h]
theorem r_sk0 : skip1 σ none = some σ := rfl

/-! the run -/
def run1 (P : Program) (ds : List (Option Nat)) (l : List Oper) (n : Nat) (σ : St) (d : Option Nat) (op : Op) : Option Bool → Option (List Oper × St)
  | some true => (step P σ d op).bind fun σ' => run P ds l n σ'
  | some false => (skip1 σ d).bind fun σ' => run P ds l n σ'
  | none => none
theorem r_run0 (ds n) : run P ds [] n σ = if n = 0 then some ([], σ) else none := rfl
theorem r_run (ds dst op ty pos after g l n) : run P ds (⟨dst, op, ty, pos, after, g⟩ :: l) n σ = if n = 0 then some (⟨dst, op, ty, pos, after, g⟩ :: l, σ) else run1 P ds l (n - 1) σ dst op (gd ds σ g) := rfl
theorem r_run1 (ds l n dst op) : run1 P ds l n σ dst op (some true) = (step P σ dst op).bind fun σ' => run P ds l n σ' := rfl
theorem r_run2 (ds l n dst op) : run1 P ds l n σ dst op (some false) = (skip1 σ dst).bind fun σ' => run P ds l n σ' := rfl
theorem r_then (l σ) (K : List Oper → St → Prop) : RunThen (some (l, σ)) K = K l σ := rfl
theorem r_put (n i : Nat) (E O S F s) : (St.mk n E O S F).put (some i) s = ⟨n, (i, s) :: E, O, S, F⟩ := rfl
theorem r_putn (s) : σ.put none s = σ := rfl
theorem r_setOwn (n : Nat) (E O S F k o) : setOwn (St.mk n E O S F) k o = ⟨n, E, setN O k o, S, F⟩ := rfl
theorem r_pushO (n : Nat) (E O S F o) : (St.mk n E O S F).pushO o = ⟨n, E, O ++ [o], S, F⟩ := rfl
theorem r_splice (l : List SV) (off new) : splice l off new = takeN l off ++ (new ++ dropN l (off + new.length)) := rfl
theorem r_snap (n : Nat) (E O S F T s) : (St.mk n E O S F).snap T s = ⟨n, E, O, (T, s) :: S, F⟩ := rfl

/-! reading slots -/
theorem r_ge0 (i) : getE [] i = none := rfl
theorem r_ge (j s l i) : getE ((j, s) :: l) i = if j = i then some s else getE l i := rfl
theorem r_ev (t) : ev σ (.tmp t) = getE σ.env t := rfl
theorem r_evc (v) : ev σ (.const v) = some (.val v) := rfl
theorem r_evg (g) : ev σ (.global g) = some (.val (.pointer (some ⟨g, 0, none⟩))) := rfl
theorem r_evf (f) : ev σ (.func f) = some (.val (.func (.func f) #[] #[])) := rfl
theorem r_evL0 : evL σ [] = some [] := rfl
def cons2 {α : Type} (a : Option α) (b : Option (List α)) : Option (List α) :=
  match a, b with
  | some a, some b => some (a :: b)
  | _, _ => none
theorem r_evL (x l) : evL σ (x :: l) = cons2 (ev σ x) (evL σ l) := by
  simp only [evL]
  cases ev σ x <;> cases evL σ l <;> rfl
theorem r_cons2 {α : Type} (a : α) (b) : cons2 (some a) (some b) = some (a :: b) := rfl
theorem r_evP0 : evP σ [] = some [] := rfl
theorem r_evP (i x l) : evP σ ((i, x) :: l) = cons2 ((ev σ x).map fun s => (i, s)) (evP σ l) := by
  simp only [evP]
  cases ev σ x <;> cases evP σ l <;> rfl
theorem r_nth0 {α : Type} (i) : nth ([] : List α) i = none := rfl
theorem r_nth {α : Type} (x : α) (l i) : nth (x :: l) i = if i = 0 then some x else nth l (i - 1) := rfl
theorem r_take0 {α : Type} (n) : takeN ([] : List α) n = [] := rfl
theorem r_take {α : Type} (x : α) (l n) : takeN (x :: l) n = if n = 0 then [] else x :: takeN l (n - 1) := rfl
theorem r_drop0 {α : Type} (n) : dropN ([] : List α) n = [] := rfl
theorem r_drop {α : Type} (x : α) (l n) : dropN (x :: l) n = if n = 0 then x :: l else dropN l (n - 1) := rfl
theorem r_setN {α : Type} (x : α) (l i y) : setN (x :: l) i y = if i = 0 then y :: l else x :: setN l (i - 1) y := rfl

/-! calls and ends -/
def cal1 (x : Option SV) (ss : Option (List SV)) : Option (FuncId × List SV) :=
  match x, ss with
  | some s, some ss => calleeS s ss
  | _, _ => none
theorem r_call (x args tys) : callS σ (.call ⟨.value x, List.toArray args, tys⟩) = cal1 (ev σ x) (evL σ args) := rfl
theorem r_cal1 (f ss) : cal1 (some (.val (.func (.func f) #[] #[]))) (some ss) = some (f, ss) := by simp [cal1, calleeS]
theorem r_cal2 (f fi ca ss) : cal1 (some (.fn (.func f) fi ca)) (some ss) = some (f, fi ++ (ss ++ ca)) := rfl
end
theorem r_rep {α : Type} (n : Nat) (x : α) : List.replicate n x = if n = 0 then [] else x :: List.replicate (n - 1) x := by
  cases n <;> simp [List.replicate_succ]
theorem r_tl {α : Type} (l : List α) : (List.toArray l).toList = l := rfl
theorem r_asz {α : Type} (l : List α) : (List.toArray l).size = l.length := rfl
theorem r_beqt (b : Bool) : (b == true) = b := by cases b <;> rfl
theorem r_beqf (b : Bool) : (b == false) = !b := by cases b <;> rfl
/-- All of them under one name. -/
theorem sx :
  (∀ (n i : Nat) (E O S F s), stepV ⟨n, E, O, S, F⟩ (some i) (some s) = if i < n then some ⟨n, (i, s) :: E, O, S, F⟩ else none) ∧
  (∀ {σ : St}  (s), stepV σ none (some s) = some σ) ∧
  (∀ {P : Program} {σ : St} {d : Option Nat}  (x), step P σ d (.move x) = stepV σ d (ev σ x)) ∧
  (∀ {P : Program} {σ : St} {d : Option Nat}  (x), step P σ d (.assign x) = stepV σ d (ev σ x)) ∧
  (∀ {P : Program} {σ : St} {d : Option Nat}  (c x y), step P σ d (.pick c x y) = stepV σ d (pick1 σ x y (ev σ c))) ∧
  (∀ {σ : St}  (x y b), pick1 σ x y (some (.val (.bool b))) = pickS b (ev σ x) (ev σ y)) ∧
  (∀ (b p q), pickS b (some (.val (.bool p))) (some (.val (.bool q))) = some (.val (.bool (if b = true then p else q)))) ∧
  (∀ (x y), pickS true x y = x) ∧
  (∀ (x y), pickS false x y = y) ∧
  (∀ {P : Program} {σ : St} {d : Option Nat}  (op t x y yt), step P σ d (.binOp op t x y yt) = stepV σ d (bin2 P t op (ev σ x) (ev σ y))) ∧
  (∀ {P : Program}  (op t u v), bin2 P t op (some (.val u)) (some (.val v)) = (binS P t op u v).map .val) ∧
  (∀ {P : Program}  (t k a b), binS P t .add (.int k a) (.int k b) = some (.int k (k.wrap (a + b)))) ∧
  (∀ {P : Program}  (t k a b), binS P t .sub (.int k a) (.int k b) = some (.int k (k.wrap (a - b)))) ∧
  (∀ {P : Program}  (t k a b), binS P t .mul (.int k a) (.int k b) = some (.int k (k.wrap (a * b)))) ∧
  (∀ {P : Program}  (t k a b), binS P t .quo (.int k a) (.int k b) = if b = 0 then none else some (.int k (k.wrap (a.tdiv b)))) ∧
  (∀ {P : Program}  (t k a b), binS P t .rem (.int k a) (.int k b) = if b = 0 then none else some (.int k (a.tmod b))) ∧
  (∀ {P : Program}  (t k a b), binS P t .eql (.int k a) (.int k b) = some (.bool (a == b))) ∧
  (∀ {P : Program}  (t k a b), binS P t .neq (.int k a) (.int k b) = some (.bool (a != b))) ∧
  (∀ {P : Program}  (t k a b), binS P t .lss (.int k a) (.int k b) = some (.bool (decide (a < b)))) ∧
  (∀ {P : Program}  (t k a b), binS P t .leq (.int k a) (.int k b) = some (.bool (decide (a ≤ b)))) ∧
  (∀ {P : Program}  (t k a b), binS P t .gtr (.int k a) (.int k b) = some (.bool (decide (b < a)))) ∧
  (∀ {P : Program}  (t k a b), binS P t .geq (.int k a) (.int k b) = some (.bool (decide (b ≤ a)))) ∧
  (∀ {P : Program}  (t k a b), binS P t .and (.int k a) (.int k b) = some (.int k (k.wrap (BitVec.ofInt k.bits a &&& BitVec.ofInt k.bits b).toNat))) ∧
  (∀ {P : Program}  (t k a b), binS P t .or (.int k a) (.int k b) = some (.int k (k.wrap (BitVec.ofInt k.bits a ||| BitVec.ofInt k.bits b).toNat))) ∧
  (∀ {P : Program}  (t k a b), binS P t .xor (.int k a) (.int k b) = some (.int k (k.wrap (BitVec.ofInt k.bits a ^^^ BitVec.ofInt k.bits b).toNat))) ∧
  (∀ {P : Program}  (t k k' a b), binS P t .shl (.int k a) (.int k' b) = if b < 0 then none else some (.int k (k.wrap (a * 2 ^ (min b.toNat k.bits))))) ∧
  (∀ {P : Program}  (t k k' a b), binS P t .shr (.int k a) (.int k' b) = if b < 0 then none else some (.int k (a.fdiv (2 ^ (min b.toNat k.bits))))) ∧
  (∀ {P : Program}  (t a b), binS P t .eql (.bool a) (.bool b) = bB (a == b) (some (boolT P t))) ∧
  (∀ {P : Program}  (t a b), binS P t .neq (.bool a) (.bool b) = bB (!(a == b)) (some (boolT P t))) ∧
  (∀ (x : Bool), bB x (some true) = some (.bool x)) ∧
  (∀ {P : Program}  (t a b), binS P t .eql (.string a) (.string b) = some (.bool (a.toList == b.toList))) ∧
  (∀ {P : Program}  (t a b), binS P t .neq (.string a) (.string b) = some (.bool (!(a.toList == b.toList)))) ∧
  (∀ {P : Program} {σ : St} {d : Option Nat}  (op t x), step P σ d (.unOp op t x) = stepV σ d (un1 op (ev σ x))) ∧
  (∀ (b), un1 .not (some (.val (.bool b))) = some (.val (.bool (!b)))) ∧
  (∀ (k n), un1 .neg (some (.val (.int k n))) = some (.val (.int k (k.wrap (0 - n))))) ∧
  (∀ {P : Program} {σ : St} {d : Option Nat}  (s x f), step P σ d (.fieldAddr s x f) = stepV σ d (fa1 (fieldOff P s f) (ev σ x))) ∧
  (∀ (o k off), fa1 (some o) (some (.loc k off)) = some (.loc k (off + o))) ∧
  (∀ (o a), fa1 (some o) (some (.val (.pointer (some a)))) = some (.val (.pointer (some (a.add o))))) ∧
  (∀ {P : Program} {σ : St} {d : Option Nat}  (t x f), step P σ d (.field t x f) = stepV σ d (fd1 P t f (ev σ x))) ∧
  (∀ {P : Program}  (t f cs), fd1 P t f (some (.agg cs)) = fd2 (fieldAt' P t f) cs) ∧
  (∀ {P : Program}  (t f a), fd1 P t f (some (.val (.agg a))) = fd2 (fieldAt' P t f) (a.toList.map .val)) ∧
  (∀ (off n agg cs), fd2 (some (off, n, agg)) cs = partS off n agg cs) ∧
  (∀ (off n cs), partS off n false cs = nth cs off) ∧
  (∀ (off n cs), partS off n true cs = if off + n ≤ cs.length then some (.agg (takeN (dropN cs off) n)) else none) ∧
  (∀ {P : Program} {σ : St} {d : Option Nat}  (x i), step P σ d (.extract x i) = stepV σ d (ex1 i (ev σ x))) ∧
  (∀ (i vs), ex1 i (some (.tup vs)) = nth vs i) ∧
  (∀ (i l), ex1 i (some (.val (.tuple (List.toArray l)))) = (nth l i).map .val) ∧
  (∀ {P : Program} {σ : St} {d : Option Nat}  (t x), step P σ d (.load t x) = stepV σ d (ld1 P σ t (ev σ x))) ∧
  (∀ {P : Program} {σ : St}  (t k off), ld1 P σ t (some (.loc k off)) = ld2 (aggB P t) (szOf P t) off (nth σ.own k)) ∧
  (∀ (T cs agg n off), ld2 (some agg) (some n) off (some (.cells T cs)) = partS off n agg cs) ∧
  (∀ {P : Program} {σ : St} {d : Option Nat}  (s t x), step P σ d (.convert s t x) = stepV σ d (cv1 (convTo P s t) (ev σ x))) ∧
  (∀ (k k' n), cv1 (some k) (some (.val (.int k' n))) = some (.val (.int k (k.wrap n)))) ∧
  (∀ {P : Program} {σ : St} {d : Option Nat}  (f a b), step P σ d (.makeFunc f (List.toArray a) (List.toArray b)) = stepV σ d (mf1 f (evL σ a) (evL σ b))) ∧
  (∀ (f a b), mf1 f (some a) (some b) = some (.fn f a b)) ∧
  (∀ {P : Program} {σ : St} {d : Option Nat}  (t ps), step P σ d (.build t (List.toArray ps)) = stepV σ d (bd1 (zeroS P t) (fieldsS P t) (evP σ ps))) ∧
  (∀ (z fs ps), bd1 (some z) (some fs) (some ps) = (fillS (nth fs) z ps).map .agg) ∧
  (∀ (pl cs), fillS pl cs [] = some cs) ∧
  (∀ (pl cs i s l), fillS pl cs ((i, s) :: l) = fill1 pl cs s l (pl i)) ∧
  (∀ (pl cs s l off n), fill1 pl cs s l (some (off, n)) = if (cellsS s).length = n then (if off + n ≤ cs.length then fillS pl (splice cs off (cellsS s)) l else none) else none) ∧
  (∀ {P : Program} {σ : St} {d : Option Nat}  (t x), step P σ d (.call ⟨.builtin .len, #[x], #[t]⟩) = stepV σ d (lenS P t (ev σ x))) ∧
  (∀ {P : Program}  (t p n c), lenS P t (some (.val (.slice p n c))) = len1 (lenKd P t) (.val (.slice p n c))) ∧
  (∀ {P : Program}  (t k o n c), lenS P t (some (.lsl k o n c)) = len1 (lenKd P t) (.lsl k o n c)) ∧
  (∀ {P : Program}  (t s), lenS P t (some (.val (.string s))) = len1 (lenKd P t) (.val (.string s))) ∧
  (∀ (p n c), len1 .slice (.val (.slice p n c)) = some (.val (.int .i64 n))) ∧
  (∀ (k o n c), len1 .slice (.lsl k o n c) = some (.val (.int .i64 n))) ∧
  (∀ (s), len1 .string (.val (.string s)) = some (.val (.int .i64 s.size))) ∧
  (∀ {P : Program} {σ : St} {d : Option Nat}  (T x), step P σ d (.box T x) = box1 σ d T (ev σ x)) ∧
  (∀ (n i : Nat) (E O S F T s), box1 ⟨n, E, O, S, F⟩ (some i) T (some s) = if i < n then some ⟨n, (i, .loc O.length 0) :: E, O ++ [.cells T (cellsS s)], S, F⟩ else none) ∧
  (∀ {P : Program} {σ : St} {d : Option Nat}  (T), step P σ d (.alloc T) = al1 σ d T (zeroS P T)) ∧
  (∀ (n i : Nat) (E O S F T z), al1 ⟨n, E, O, S, F⟩ (some i) T (some z) = if i < n then some ⟨n, (i, .loc O.length 0) :: E, O ++ [.cells T z], S, F⟩ else none) ∧
  (∀ {P : Program} {σ : St}  (t x y), step P σ none (.store t x y) = st1 P σ t (ev σ x) (ev σ y)) ∧
  (∀ {P : Program} {σ : St}  (t k off u), st1 P σ t (some (.loc k off)) (some u) = st2 σ k off u (szOf P t) (nth σ.own k)) ∧
  (∀ (n E O S F k off u m T cs), st2 ⟨n, E, O, S, F⟩ k off u (some m) (some (.cells T cs)) = if (cellsS u).length = m then (if off + m ≤ cs.length then (if (cellsS u).all oneS = true then some ⟨n, E, setN O k (.cells T (splice cs off (cellsS u))), S, F⟩ else none) else none) else none) ∧
  (∀ {P : Program} {σ : St} {d : Option Nat}  (t len ps), step P σ d (.buildSlice t len (List.toArray ps)) = bs0 P σ d len (evP σ ps) (elemSz P t)) ∧
  (∀ {P : Program} {σ : St} {d : Option Nat}  (len e sz ps), bs0 P σ d len ps (some (e, sz)) = bs1 σ d len e sz (zeroS P e) ps) ∧
  (∀ (n i : Nat) (E O S F len e sz z ps), bs1 ⟨n, E, O, S, F⟩ (some i) len e sz (some z) (some ps) = if i < n then (if len * sz ≤ 16777216 then (if z.length = sz then (fillS (fun i => some (i * sz, sz)) ((List.replicate len z).flatten) ps).map fun cs => ⟨n, (i, .lsl O.length 0 len len) :: E, O ++ [.cells e cs], S, F⟩ else none) else none) else none) ∧
  (∀ (cs), cellsS (.agg cs) = cs) ∧
  (∀ (l), cellsS (.val (.agg (List.toArray l))) = l.map .val) ∧
  (∀ (k n), cellsS (.val (.int k n)) = [.val (.int k n)]) ∧
  (∀ (b), cellsS (.val (.bool b)) = [.val (.bool b)]) ∧
  (∀ (s), cellsS (.val (.string s)) = [.val (.string s)]) ∧
  (∀ (p n c), cellsS (.val (.slice p n c)) = [.val (.slice p n c)]) ∧
  (∀ (p), cellsS (.val (.pointer p)) = [.val (.pointer p)]) ∧
  (∀ (p), cellsS (.val (.map p)) = [.val (.map p)]) ∧
  (∀ (f a b), cellsS (.val (.func f a b)) = [.val (.func f a b)]) ∧
  (∀ (k o), cellsS (.loc k o) = [.loc k o]) ∧
  (∀ (k o n c), cellsS (.lsl k o n c) = [.lsl k o n c]) ∧
  (∀ (f a b), cellsS (.fn f a b) = [.fn f a b]) ∧
  (∀ (k n), oneS (.val (.int k n)) = true) ∧
  (∀ (b), oneS (.val (.bool b)) = true) ∧
  (∀ (s), oneS (.val (.string s)) = true) ∧
  (∀ (p n c), oneS (.val (.slice p n c)) = true) ∧
  (∀ (p), oneS (.val (.pointer p)) = true) ∧
  (∀ (p), oneS (.val (.map p)) = true) ∧
  (∀ (f a b), oneS (.val (.func f a b)) = true) ∧
  (∀ (k o), oneS (.loc k o) = true) ∧
  (∀ (k o n c), oneS (.lsl k o n c) = true) ∧
  (∀ (f a b), oneS (.fn f a b) = true) ∧
  (∀ {σ : St}  (ds), gd ds σ none = some true) ∧
  (∀ {σ : St}  (ds j want), gd ds σ (some (j, want)) = gd1 want σ.env (nth ds j)) ∧
  (∀ (want E t), gd1 want E (some (some t)) = gd2 want (getE E t)) ∧
  (∀ (want b), gd2 want (some (.val (.bool b))) = some (b == want)) ∧
  (∀ (want), gd2 want (some (.val undef)) = some false) ∧
  (∀ (n i : Nat) (E O S F), skip1 ⟨n, E, O, S, F⟩ (some i) = if i < n then some ⟨n, (i, .val undef) :: E, O, S, F⟩ else none) ∧
  (∀ {σ : St}, skip1 σ none = some σ) ∧
  (∀ {P : Program} {σ : St}  (ds n), run P ds [] n σ = if n = 0 then some ([], σ) else none) ∧
  (∀ {P : Program} {σ : St}  (ds dst op ty pos after g l n), run P ds (⟨dst, op, ty, pos, after, g⟩ :: l) n σ = if n = 0 then some (⟨dst, op, ty, pos, after, g⟩ :: l, σ) else run1 P ds l (n - 1) σ dst op (gd ds σ g)) ∧
  (∀ {P : Program} {σ : St}  (ds l n dst op), run1 P ds l n σ dst op (some true) = (step P σ dst op).bind fun σ' => run P ds l n σ') ∧
  (∀ {P : Program} {σ : St}  (ds l n dst op), run1 P ds l n σ dst op (some false) = (skip1 σ dst).bind fun σ' => run P ds l n σ') ∧
  (∀ (l σ) (K : List Oper → St → Prop), RunThen (some (l, σ)) K = K l σ) ∧
  (∀ (n i : Nat) (E O S F s), (St.mk n E O S F).put (some i) s = ⟨n, (i, s) :: E, O, S, F⟩) ∧
  (∀ {σ : St}  (s), σ.put none s = σ) ∧
  (∀ (n : Nat) (E O S F k o), setOwn (St.mk n E O S F) k o = ⟨n, E, setN O k o, S, F⟩) ∧
  (∀ (n : Nat) (E O S F o), (St.mk n E O S F).pushO o = ⟨n, E, O ++ [o], S, F⟩) ∧
  (∀ (l : List SV) (off new), splice l off new = takeN l off ++ (new ++ dropN l (off + new.length))) ∧
  (∀ (n : Nat) (E O S F T s), (St.mk n E O S F).snap T s = ⟨n, E, O, (T, s) :: S, F⟩) ∧
  (∀ (i), getE [] i = none) ∧
  (∀ (j s l i), getE ((j, s) :: l) i = if j = i then some s else getE l i) ∧
  (∀ {σ : St}  (t), ev σ (.tmp t) = getE σ.env t) ∧
  (∀ {σ : St}  (v), ev σ (.const v) = some (.val v)) ∧
  (∀ {σ : St}  (g), ev σ (.global g) = some (.val (.pointer (some ⟨g, 0, none⟩)))) ∧
  (∀ {σ : St}  (f), ev σ (.func f) = some (.val (.func (.func f) #[] #[]))) ∧
  (∀ {σ : St}, evL σ [] = some []) ∧
  (∀ {σ : St}  (x l), evL σ (x :: l) = cons2 (ev σ x) (evL σ l)) ∧
  (∀ {α : Type} (a : α) (b), cons2 (some a) (some b) = some (a :: b)) ∧
  (∀ {σ : St}, evP σ [] = some []) ∧
  (∀ {σ : St}  (i x l), evP σ ((i, x) :: l) = cons2 ((ev σ x).map fun s => (i, s)) (evP σ l)) ∧
  (∀ {α : Type} (i), nth ([] : List α) i = none) ∧
  (∀ {α : Type} (x : α) (l i), nth (x :: l) i = if i = 0 then some x else nth l (i - 1)) ∧
  (∀ {α : Type} (n), takeN ([] : List α) n = []) ∧
  (∀ {α : Type} (x : α) (l n), takeN (x :: l) n = if n = 0 then [] else x :: takeN l (n - 1)) ∧
  (∀ {α : Type} (n), dropN ([] : List α) n = []) ∧
  (∀ {α : Type} (x : α) (l n), dropN (x :: l) n = if n = 0 then x :: l else dropN l (n - 1)) ∧
  (∀ {α : Type} (x : α) (l i y), setN (x :: l) i y = if i = 0 then y :: l else x :: setN l (i - 1) y) ∧
  (∀ {σ : St}  (x args tys), callS σ (.call ⟨.value x, List.toArray args, tys⟩) = cal1 (ev σ x) (evL σ args)) ∧
  (∀ (f ss), cal1 (some (.val (.func (.func f) #[] #[]))) (some ss) = some (f, ss)) ∧
  (∀ (f fi ca ss), cal1 (some (.fn (.func f) fi ca)) (some ss) = some (f, fi ++ (ss ++ ca))) ∧
  (∀ {α : Type} (l : List α), (List.toArray l).toList = l) ∧
  (∀ {α : Type} (l : List α), (List.toArray l).size = l.length) ∧
  (∀ (b : Bool), (b == true) = b) ∧
  (∀ (b : Bool), (b == false) = !b) ∧
  (∀ {α β : Type} (a : α) (f : α → Option β), (some a).bind f = f a) ∧
  (∀ {α β : Type} (a : α) (f : α → β), (some a).map f = some (f a)) ∧
  (∀ {α β : Type} (f : α → β) (a : α) (l : List α), (a :: l).map f = f a :: l.map f) ∧
  (∀ {α β : Type} (f : α → β), ([] : List α).map f = []) ∧
  (∀ {α : Type} (a : α) (l : List α), (a :: l).length = l.length + 1) ∧
  (∀ {α : Type}, ([] : List α).length = 0) ∧
  (∀ {α : Type} (a : α) (l r : List α), (a :: l) ++ r = a :: (l ++ r)) ∧
  (∀ {α : Type} (r : List α), [] ++ r = r) ∧
  (∀ {α : Type} (p : α → Bool) (a : α) (l : List α), (a :: l).all p = (p a && l.all p)) ∧
  (∀ {α : Type} (p : α → Bool), ([] : List α).all p = true) ∧
  (∀ (b : Bool), (true && b) = b) ∧
  (∀ {α : Type} (a : List α) (l : List (List α)), (a :: l).flatten = a ++ l.flatten) ∧
  (∀ {α : Type}, ([] : List (List α)).flatten = []) ∧
  (∀ (v : Value) (l : List Value), ofCells false (v :: l) = v) ∧
  (∀ (cs : List Value), ofCells true cs = .agg cs.toArray) ∧
  (∀ {α : Type} (n : Nat), ([] : List α).drop n = []) ∧
  (∀ {α : Type} (n : Nat) (x : α) (l : List α), (x :: l).drop n = if n = 0 then x :: l else l.drop (n - 1)) ∧
  (∀ {α : Type} (n : Nat), ([] : List α).take n = []) ∧
  (∀ {α : Type} (n : Nat) (x : α) (l : List α), (x :: l).take n = if n = 0 then [] else x :: l.take (n - 1)) ∧
  ((!true) = false) ∧
  ((!false) = true) ∧
  (∀ (n : Nat), ((n : Int)).toNat = n) ∧
  (∀ (i : Nat), initE i [] = []) ∧
  (∀ (i : Nat) (s : SV) (l : List SV), initE i (s :: l) = (i, s) :: initE (i + 1) l) :=
  ⟨(by intros; apply r_stepV),
   (by intros; apply r_stepV0),
   (by intros; apply r_move),
   (by intros; apply r_assign),
   (by intros; apply r_pick),
   (by intros; apply r_pick1),
   (by intros; apply r_pickbb),
   (by intros; apply r_pickt),
   (by intros; apply r_pickf),
   (by intros; apply r_bin),
   (by intros; apply r_bin2),
   (by intros; apply r_add),
   (by intros; apply r_sub),
   (by intros; apply r_mul),
   (by intros; apply r_quo),
   (by intros; apply r_rem),
   (by intros; apply r_eql),
   (by intros; apply r_neq),
   (by intros; apply r_lss),
   (by intros; apply r_leq),
   (by intros; apply r_gtr),
   (by intros; apply r_geq),
   (by intros; apply r_and),
   (by intros; apply r_or),
   (by intros; apply r_xor),
   (by intros; apply r_shl),
   (by intros; apply r_shr),
   (by intros; apply r_bbe),
   (by intros; apply r_bbn),
   (by intros; apply r_bbt),
   (by intros; apply r_seql),
   (by intros; apply r_sneq),
   (by intros; apply r_un),
   (by intros; apply r_not),
   (by intros; apply r_neg),
   (by intros; apply r_fa),
   (by intros; apply r_fal),
   (by intros; apply r_fap),
   (by intros; apply r_fd),
   (by intros; apply r_fda),
   (by intros; apply r_fdv),
   (by intros; apply r_fd2),
   (by intros; apply r_part0),
   (by intros; apply r_part1),
   (by intros; apply r_ex),
   (by intros; apply r_ext),
   (by intros; apply r_exv),
   (by intros; apply r_ld),
   (by intros; apply r_ldl),
   (by intros; apply r_ld2),
   (by intros; apply r_cv),
   (by intros; apply r_cv1),
   (by intros; apply r_mf),
   (by intros; apply r_mf1),
   (by intros; apply r_bd),
   (by intros; apply r_bd1),
   (by intros; apply r_fill0),
   (by intros; apply r_fill1),
   (by intros; apply r_fill2),
   (by intros; apply r_len),
   (by intros; apply r_lens),
   (by intros; apply r_lenl),
   (by intros; apply r_lenst),
   (by intros; apply r_len1a),
   (by intros; apply r_len1b),
   (by intros; apply r_len1c),
   (by intros; apply r_box),
   (by intros; apply r_box1),
   (by intros; apply r_al),
   (by intros; apply r_al1),
   (by intros; apply r_st),
   (by intros; apply r_st1),
   (by intros; apply r_st2),
   (by intros; apply r_bs),
   (by intros; apply r_bs0),
   (by intros; apply r_bs1),
   (by intros; apply r_ca),
   (by intros; apply r_cva),
   (by intros; apply r_ci),
   (by intros; apply r_cb),
   (by intros; apply r_cs),
   (by intros; apply r_csl),
   (by intros; apply r_cp),
   (by intros; apply r_cm),
   (by intros; apply r_cf),
   (by intros; apply r_cl),
   (by intros; apply r_cls),
   (by intros; apply r_cfn),
   (by intros; apply r_oi),
   (by intros; apply r_ob),
   (by intros; apply r_os),
   (by intros; apply r_osl),
   (by intros; apply r_op),
   (by intros; apply r_om),
   (by intros; apply r_of),
   (by intros; apply r_ol),
   (by intros; apply r_ols),
   (by intros; apply r_ofn),
   (by intros; apply r_g0),
   (by intros; apply r_g1),
   (by intros; apply r_g2),
   (by intros; apply r_g3),
   (by intros; apply r_g4),
   (by intros; apply r_sk),
   (by intros; apply r_sk0),
   (by intros; apply r_run0),
   (by intros; apply r_run),
   (by intros; apply r_run1),
   (by intros; apply r_run2),
   (by intros; apply r_then),
   (by intros; apply r_put),
   (by intros; apply r_putn),
   (by intros; apply r_setOwn),
   (by intros; apply r_pushO),
   (by intros; apply r_splice),
   (by intros; apply r_snap),
   (by intros; apply r_ge0),
   (by intros; apply r_ge),
   (by intros; apply r_ev),
   (by intros; apply r_evc),
   (by intros; apply r_evg),
   (by intros; apply r_evf),
   (by intros; apply r_evL0),
   (by intros; apply r_evL),
   (by intros; apply r_cons2),
   (by intros; apply r_evP0),
   (by intros; apply r_evP),
   (by intros; apply r_nth0),
   (by intros; apply r_nth),
   (by intros; apply r_take0),
   (by intros; apply r_take),
   (by intros; apply r_drop0),
   (by intros; apply r_drop),
   (by intros; apply r_setN),
   (by intros; apply r_call),
   (by intros; apply r_cal1),
   (by intros; apply r_cal2),
   (by intros; apply r_tl),
   (by intros; apply r_asz),
   (by intros; apply r_beqt),
   (by intros; apply r_beqf),
   (by intros; rfl),
   (by intros; rfl),
   (by intros; rfl),
   (by intros; rfl),
   (by intros; rfl),
   (by intros; rfl),
   (by intros; rfl),
   (by intros; rfl),
   (by intros; rfl),
   (by intros; rfl),
   (by intros; rfl),
   (by intros; rfl),
   (by intros; rfl),
   (by intros; rfl),
   (by intros; rfl),
   (by intros; simp),
   (by intro α n x l; cases n <;> simp),
   (by intros; simp),
   (by intro α n x l; cases n <;> simp),
   (by intros; rfl),
   (by intros; rfl),
   (by intros; simp),
   (by intros; rfl),
   (by intros; rfl)⟩
end Go.SX
