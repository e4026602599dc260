/-
  The symbolic executor: operations that it carries out by itself (numbers, moves, places in the call's own blocks), and that the model does just that.
-/
import Derived.Test.YtnbfdncmlbegmaaSxBase
import Derived.Deep.MidRow
set_option linter.unusedVariables false
namespace Go.SX
open Go Go.RowKit

def nth {α : Type} : List α → Nat → Option α
  | [], _ => none
  | x :: l, i => if i = 0 then some x else nth l (i - 1)
theorem nth_eq {α : Type} : ∀ (l : List α) (i : Nat), nth l i = l[i]?
  | [], _ => rfl
  | x :: l, 0 => rfl
  | x :: l, i + 1 => by simp [nth, nth_eq l i]
def takeN {α : Type} : List α → Nat → List α
  | [], _ => []
  | x :: l, n => if n = 0 then [] else x :: takeN l (n - 1)
theorem takeN_eq {α : Type} : ∀ (l : List α) (i : Nat), takeN l i = l.take i
  | [], _ => by simp [takeN]
  | x :: l, 0 => rfl
  | x :: l, i + 1 => by simp [takeN, takeN_eq l i]
def dropN {α : Type} : List α → Nat → List α
  | [], _ => []
  | x :: l, n => if n = 0 then x :: l else dropN l (n - 1)
theorem dropN_eq {α : Type} : ∀ (l : List α) (i : Nat), dropN l i = l.drop i
  | [], _ => by simp [dropN]
  | x :: l, 0 => rfl
  | x :: l, i + 1 => by simp [dropN, dropN_eq l i]
def setN {α : Type} : List α → Nat → α → List α
  | [], _, _ => []
  | x :: l, i, y => if i = 0 then y :: l else x :: setN l (i - 1) y
theorem setN_eq {α : Type} : ∀ (l : List α) (i : Nat) (y : α), setN l i y = l.set i y
  | [], _, _ => by simp [setN]
  | x :: l, 0, _ => rfl
  | x :: l, i + 1, y => by simp [setN, setN_eq l i]
def splice {α : Type} (l : List α) (off : Nat) (new : List α) : List α := takeN l off ++ (new ++ dropN l (off + new.length))

def ev (σ : St) : Operand → Option SV
  | .tmp t => getE σ.env t
  | .const v => some (.val v)
  | .func f => some (.val (.func (.func f) #[] #[]))
  | .global g => some (.val (.pointer (some ⟨g, 0, none⟩)))
def evL (σ : St) : List Operand → Option (List SV)
  | [] => some []
  | x :: l => match ev σ x, evL σ l with
    | some s, some ss => some (s :: ss)
    | _, _ => none

/-- The cells of a value. -/
def cellsS : SV → List SV
  | .agg cs => cs
  | .val (.agg a) => a.toList.map .val
  | s => [s]
/-- One cell, surely. -/
def oneS : SV → Bool
  | .val v => v.oneCell'
  | .agg _ => false
  | .tup _ => false
  | _ => true

/-! ### Types -/
def aggB (P : Program) (t : TypeId) : Option Bool :=
  match P.underlying t with
  | some (.struct _) => some true
  | some (.array _ _) => some true
  | some _ => some false
  | none => none
def szOf (P : Program) (t : TypeId) : Option Nat := (P.info? t).map (·.size)
def fieldOff (P : Program) (s f : Nat) : Option Nat :=
  match P.underlying s with
  | some (.struct fs) => match fs[f]? with
    | some fd => match szOf P fd.type with
      | some n => if n = 0 then none else some fd.offset
      | none => none
    | none => none
  | _ => none
/-- a field's offset, its cells, whether it is a struct or an array itself -/
def fieldAt' (P : Program) (s f : Nat) : Option (Nat × Nat × Bool) :=
  match P.underlying s with
  | some (.struct fs) => match fs[f]? with
    | some fd => match szOf P fd.type, aggB P fd.type with
      | some n, some b => some (fd.offset, n, b)
      | _, _ => none
    | none => none
  | _ => none
def zeroS (P : Program) (t : TypeId) : Option (List SV) := ((P.info? t).bind (·.zero)).map fun v => v.cells.toList.map .val
/-- a slice type's element: its cells -/
def elemSz (P : Program) (t : TypeId) : Option (TypeId × Nat) :=
  match P.underlying t with
  | some (.slice e) => (szOf P e).map fun n => (e, n)
  | _ => none
inductive Kd where
  | slice | string | other
def lenKd (P : Program) (t : TypeId) : Kd :=
  match P.underlying t with
  | some (.slice _) => .slice
  | some .string => .string
  | _ => .other
def convTo (P : Program) (src dst : TypeId) : Option IntKind :=
  match P.underlying src, P.underlying dst with
  | some _, some (.int k) => some k
  | _, _ => none
def boolT (P : Program) (t : TypeId) : Bool := match P.underlying t with | some .bool => true | _ => false
def fieldsS (P : Program) (t : TypeId) : Option (List (Nat × Nat)) :=
  match P.underlying t with
  | some (.struct fs) => fs.toList.mapM fun f => (szOf P f.type).map fun n => (f.offset, n)
  | some (.array n e) => (szOf P e).map fun z => (List.range n).map fun i => (i * z, z)
  | _ => none
/-- the function can be called: it has a body -/
def callOk (P : Program) (f : FuncId) : Bool :=
  match P.funcs[f]? with
  | some fn => !(fn.name == "runtime.NumGoroutine") && !fn.body.isNone
  | none => false

/-! ### Values -/
def intB (op : BinOp) (k : IntKind) (a b : Int) : Option Value :=
  match op with
  | .add => some (.int k (k.wrap (a + b)))
  | .sub => some (.int k (k.wrap (a - b)))
  | .mul => some (.int k (k.wrap (a * b)))
  | .quo => if b = 0 then none else some (.int k (k.wrap (a.tdiv b)))
  | .rem => if b = 0 then none else some (.int k (a.tmod b))
  | .and => some (.int k (k.wrap (BitVec.ofInt k.bits a &&& BitVec.ofInt k.bits b).toNat))
  | .or => some (.int k (k.wrap (BitVec.ofInt k.bits a ||| BitVec.ofInt k.bits b).toNat))
  | .xor => some (.int k (k.wrap (BitVec.ofInt k.bits a ^^^ BitVec.ofInt k.bits b).toNat))
  | .eql => some (.bool (a == b))
  | .neq => some (.bool (a != b))
  | .lss => some (.bool (decide (a < b)))
  | .leq => some (.bool (decide (a ≤ b)))
  | .gtr => some (.bool (decide (a > b)))
  | .geq => some (.bool (decide (a ≥ b)))
  | _ => none
def shB (op : BinOp) (k : IntKind) (a b : Int) : Option Value :=
  match op with
  | .shl => if b < 0 then none else some (.int k (k.wrap (a * 2 ^ (min b.toNat k.bits))))
  | .shr => if b < 0 then none else some (.int k (a.fdiv (2 ^ (min b.toNat k.bits))))
  | _ => none
def isSh : BinOp → Bool
  | .shl => true
  | .shr => true
  | _ => false
def binS (P : Program) (t : TypeId) (op : BinOp) : Value → Value → Option Value
  | .int k a, .int k' b => if isSh op then shB op k a b else if k = k' then intB op k a b else none
  | .bool a, .bool b => match op, boolT P t with
    | .eql, true => some (.bool (a == b))
    | .neq, true => some (.bool (!(a == b)))
    | _, _ => none
  | .string a, .string b => match op with
    | .eql => some (.bool (a.toList == b.toList))
    | .neq => some (.bool (!(a.toList == b.toList)))
    | _ => none
  | _, _ => none
def unS (op : UnOp) : Value → Option Value
  | .bool b => match op with
    | .not => some (.bool !b)
    | _ => none
  | .int k n => match op with
    | .neg => some (.int k (k.wrap (0 - n)))
    | _ => none
  | _ => none
def pickS (b : Bool) : Option SV → Option SV → Option SV
  | some (.val (.bool p)), some (.val (.bool q)) => some (.val (.bool (if b = true then p else q)))
  | x, y => if b = true then x else y
def lenS (P : Program) (t : TypeId) : Option SV → Option SV
  | some (.val (.slice _ n _)) => match lenKd P t with
    | .slice => some (.val (.int .i64 n))
    | _ => none
  | some (.lsl _ _ n _) => match lenKd P t with
    | .slice => some (.val (.int .i64 n))
    | _ => none
  | some (.val (.string s)) => match lenKd P t with
    | .string => some (.val (.int .i64 s.size))
    | _ => none
  | _ => none
def extS (i : Nat) : SV → Option SV
  | .tup vs => nth vs i
  | .val (.tuple a) => (nth a.toList i).map .val
  | _ => none
def fldAdr (o : Nat) : SV → Option SV
  | .loc k off => some (.loc k (off + o))
  | .val (.pointer (some a)) => some (.val (.pointer (some (a.add o))))
  | _ => none
def partS (off n : Nat) (agg : Bool) (cs : List SV) : Option SV :=
  match agg with
  | true => if off + n ≤ cs.length then some (.agg (takeN (dropN cs off) n)) else none
  | false => nth cs off
def fieldS (P : Program) (t f : Nat) : SV → Option SV
  | .agg cs => match fieldAt' P t f with
    | some (off, n, agg) => partS off n agg cs
    | none => none
  | .val (.agg a) => match fieldAt' P t f with
    | some (off, n, agg) => partS off n agg (a.toList.map .val)
    | none => none
  | _ => none
def loadS (P : Program) (σ : St) (t : TypeId) : SV → Option SV
  | .loc k off => match nth σ.own k with
    | some (.cells _ cs) => match aggB P t, szOf P t with
      | some agg, some n => partS off n agg cs
      | _, _ => none
    | _ => none
  | _ => none
def fillS (place : Nat → Option (Nat × Nat)) (cells : List SV) : List (Nat × SV) → Option (List SV)
  | [] => some cells
  | (i, s) :: rest => match place i with
    | some (off, n) => if (cellsS s).length = n then (if off + n ≤ cells.length then fillS place (splice cells off (cellsS s)) rest else none) else none
    | none => none
def evP (σ : St) : List (Nat × Operand) → Option (List (Nat × SV))
  | [] => some []
  | (i, x) :: l => match ev σ x, evP σ l with
    | some s, some ss => some ((i, s) :: ss)
    | _, _ => none

/-- What the operation yields, where it turns nothing in memory. -/
def opv (P : Program) (σ : St) : Op → Option SV
  | .move x => ev σ x
  | .assign x => ev σ x
  | .pick c x y => match ev σ c with
    | some (.val (.bool b)) => pickS b (ev σ x) (ev σ y)
    | _ => none
  | .binOp op t x y _ => match ev σ x, ev σ y with
    | some (.val u), some (.val v) => (binS P t op u v).map .val
    | _, _ => none
  | .unOp op _ x => match ev σ x with
    | some (.val u) => (unS op u).map .val
    | _ => none
  | .fieldAddr s x f => match fieldOff P s f, ev σ x with
    | some o, some u => fldAdr o u
    | _, _ => none
  | .field t x f => match ev σ x with
    | some u => fieldS P t f u
    | none => none
  | .extract x i => match ev σ x with
    | some u => extS i u
    | none => none
  | .load t x => match ev σ x with
    | some u => loadS P σ t u
    | none => none
  | .convert src dst x => match convTo P src dst, ev σ x with
    | some k, some (.val (.int _ n)) => some (.val (.int k (k.wrap n)))
    | _, _ => none
  | .makeFunc f first caps => match evL σ first.toList, evL σ caps.toList with
    | some a, some b => some (.fn f a b)
    | _, _ => none
  | .build t parts => match zeroS P t, fieldsS P t, evP σ parts.toList with
    | some z, some fs, some ps => (fillS (nth fs) z ps).map .agg
    | _, _, _ => none
  | .call c => match c.callee, c.args.toList, c.argTypes.toList with
    | .builtin .len, [x], [t] => lenS P t (ev σ x)
    | _, _, _ => none
  | _ => none

def setOwn (σ : St) (k : Nat) (o : Own) : St := { σ with own := setN σ.own k o }
def St.pushO (σ : St) (o : Own) : St := { σ with own := σ.own ++ [o] }
def pushOwn (σ : St) (T : TypeId) (cs : List SV) : St := { σ with own := σ.own ++ [.cells T cs] }
def storeS (P : Program) (σ : St) (t : TypeId) (u : SV) : SV → Option St
  | .loc k off => match nth σ.own k with
    | some (.cells T cs) => match szOf P t with
      | some n => if (cellsS u).length = n then (if off + n ≤ cs.length then (if (cellsS u).all oneS = true then some (setOwn σ k (.cells T (splice cs off (cellsS u)))) else none) else none) else none
      | none => none
    | _ => none
  | _ => none

def dOk (σ : St) : Option Nat → Bool
  | some d => decide (d < σ.n)
  | none => true

/-- One operation. -/
def step (P : Program) (σ : St) (d : Option Nat) (op : Op) : Option St :=
  match dOk σ d with
  | true => match op with
    | .box T x => (ev σ x).map fun s => (pushOwn σ T (cellsS s)).put d (.loc σ.own.length 0)
    | .alloc T => (zeroS P T).map fun z => (pushOwn σ T z).put d (.loc σ.own.length 0)
    | .store t x y => match ev σ x, ev σ y with
      | some p, some u => (storeS P σ t u p).map fun σ' => σ'.put d (.val undef)
      | _, _ => none
    | .buildSlice t len parts => match elemSz P t, evP σ parts.toList with
      | some (e, sz), some ps => match zeroS P e with
        | some z => if len * sz ≤ 16777216 then (if z.length = sz then (fillS (fun i => some (i * sz, sz)) ((List.replicate len z).flatten) ps).map fun cs => (pushOwn σ e cs).put d (.lsl σ.own.length 0 len len) else none) else none
        | none => none
      | _, _ => none
    | op => (opv P σ op).map fun s => σ.put d s
  | false => none

/-- Is the operation carried out? -/
def gd (ds : List (Option Nat)) (σ : St) : Option (Nat × Bool) → Option Bool
  | none => some true
  | some (j, want) => match nth ds j with
    | some (some t) => match getE σ.env t with
      | some (.val (.bool b)) => some (b == want)
      | some (.val (.tuple _)) => some false
      | _ => none
    | _ => none
def skip1 (σ : St) (d : Option Nat) : Option St :=
  match dOk σ d with
  | true => some (σ.put d (.val undef))
  | false => none

def run (P : Program) (ds : List (Option Nat)) : List Oper → Nat → St → Option (List Oper × St)
  | [], n, σ => if n = 0 then some ([], σ) else none
  | o :: l, n, σ => if n = 0 then some (o :: l, σ) else match gd ds σ o.guard with
    | some true => (step P σ o.dst o.op).bind fun σ' => run P ds l (n - 1) σ'
    | some false => (skip1 σ o.dst).bind fun σ' => run P ds l (n - 1) σ'
    | none => none
def RunThen (r : Option (List Oper × St)) (K : List Oper → St → Prop) : Prop :=
  match r with
  | some (l, σ) => K l σ
  | none => False
end Go.SX
