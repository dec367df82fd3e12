/-
  The engine, first part: values that know no addresses, and what each operation answers on them. Words alone; nothing is proved here.
-/
import Derived.Orders
import Derived.Laws.OwnMore
import Derived.Laws.FloatArith
set_option linter.unusedVariables false
set_option linter.unusedSimpArgs false
namespace Go.Eng

/-! ### Kinds of values that lie in lists -/
inductive Kind where
  | int (k : IntKind) | bool | str | flt | sl (k : Kind) | pair (a b : Kind)
  deriving DecidableEq

@[reducible] def Kind.den : Kind → Type
  | .int _ => Int
  | .bool => Bool
  | .str => ByteArray
  | .flt => Nat
  | .sl k => List k.den
  | .pair a b => a.den × b.den

def Kind.sz : Kind → Nat
  | .pair a b => a.sz + b.sz
  | _ => 1

def Kind.dflt : (k : Kind) → k.den
  | .int _ => (0 : Int)
  | .bool => false
  | .str => ByteArray.empty
  | .flt => (0 : Nat)
  | .sl _ => []
  | .pair a b => (a.dflt, b.dflt)

/-- Does a value of the kind hold slices? -/
def Kind.slfree : Kind → Bool
  | .sl _ => false
  | .pair a b => a.slfree && b.slfree
  | _ => true

/-- The element at a place (the caller has looked that it is there). -/
def rd (k : Kind) (xs : List k.den) (i : Int) : k.den := xs.getD i.toNat k.dflt
/-- The byte at a place. -/
def bt (s : ByteArray) (i : Int) : Int := ((s.data.toList.getD i.toNat 0).toNat : Int)
def bytesOf (xs : List Int) : ByteArray := ⟨(xs.map fun n => UInt8.ofNat n.toNat).toArray⟩
def intsOf (s : ByteArray) : List Int := s.data.toList.map fun b => (b.toNat : Int)

def sameI : IntKind → IntKind → Bool
  | .i8, .i8 | .i16, .i16 | .i32, .i32 | .i64, .i64 | .u8, .u8 | .u16, .u16 | .u32, .u32 | .u64, .u64 => true
  | _, _ => false

/-! ### Values -/
inductive Cell where
  | int (k : IntKind) (n : Int)
  | bool (b : Bool)
  | str (s : ByteArray)
  | flt (n : Nat)
  | sl (k : Kind) (xs : List k.den)
  | nil
  | ref (n : Nat)
  | ptr (n off : Nat)
  | eptr (n sz : Nat) (i : Int) (off : Nat)
  | vptr (k : Kind) (xs : List k.den) (i : Int) (off : Nat)
  | gptr (g off : Nat)
  | fn (f : FuncId) (caps : List Nat)
  | opq (v : Value)

inductive AVal where
  | c (x : Cell)
  | agg (cs : List Cell)
  | tup (vs : List (Bool × List Cell))     -- each: is it a struct, its cells

inductive Obj where
  | lst (e : TypeId) (k : Kind) (xs : List k.den)
  | frz (k : Kind) (xs : List k.den)
  | box (t : TypeId) (cs : List Cell)
  | dead

def Obj.mut : Obj → Bool
  | .lst .. | .box .. => true
  | _ => false

abbrev AL (β : Type) := List (Nat × β)
def AL.get {β : Type} : AL β → Nat → Option β
  | [], _ => none
  | (m, b) :: l, n => bif Nat.beq n m then some b else AL.get l n
def AL.set {β : Type} : AL β → Nat → β → AL β
  | [], n, b => [(n, b)]
  | (m, c) :: l, n, b => bif Nat.beq n m then (n, b) :: l else bif Nat.ble n m then (n, b) :: (m, c) :: l else (m, c) :: AL.set l n b
def AL.del {β : Type} : AL β → Nat → AL β
  | [], _ => []
  | (m, c) :: l, n => bif Nat.beq n m then AL.del l n else (m, c) :: AL.del l n
def AL.has {β : Type} (l : AL β) (n : Nat) : Bool := match l.get n with | some _ => true | none => false
def mem (n : Nat) : List Nat → Bool
  | [] => false
  | m :: l => bif Nat.beq n m then true else mem n l

structure Env where
  t : AL AVal
  h : AL Obj

/-- The cells of a value of a kind. -/
def emb : (k : Kind) → k.den → List Cell
  | .int k, n => [.int k n]
  | .bool, b => [.bool b]
  | .str, s => [.str s]
  | .flt, n => [.flt n]
  | .sl k, xs => [.sl k xs]
  | .pair a b, x => emb a x.1 ++ emb b x.2

/-- Back: the value of a kind at the begin of cells. -/
def proj : (k : Kind) → List Cell → Option (k.den × List Cell)
  | .int k, .int k' n :: r => bif sameI k k' then some (n, r) else none
  | .bool, .bool b :: r => some (b, r)
  | .str, .str s :: r => some (s, r)
  | .flt, .flt n :: r => some (n, r)
  | .sl k, .sl k' xs :: r => if h : k' = k then some (h ▸ xs, r) else none
  | .sl _, .nil :: r => some ([], r)
  | .pair a b, cs => match proj a cs with
    | some (x, r) => match proj b r with
      | some (y, r') => some ((x, y), r')
      | none => none
    | none => none
  | _, _ => none

def proj1 (k : Kind) (cs : List Cell) : Option k.den := match proj k cs with
  | some (x, []) => some x
  | _ => none

/-! ### Types, told by a table -/
inductive UD where
  | bool | int (k : IntKind) | flt | str | ptr (e : TypeId) | slice (e : TypeId) | array (n : Nat) (e : TypeId) | struct | other
structure TI where
  u : UD
  size : Nat
  bytes : Nat
  zero : List Cell
  agg : Bool
  kind : Option Kind
  fields : List (TypeId × Nat × Nat)     -- of a struct: type, offset and size of each field; of an array: its elements
  eqs : Bool                             -- of a struct: may be compared part by part

/-! ### What an operation asks of memory -/
inductive RM (α : Type) : Type 1 where
  | ret (a : α)
  | fail
  | look (n : Nat) (k : Obj → RM α)
  | ite (b : Bool) (t e : RM α)
  | bnd {β : Type} (o : Option β) (k : β → RM α)

namespace RM
def bind {α β : Type} : RM α → (α → RM β) → RM β
  | .ret a, f => f a
  | .fail, _ => .fail
  | .look n k, f => .look n fun o => (k o).bind f
  | .ite b t e, f => .ite b (t.bind f) (e.bind f)
  | .bnd o k, f => .bnd o fun y => (k y).bind f
def ofOpt {α : Type} : Option α → RM α
  | some a => .ret a
  | none => .fail
def asks {α : Type} (b : Bool) (m : RM α) : RM α := .ite b m .fail
/-- What it answers, and which objects it looked at. -/
def run {α : Type} (h : Nat → Option Obj) : RM α → Option (α × List Nat)
  | .ret a => some (a, [])
  | .fail => none
  | .look n k => match h n with
    | none => none
    | some o => match (k o).run h with
      | some (a, F) => some (a, n :: F)
      | none => none
  | .ite b t e => bif b then t.run h else e.run h
  | .bnd o k => match o with
    | some y => (k y).run h
    | none => none
/-- The same, handing on: what the proofs compute with. -/
def runK {α R : Type} (h : Nat → Option Obj) : RM α → List Nat → (α → List Nat → Option R) → Option R
  | .ret a, F, K => K a F
  | .fail, _, _ => none
  | .look n k, F, K => match h n with
    | none => none
    | some o => (k o).runK h (n :: F) K
  | .ite b t e, F, K => bif b then t.runK h F K else e.runK h F K
  | .bnd o k, F, K => o.bind fun y => (k y).runK h F K
end RM

/-! ### Shapes: what is known of values at a door (a call, a return, a cut) -/
inductive SC where
  | int (k : IntKind) | bool | str | flt | sl (k : Kind)
  | nil | ref (j : Nat) | ptr (j off : Nat) | gptr (g off : Nat) | fn (f : FuncId) (js : List Nat) | nilI
inductive SA where
  | c (s : SC) | agg (l : List SC) | tup (l : List (Bool × List SC))
inductive SO where
  | lst (e : TypeId) (k : Kind) | box (t : TypeId) (l : List SC) | dead
structure Shape where
  t : List (Nat × SA)
  h : List SO

@[reducible] def SC.den : SC → Type
  | .int _ => Int | .bool => Bool | .str => ByteArray | .flt => Nat | .sl k => List k.den | _ => Unit
@[reducible] def denL : List SC → Type
  | [] => Unit
  | s :: l => s.den × denL l
@[reducible] def denB : List (Bool × List SC) → Type
  | [] => Unit
  | s :: l => denL s.2 × denB l
@[reducible] def SA.den : SA → Type
  | .c s => s.den | .agg l => denL l | .tup l => denB l
@[reducible] def SO.den : SO → Type
  | .lst _ k => List k.den | .box _ l => denL l | .dead => Unit
@[reducible] def denT : List (Nat × SA) → Type
  | [] => Unit
  | s :: l => s.2.den × denT l
@[reducible] def denO : List SO → Type
  | [] => Unit
  | s :: l => s.den × denO l
@[reducible] def Shape.den (s : Shape) : Type := denT s.t × denO s.h

def encC : (s : SC) → s.den → Cell
  | .int k, n => .int k n
  | .bool, b => .bool b
  | .str, s => .str s
  | .flt, n => .flt n
  | .sl k, xs => .sl k xs
  | .nil, _ => .nil
  | .ref j, _ => .ref j
  | .ptr j o, _ => .ptr j o
  | .gptr g o, _ => .gptr g o
  | .nilI, _ => .opq .nilIface
  | .fn f js, _ => .fn f js
def encL : (l : List SC) → denL l → List Cell
  | [], _ => []
  | s :: l, x => encC s x.1 :: encL l x.2
def encB : (l : List (Bool × List SC)) → denB l → List (Bool × List Cell)
  | [], _ => []
  | s :: l, x => (s.1, encL s.2 x.1) :: encB l x.2
def encA : (s : SA) → s.den → AVal
  | .c s, x => .c (encC s x)
  | .agg l, x => .agg (encL l x)
  | .tup l, x => .tup (encB l x)
def encO : (s : SO) → s.den → Obj
  | .lst e k, xs => .lst e k xs
  | .box t l, x => .box t (encL l x)
  | .dead, _ => .dead
def encT : (l : List (Nat × SA)) → denT l → AL AVal
  | [], _ => []
  | s :: l, x => (s.1, encA s.2 x.1) :: encT l x.2
def encH : Nat → (l : List SO) → denO l → AL Obj
  | _, [], _ => []
  | j, s :: l, x => (j, encO s x.1) :: encH (j + 1) l x.2
def Shape.enc (s : Shape) (x : s.den) : Env := ⟨encT s.t x.1, encH 0 s.h x.2⟩

/-! ### Fitting values to a shape -/
structure FS where
  m : List (Nat × Nat)         -- number in the shape, name
  z : List Nat                 -- numbers that stand for nil slices
  l : List (Nat × Obj)         -- names of lists that are lent by value, as frozen

def FS.nameOf (s : FS) (j : Nat) : Option Nat := AL.get s.m j
def FS.named (s : FS) (n : Nat) : Bool := s.m.any fun p => Nat.beq p.2 n
def FS.lent (s : FS) (n : Nat) : Bool := s.l.any fun p => Nat.beq p.1 n
/-- Number j stands for name n. -/
def FS.tie (s : FS) (j n : Nat) : RM FS := match s.nameOf j with
  | some n' => bif Nat.beq n n' then .ret s else .fail
  | none => bif s.named n || s.lent n || mem j s.z then .fail else .ret { s with m := (j, n) :: s.m }
def FS.tieNil (s : FS) (j : Nat) : RM FS := match s.nameOf j with
  | some _ => .fail
  | none => bif mem j s.z then .ret s else .ret { s with z := j :: s.z }
def FS.lend (s : FS) (n : Nat) (o : Obj) : RM FS := bif s.named n then .fail else .ret { s with l := (n, o) :: s.l }
def FS.ties (s : FS) : List Nat → List Nat → RM FS
  | [], [] => .ret s
  | j :: js, n :: ns => (s.tie j n).bind fun s => FS.ties s js ns
  | _, _ => .fail

def fitC : (s : SC) → Cell → FS → RM (s.den × FS)
  | .int k, .int k' n, s => bif sameI k k' then .ret (n, s) else .fail
  | .bool, .bool b, s => .ret (b, s)
  | .str, .str x, s => .ret (x, s)
  | .flt, .flt n, s => .ret (n, s)
  | .sl k, .sl k' xs, s => if h : k' = k then .ret (h ▸ xs, s) else .fail
  | .sl _, .nil, s => .ret ([], s)
  | .sl k, .ref n, s => .look n fun
    | .lst _ k' xs => if h : k' = k then (s.lend n (.frz k' xs)).bind fun s => .ret (h ▸ xs, s) else .fail
    | .frz k' xs => if h : k' = k then .ret (h ▸ xs, s) else .fail
    | _ => .fail
  | .nil, .nil, s => .ret ((), s)
  | .ref j, .ref n, s => (s.tie j n).bind fun s => .ret ((), s)
  | .ref j, .nil, s => (s.tieNil j).bind fun s => .ret ((), s)
  | .ptr j o, .ptr n o', s => bif Nat.beq o o' then (s.tie j n).bind fun s => .ret ((), s) else .fail
  | .gptr g o, .gptr g' o', s => bif Nat.beq g g' && Nat.beq o o' then .ret ((), s) else .fail
  | .fn f js, .fn f' ns, s => bif Nat.beq f f' then (s.ties js ns).bind fun s => .ret ((), s) else .fail
  | .nilI, .opq .nilIface, s => .ret ((), s)
  | _, _, _ => .fail
def fitL : (l : List SC) → List Cell → FS → RM (denL l × FS)
  | [], [], s => .ret ((), s)
  | a :: l, c :: cs, s => (fitC a c s).bind fun y => (fitL l cs y.2).bind fun z => .ret ((y.1, z.1), z.2)
  | _, _, _ => .fail
def fitB : (l : List (Bool × List SC)) → List (Bool × List Cell) → FS → RM (denB l × FS)
  | [], [], s => .ret ((), s)
  | a :: l, c :: cs, s => bif a.1 == c.1 then (fitL a.2 c.2 s).bind fun y => (fitB l cs y.2).bind fun z => .ret ((y.1, z.1), z.2) else .fail
  | _, _, _ => .fail
def fitA : (a : SA) → AVal → FS → RM (a.den × FS)
  | .c a, .c x, s => fitC a x s
  | .agg l, .agg cs, s => fitL l cs s
  | .tup l, .tup vs, s => fitB l vs s
  | _, _, _ => .fail
def fitT (get : Nat → Option AVal) : (l : List (Nat × SA)) → FS → RM (denT l × FS)
  | [], s => .ret ((), s)
  | a :: l, s => match get a.1 with
    | some v => (fitA a.2 v s).bind fun y => (fitT get l y.2).bind fun z => .ret ((y.1, z.1), z.2)
    | none => .fail
/-- One object: the one that number j stands for. -/
def fitO (j : Nat) : (o : SO) → FS → RM (o.den × FS)
  | .dead, s => match s.nameOf j with
    | some _ => .ret ((), s)
    | none => .fail
  | .lst e k, s => bif mem j s.z then .ret ([], s) else match s.nameOf j with
    | some n => .look n fun
      | .lst e' k' xs => bif Nat.beq e e' then (if h : k' = k then .ret (h ▸ xs, s) else .fail) else .fail
      | _ => .fail
    | none => .fail
  | .box t l, s => match s.nameOf j with
    | some n => .look n fun
      | .box t' cs => bif Nat.beq t t' then fitL l cs s else .fail
      | _ => .fail
    | none => .fail
def fitH : (j : Nat) → (l : List SO) → FS → RM (denO l × FS)
  | _, [], s => .ret ((), s)
  | j, o :: l, s => (fitO j o s).bind fun y => (fitH (j + 1) l y.2).bind fun z => .ret ((y.1, z.1), z.2)
/-- Only numbers of the shape's own objects have been tied. -/
def FS.within (s : FS) (n : Nat) : Bool := s.m.all (fun p => Nat.blt p.1 n) && s.z.all (fun j => Nat.blt j n)
def fit (sh : Shape) (get : Nat → Option AVal) (s : FS) : RM (sh.den × FS) :=
  (fitT get sh.t s).bind fun y => (fitH 0 sh.h y.2).bind fun z => bif z.2.within sh.h.length then .ret ((y.1, z.1), z.2) else .fail

/-- Tied to themselves: the objects that came in. -/
def FS.own : Nat → FS
  | 0 => ⟨[], [], []⟩
  | n + 1 => { FS.own n with m := (n, n) :: (FS.own n).m }

/-! ### The table out of the program -/
def UD.of : TypeDesc → UD
  | .bool => .bool | .int k => .int k | .float .f64 => .flt | .string => .str | .pointer e => .ptr e | .slice e => .slice e | .array n e => .array n e | .struct _ => .struct | _ => .other
/-- A float's bits, all that are no number as one. -/
def canonF (b : Nat) : Nat := bif (FloatKind.f64.decode b).isNaN then 0x7ff8000000000000 else b
def fcan : Option Nat → Nat
  | some r => canonF r
  | none => 0x7ff8000000000000
def fadd (a b : Nat) : Nat := fcan (Ieee.double.add a b)
def fsub (a b : Nat) : Nat := fcan (Ieee.double.sub a b)
def fmul (a b : Nat) : Nat := fcan (Ieee.double.mul a b)
def fdiv (a b : Nat) : Nat := fcan (Ieee.double.div a b)
def fneg (a : Nat) : Nat := canonF (Op.negFloat .f64 a)
def feq (a b : Nat) : Bool := Ieee.double.order a b == some .eq
def flt (a b : Nat) : Bool := Ieee.double.order a b == some .lt
def fgt (a b : Nat) : Bool := Ieee.double.order a b == some .gt
def fofi (n : Int) : Nat := canonF (FloatKind.f64.nearest n)
def UD.isAgg : UD → Bool
  | .struct | .array .. => true
  | _ => false
def ofValue : Value → Cell
  | .bool b => .bool b
  | .int k n => .int k n
  | .string s => .str s
  | .slice none 0 0 => .nil
  | .float .f64 b => bif (FloatKind.f64.decode b).isNaN then .opq (.float .f64 b) else .flt b
  | v => .opq v
/-- The kind of what lies at a type's variables: cell by cell. -/
def kindsOf (P : Program) : Nat → TypeId → Option (List Kind)
  | 0, _ => none
  | d + 1, t => match P.underlying t with
    | some .bool => some [.bool]
    | some (.int k) => some [.int k]
    | some (.float .f64) => some [.flt]
    | some .string => some [.str]
    | some (.slice e) => match kindsOf P d e with
      | some (k :: ks) => some [.sl (join k ks)]
      | _ => none
    | some (.struct fs) => fs.toList.foldr (fun f r => match kindsOf P d f.type, r with
      | some a, some b => some (a ++ b)
      | _, _ => none) (some [])
    | some (.array n e) => match kindsOf P d e with
      | some a => some ((List.replicate n a).flatten)
      | none => none
    | _ => none
where join : Kind → List Kind → Kind
  | k, [] => k
  | k, l :: ks => .pair k (join l ks)
def kindOf (P : Program) (t : TypeId) : Option Kind := match kindsOf P 8 t with
  | some (k :: ks) => some (kindsOf.join k ks)
  | _ => none
/-- The types of the parts are in the table of the program. -/
def partsIn (P : Program) : TypeDesc → Bool
  | .struct fs => fs.toList.all fun f => (P.info? f.type).isSome
  | .array _ e => (P.info? e).isSome
  | _ => true
def eqsOf (P : Program) (t : TypeId) : TypeDesc → Bool
  | .struct fs => !P.stoodInHeld t && !P.eqGuardType P.depth t && fs.toList.all fun f => !(f.name == "_")
  | .array _ _ => !P.eqGuardType P.depth t
  | _ => false
def tiOf (P : Program) (t : TypeId) : Option TI := match P.info? t, P.underlying t with
  | some i, some d => match i.zero with
    | some z => bif (z.cells.toList.all (·.oneCell') && Nat.beq z.cells.size i.size) && partsIn P d then some ⟨UD.of d, i.size, i.bytes, z.cells.toList.map ofValue, UD.isAgg (UD.of d), kindOf P t, match d with
      | .struct fs => fs.toList.map fun f => (f.type, f.offset, P.cellsOf f.type)
      | .array n e => (List.range n).map fun j => (e, j * P.cellsOf e, P.cellsOf e)
      | _ => [], eqsOf P t d⟩ else none
    | none => none
  | _, _ => none

/-! ### Renaming (of what a callee hands back) -/
def Cell.ren (r : Nat → Nat) : Cell → Cell
  | .ref n => .ref (r n)
  | .ptr n o => .ptr (r n) o
  | .eptr n z i o => .eptr (r n) z i o
  | .fn f ns => .fn f (ns.map r)
  | c => c
def AVal.ren (r : Nat → Nat) : AVal → AVal
  | .c x => .c (x.ren r)
  | .agg cs => .agg (cs.map (·.ren r))
  | .tup vs => .tup (vs.map fun p => (p.1, p.2.map (·.ren r)))
def Obj.ren (r : Nat → Nat) : Obj → Obj
  | .box t cs => .box t (cs.map (·.ren r))
  | o => o

/-! ### Operations -/
structure Sg where
  ins : Shape
  outs : Shape
  β : Type
  dn : β → outs.den
  fn : ins.den → Option β

structure Ctx where
  nt : Nat
  ty : TypeId → Option TI
  gl : Nat → Option (List Cell)
  sg : FuncId → Option Sg

def constA : Value → Option AVal
  | .agg cs => bif cs.toList.all (·.oneCell') then some (.agg (cs.toList.map ofValue)) else none
  | .tuple _ => none
  | v => some (.c (ofValue v))
def evalA (tm : Nat → Option AVal) : Operand → Option AVal
  | .tmp t => tm t
  | .const v => constA v
  | .global g => some (.c (.gptr g 0))
  | .func f => some (.c (.fn f []))
def AVal.cells : AVal → Option (Bool × List Cell)
  | .c x => some (false, [x])
  | .agg cs => some (true, cs)
  | .tup _ => none
def nm (d j : Nat) : Nat := 16 * (d + 1) + j

def sliceC (cs : List Cell) (o n : Nat) : List Cell := (cs.drop o).take n
def putC (cs : List Cell) (o : Nat) (new : List Cell) : List Cell := cs.take o ++ (new ++ cs.drop (o + new.length))
def aggOr (agg : Bool) (cs : List Cell) : RM AVal := bif agg then .ret (.agg cs) else match cs with
  | [c] => .ret (.c c)
  | _ => .fail

/-- The value; what objects that are there are turned into; the new objects. -/
structure Res where
  v : Option AVal
  ups : List (Nat × Obj)
  news : List (Nat × Obj)
abbrev ok (v : AVal) : RM Res := .ret ⟨some v, [], []⟩
abbrev okC (c : Cell) : RM Res := .ret ⟨some (.c c), [], []⟩

def loadA (C : Ctx) (t : TypeId) (p : AVal) : RM AVal := match C.ty t with
  | none => .fail
  | some i => match p with
    | .c (.ptr n o) => .look n fun
      | .box _ cs => bif Nat.ble (o + i.size) cs.length then aggOr i.agg (sliceC cs o i.size) else .fail
      | _ => .fail
    | .c (.eptr n sz x o) => .look n fun
      | .lst _ k xs => bif Nat.beq k.sz sz && Nat.ble (o + i.size) sz then .ite (decide (x < (xs.length : Int))) (aggOr i.agg (sliceC (emb k (rd k xs x)) o i.size)) .fail else .fail
      | _ => .fail
    | .c (.vptr k xs x o) => bif Nat.ble (o + i.size) k.sz then aggOr i.agg (sliceC (emb k (rd k xs x)) o i.size) else .fail
    | .c (.gptr g o) => match C.gl g with
      | some cs => bif Nat.ble (o + i.size) cs.length then aggOr i.agg (sliceC cs o i.size) else .fail
      | none => .fail
    | _ => .fail

/-- Cells by value: lists of one's own are frozen. -/
def valC : Cell → RM (Cell × List (Nat × Obj))
  | .ref n => .look n fun
    | .lst _ k xs => .ret (.sl k xs, [(n, .frz k xs)])
    | .frz k xs => .ret (.sl k xs, [])
    | _ => .fail
  | c => .ret (c, [])
def valL : List Cell → RM (List Cell × List (Nat × Obj))
  | [] => .ret ([], [])
  | c :: cs => (valC c).bind fun a => (valL cs).bind fun b => .ret (a.1 :: b.1, a.2 ++ b.2)

/-- A list with one element set; 'none' where it has none there. -/
def setW {α : Type} (xs : List α) (i : Int) (y : α) : Option (List α) := bif decide (i < (xs.length : Int)) then some (xs.set i.toNat y) else none
/-- A list with cells put into one element. -/
def setO (k : Kind) (o : Nat) (cs : List Cell) (xs : List k.den) (i : Int) : Option (List k.den) := bif decide (i < (xs.length : Int)) then (match proj1 k (putC (emb k (rd k xs i)) o cs) with
  | some y => some (xs.set i.toNat y)
  | none => none) else none
def storeA (C : Ctx) (t : TypeId) (p v : AVal) : RM Res := match C.ty t, v.cells with
  | some i, some (_, new) => bif Nat.beq new.length i.size then match p with
    | .c (.ptr n o) => .look n fun
      | .box t' cs => bif Nat.ble (o + i.size) cs.length then .ret ⟨none, [(n, .box t' (putC cs o new))], []⟩ else .fail
      | _ => .fail
    | .c (.eptr n sz x o) => (valL new).bind fun nw => bif nw.2.any (fun p => Nat.beq p.1 n) then .fail else .look n fun
      | .lst e k xs => bif Nat.beq k.sz sz && Nat.ble (o + i.size) sz then
          bif Nat.beq i.size sz then (match proj1 k nw.1 with
            | some y => .bnd (setW xs x y) fun ys => .ret ⟨none, nw.2 ++ [(n, .lst e k ys)], []⟩
            | none => .fail) else .bnd (setO k o nw.1 xs x) fun ys => .ret ⟨none, nw.2 ++ [(n, .lst e k ys)], []⟩ else .fail
      | _ => .fail
    | _ => .fail else .fail
  | _, _ => .fail

def maxBytes : Nat := 140737488355328

/-- The elements of a slice value that is read. -/
def elemsA (k : Kind) : AVal → RM (List k.den)
  | .c (.sl k' xs) => if h : k' = k then .ret (h ▸ xs) else .fail
  | .c .nil => .ret []
  | .c (.ref n) => .look n fun
    | .lst _ k' xs => if h : k' = k then .ret (h ▸ xs) else .fail
    | .frz k' xs => if h : k' = k then .ret (h ▸ xs) else .fail
    | _ => .fail
  | _ => .fail

def appendA (C : Ctx) (d : Nat) (t : TypeId) (s x : AVal) : RM Res := match C.ty t with
  | some { u := .slice e, .. } => match C.ty e with
    | some i => match i.kind with
      | some k => bif Nat.beq k.sz i.size && Nat.blt 0 i.bytes then (elemsA k x).bind fun ys =>
          let grow (xs : List k.den) (ws : List (Nat × Obj)) : RM Res :=
            .asks (decide (xs.length + ys.length ≤ maxBytes / i.bytes)) (.ret ⟨some (.c (.ref (nm d 0))), ws, [(nm d 0, .lst e k (xs ++ ys))]⟩)
          match s with
          | .c .nil => grow [] []
          | .c (.ref n) => .look n fun
            | .lst e' k' xs => bif Nat.beq e e' then (if h : k' = k then grow (h ▸ xs) [(n, .dead)] else .fail) else .fail
            | _ => .fail
          | _ => .fail
        else .fail
      | none => .fail
    | none => .fail
  | _ => .fail

def eqC : Cell → Cell → Option Bool
  | .int k a, .int k' b => bif sameI k k' then some (a == b) else none
  | .bool a, .bool b => some (a == b)
  | .str a, .str b => some (a == b)
  | _, _ => none
/-- Equality of structs and arrays: cell by cell. -/
def eqL : List Cell → List Cell → Option Bool
  | [], [] => some true
  | [a], [b] => eqC a b
  | a :: as, b :: bs => match eqC a b, eqL as bs with
    | some x, some y => some (x && y)
    | _, _ => none
  | _, _ => none

def binA (C : Ctx) (t : TypeId) (op : BinOp) (x y : AVal) : RM AVal := match x, y with
  | .c (.int k a), .c (.int k' b) =>
    match op with
    | .shl => .asks (decide (0 ≤ b)) (.ret (.c (.int k (k.wrap (a * 2 ^ (min b.toNat k.bits))))))
    | .shr => .asks (decide (0 ≤ b)) (.ret (.c (.int k (a.fdiv (2 ^ (min b.toNat k.bits))))))
    | op => bif sameI k k' then match op with
      | .add => .ret (.c (.int k (k.wrap (a + b))))
      | .sub => .ret (.c (.int k (k.wrap (a - b))))
      | .mul => .ret (.c (.int k (k.wrap (a * b))))
      | .quo => .asks (!(decide (b = 0))) (.ret (.c (.int k (k.wrap (a.tdiv b)))))
      | .rem => .asks (!(decide (b = 0))) (.ret (.c (.int k (a.tmod b))))
      | .and => .ret (.c (.int k (k.wrap (BitVec.ofInt k.bits a &&& BitVec.ofInt k.bits b).toNat)))
      | .or => .ret (.c (.int k (k.wrap (BitVec.ofInt k.bits a ||| BitVec.ofInt k.bits b).toNat)))
      | .xor => .ret (.c (.int k (k.wrap (BitVec.ofInt k.bits a ^^^ BitVec.ofInt k.bits b).toNat)))
      | .andNot => .ret (.c (.int k (k.wrap (BitVec.ofInt k.bits a &&& ~~~BitVec.ofInt k.bits b).toNat)))
      | .eql => .ret (.c (.bool (a == b)))
      | .neq => .ret (.c (.bool (a != b)))
      | .lss => .ret (.c (.bool (decide (a < b))))
      | .leq => .ret (.c (.bool (decide (a ≤ b))))
      | .gtr => .ret (.c (.bool (decide (a > b))))
      | .geq => .ret (.c (.bool (decide (a ≥ b))))
      | _ => .fail
      else .fail
  | .c (.str a), .c (.str b) => match op with
    | .add => .asks (decide (a.size + b.size ≤ 9223372036854775807)) (.ret (.c (.str (a ++ b))))
    | .eql => .ret (.c (.bool (a.toList == b.toList)))
    | .neq => .ret (.c (.bool (!(a.toList == b.toList))))
    | .lss => .ret (.c (.bool (Op.bytesLess a.toList b.toList)))
    | .leq => .ret (.c (.bool (Op.bytesLess a.toList b.toList || a.toList == b.toList)))
    | .gtr => .ret (.c (.bool (!(Op.bytesLess a.toList b.toList || a.toList == b.toList))))
    | .geq => .ret (.c (.bool (!Op.bytesLess a.toList b.toList)))
    | _ => .fail
  | .c (.bool a), .c (.bool b) => match C.ty t with
    | some { u := .bool, .. } => match op with
      | .eql => .ret (.c (.bool (a == b)))
      | .neq => .ret (.c (.bool (!(a == b))))
      | _ => .fail
    | _ => .fail
  | .c (.flt a), .c (.flt b) => match op with
    | .add => .ret (.c (.flt (fadd a b)))
    | .sub => .ret (.c (.flt (fsub a b)))
    | .mul => .ret (.c (.flt (fmul a b)))
    | .quo => .ret (.c (.flt (fdiv a b)))
    | .eql => .ret (.c (.bool (feq a b)))
    | .neq => .ret (.c (.bool (!feq a b)))
    | .lss => .ret (.c (.bool (flt a b)))
    | .leq => .ret (.c (.bool (flt a b || feq a b)))
    | .gtr => .ret (.c (.bool (fgt a b)))
    | .geq => .ret (.c (.bool (fgt a b || feq a b)))
    | _ => .fail
  | _, _ => .fail

def unA (op : UnOp) (x : AVal) : RM AVal := match op, x with
  | .not, .c (.bool b) => .ret (.c (.bool (!b)))
  | .neg, .c (.int k n) => .ret (.c (.int k (k.wrap (0 - n))))
  | .neg, .c (.flt n) => .ret (.c (.flt (fneg n)))
  | _, _ => .fail

def lenA (C : Ctx) (t : TypeId) (x : AVal) : RM AVal := match C.ty t, x with
  | some { u := .str, .. }, .c (.str s) => .ret (.c (.int .i64 s.size))
  | some { u := .slice _, .. }, .c (.sl _ xs) => .ret (.c (.int .i64 xs.length))
  | some { u := .slice _, .. }, .c .nil => .ret (.c (.int .i64 0))
  | some { u := .slice _, .. }, .c (.ref n) => .look n fun
    | .lst _ _ xs => .ret (.c (.int .i64 xs.length))
    | .frz _ xs => .ret (.c (.int .i64 xs.length))
    | _ => .fail
  | _, _ => .fail

def inB (i : Int) (n : Nat) (m : RM Res) : RM Res := .asks (decide (0 ≤ i)) (.asks (decide (i < (n : Int))) m)

/-- So many values of a kind, one behind the other. -/
def projN (k : Kind) : Nat → List Cell → Option (List k.den)
  | 0, [] => some []
  | 0, _ => none
  | n + 1, cs => match proj k cs with
    | some (x, r) => match projN k n r with
      | some xs => some (x :: xs)
      | none => none
    | none => none
/-- The size of a slice type's elements is k's. -/
def elemOk (C : Ctx) (e : TypeId) (k : Kind) : Bool := match C.ty e with
  | some ie => Nat.beq ie.size k.sz
  | none => false
def indexAddrA (C : Ctx) (t : TypeId) (x i : AVal) : RM Res := match C.ty t, x, i with
  | some { u := .slice e, .. }, .c (.sl k xs), .c (.int _ i) => bif elemOk C e k then inB i xs.length (okC (.vptr k xs i 0)) else .fail
  | some { u := .slice e, .. }, .c (.ref n), .c (.int _ i) => .look n fun
    | .lst _ k xs => bif elemOk C e k then inB i xs.length (okC (.eptr n k.sz i 0)) else .fail
    | .frz k xs => bif elemOk C e k then inB i xs.length (okC (.vptr k xs i 0)) else .fail
    | _ => .fail
  | some { u := .array len e, .. }, .c (.ptr n o), .c (.int _ i) => match C.ty e with
    | some ie => bif decide (0 ≤ i) && decide (i < (len : Int)) then okC (.ptr n (o + i.toNat * ie.size)) else .fail
    | none => .fail
  | some { u := .array len e, .. }, .c (.gptr g o), .c (.int _ i) => match C.ty e with
    | some ie => match ie.kind, C.gl g with
      | some k, some cs => bif Nat.beq k.sz ie.size && Nat.ble (o + len * k.sz) cs.length then .bnd (projN k len (sliceC cs o (len * k.sz))) fun xs => inB i len (okC (.vptr k xs i 0)) else .fail
      | _, _ => .fail
    | none => .fail
  | _, _, _ => .fail

def fieldAddrA (C : Ctx) (t : TypeId) (x : AVal) (f : Nat) : RM Res := match C.ty t with
  | some { u := .struct, fields := fs, .. } => match fs[f]? with
    | some (_, o, sz) => bif Nat.blt 0 sz then (match x with
      | .c (.ptr n o') => okC (.ptr n (o' + o))
      | .c (.eptr n z j o') => okC (.eptr n z j (o' + o))
      | .c (.vptr k xs j o') => okC (.vptr k xs j (o' + o))
      | .c (.gptr g o') => okC (.gptr g (o' + o))
      | _ => .fail) else .fail
    | none => .fail
  | _ => .fail

def fieldA (C : Ctx) (t : TypeId) (x : AVal) (f : Nat) : RM Res := match C.ty t, x with
  | some { u := .struct, fields := fs, .. }, .agg cs => match fs[f]? with
    | some (ft, o, _) => match C.ty ft with
      | some fi => bif Nat.ble (o + fi.size) cs.length then (aggOr fi.agg (sliceC cs o fi.size)).bind ok else .fail
      | none => .fail
    | none => .fail
  | _, _ => .fail

def indexA (C : Ctx) (t : TypeId) (x i : AVal) : RM Res := match C.ty t, x, i with
  | some { u := .str, .. }, .c (.str s), .c (.int _ i) => inB i s.size (okC (.int .u8 (bt s i)))
  | _, _, _ => .fail

def boundA (o : Option AVal) (d : Int) : Option Int := match o with
  | none => some d
  | some (.c (.int _ n)) => some n
  | _ => none

/-- The bounds of a slice expression over what has a length. -/
def cutA (lo hi : Option AVal) (n : Nat) (f : Nat → Nat → RM Res) : RM Res := match boundA lo 0, boundA hi (n : Int) with
  | some l, some h => .asks (match hi with | none => true | some _ => decide (0 ≤ h) && decide (h ≤ (n : Int))) (.asks (match lo with | none => true | some _ => decide (0 ≤ l) && decide (l ≤ h)) (f l.toNat h.toNat))
  | _, _ => .fail
def sliceA (C : Ctx) (t : TypeId) (x : AVal) (lo hi : Option AVal) : RM Res := match C.ty t, x with
  | some { u := .str, .. }, .c (.str s) => cutA lo hi s.size fun l h => okC (.str (s.extract l h))
  | some { u := .slice e, .. }, .c (.sl k xs) => bif elemOk C e k then cutA lo hi xs.length fun l h => okC (.sl k ((xs.take h).drop l)) else .fail
  | some { u := .slice e, .. }, .c (.ref n) => .look n fun
    | .frz k xs => bif elemOk C e k then cutA lo hi xs.length fun l h => okC (.sl k ((xs.take h).drop l)) else .fail
    | .lst _ k xs => bif elemOk C e k then cutA lo hi xs.length fun l h => .ret ⟨some (.c (.sl k ((xs.take h).drop l))), [(n, .frz k xs)], []⟩ else .fail
    | _ => .fail
  | _, _ => .fail

/-- The parts of a struct or an array literal. -/
def fillA (fs : List (TypeId × Nat × Nat)) (tm : Nat → Option AVal) : List (Nat × Operand) → List Cell → RM (List Cell)
  | [], cs => .ret cs
  | (i, x) :: ps, cs => match fs[i]?, evalA tm x with
    | some (_, o, sz), some v => match v.cells with
      | some (_, new) => bif Nat.beq new.length sz && Nat.ble (o + sz) cs.length then fillA fs tm ps (putC cs o new) else .fail
      | none => .fail
    | _, _ => .fail

def places (e : TypeId) (sz : Nat) (n : Nat) : List (TypeId × Nat × Nat) := (List.range n).map fun j => (e, j * sz, sz)

/-- make of a slice. -/
def makeA (C : Ctx) (d : Nat) (t : TypeId) (a b : AVal) : RM Res := match C.ty t, a, b with
  | some { u := .slice e, .. }, .c (.int _ l), .c (.int _ c) => match C.ty e with
    | some i => match i.kind with
      | some k => bif Nat.beq k.sz i.size && Nat.blt 0 i.bytes then .bnd (proj1 k i.zero) fun z =>
          .asks (decide (0 ≤ l)) (.asks (decide (l ≤ c)) (.asks (decide (c.toNat ≤ maxBytes / i.bytes)) (.ret ⟨some (.c (.ref (nm d 0))), [], [(nm d 0, .lst e k (List.replicate l.toNat z))]⟩)))
        else .fail
      | none => .fail
    | none => .fail
  | _, _, _ => .fail

def argsA (tm : Nat → Option AVal) : List Operand → Option (List AVal)
  | [] => some []
  | x :: xs => match evalA tm x, argsA tm xs with
    | some v, some vs => some (v :: vs)
    | _, _ => none

def Shape.slfreeC : SC → Bool
  | .sl _ => false
  | _ => true
def Shape.slfreeO : SO → Bool
  | .lst _ k => k.slfree
  | .box _ l => l.all Shape.slfreeC
  | .dead => true
def Shape.slfreeA : SA → Bool
  | .c a => Shape.slfreeC a
  | .agg l => l.all Shape.slfreeC
  | .tup l => l.all fun q => q.2.all Shape.slfreeC
def Shape.slfree (s : Shape) : Bool := s.h.all Shape.slfreeO && s.t.all fun p => Shape.slfreeA p.2

/-- The keys are the places. -/
def keysOk : Nat → List (Nat × SA) → Bool
  | _, [] => true
  | i, p :: l => Nat.beq p.1 i && keysOk (i + 1) l
def SO.live : SO → Bool
  | .dead => false
  | _ => true
/-- The caller's names for a callee's numbers. -/
def nameFor (s : FS) (d np j : Nat) : Nat := match s.nameOf j with
  | some n => n
  | none => nm d (j - np)
def backRes (g : Sg) (s : FS) (d : Nat) (r : g.β) : RM Res :=
  let e := g.outs.enc (g.dn r)
  match e.t with
  | [(_, v)] =>
    let os := e.h.map fun p => (nameFor s d g.ins.h.length p.1, p.2.ren (nameFor s d g.ins.h.length))
    .ret ⟨some (v.ren (nameFor s d g.ins.h.length)), (bif g.outs.slfree then [] else s.l) ++ os.take g.ins.h.length, os.drop g.ins.h.length⟩
  | _ => .fail
def callA (C : Ctx) (d : Nat) (f : FuncId) (args : List AVal) : RM Res := match C.sg f with
  | some g => bif Nat.beq args.length g.ins.t.length && Nat.ble g.ins.h.length g.outs.h.length && keysOk 0 g.ins.t && g.ins.h.all SO.live then
      (fit g.ins (fun i => args[i]?) ⟨[], [], []⟩).bind fun y => bif y.2.z.isEmpty then .bnd (g.fn y.1) fun r => backRes g y.2 d r
      else .fail
    else .fail
  | none => .fail

def builtinA (C : Ctx) (d : Nat) (b : Builtin) (ts : List TypeId) (args : List AVal) : RM Res := match b, ts, args with
  | .len, t :: _, [x] => (lenA C t x).bind ok
  | .append, t :: t' :: _, [s, x] => bif Nat.beq t t' then appendA C d t s x else .fail
  | .max, _, [.c (.int k a), .c (.int k' b)] => bif sameI k k' then okC (.int k (if b > a then b else a)) else .fail
  | .min, _, [.c (.int k a), .c (.int k' b)] => bif sameI k k' then okC (.int k (if b < a then b else a)) else .fail
  | _, _, _ => .fail

def convA (C : Ctx) (src dst : TypeId) (x : AVal) : RM Res := match C.ty src, C.ty dst, x with
  | some _, some { u := .int k, .. }, .c (.int _ n) => okC (.int k (k.wrap n))
  | some _, some { u := .int k, .. }, .c (.flt n) => .bnd (floatToIntVal .f64 n k) fun m => okC (.int k m)
  | some _, some { u := .str, .. }, .c (.str s) => okC (.str s)
  | some _, some { u := .flt, .. }, .c (.int _ n) => okC (.flt (fofi n))
  | some _, some { u := .flt, .. }, .c (.flt n) => okC (.flt n)
  | some { u := .slice e, .. }, some { u := .str, .. }, x => match C.ty e with
    | some { u := .int .u8, .. } => (elemsA (.int .u8) x).bind fun xs => okC (.str (bytesOf xs))
    | _ => .fail
  | _, _, _ => .fail

/-- Equality of two structs. -/
def aggV (agg : Bool) (cs : List Cell) : Option AVal := bif agg then some (.agg cs) else match cs with
  | [c] => some (.c c)
  | _ => none
def eqP : UD → Cell → Cell → Option Bool
  | .int _, .int k a, .int k' b => bif sameI k k' then some (a == b) else none
  | .bool, .bool a, .bool b => some (a == b)
  | .str, .str a, .str b => some (a.toList == b.toList)
  | _, _, _ => none
def eqFs (C : Ctx) (f : TypeId → AVal → AVal → Option Bool) : List (TypeId × Nat × Nat) → List Cell → List Cell → Option Bool
  | [], _, _ => some true
  | (t, o, _) :: fs, xs, ys => match C.ty t with
    | none => none
    | some i => bif Nat.ble (o + i.size) xs.length && Nat.ble (o + i.size) ys.length then match aggV i.agg (sliceC xs o i.size), aggV i.agg (sliceC ys o i.size) with
        | some a, some b => match f t a b, fs with
          | some r, [] => some r
          | some r, fs => match eqFs C f fs xs ys with
            | some s => some (r && s)
            | none => none
          | none, _ => none
        | _, _ => none
      else none
/-- Whether two values of a type are the same. -/
def eqV (C : Ctx) : Nat → TypeId → AVal → AVal → Option Bool
  | 0, _, _, _ => none
  | n + 1, t, x, y => match C.ty t with
    | none => none
    | some i => match x, y with
      | .agg xs, .agg ys => bif i.eqs then eqFs C (eqV C n) i.fields xs ys else none
      | .c a, .c b => eqP i.u a b
      | _, _ => none
def eqAgg (C : Ctx) (t : TypeId) (op : BinOp) (xs ys : List Cell) : RM Res := match op with
  | .eql => .bnd (eqV C 8 t (.agg xs) (.agg ys)) fun b => okC (.bool b)
  | .neq => .bnd (eqV C 8 t (.agg xs) (.agg ys)) fun b => okC (.bool (!b))
  | _ => .fail
def capNames : List AVal → Option (List Nat)
  | [] => some []
  | .c (.ptr n o) :: vs => bif Nat.beq o 0 then match capNames vs with
      | some ns => some (n :: ns)
      | none => none
    else none
  | _ => none
/-- What an operation answers: the value of its slot, and the objects as they are then. -/
def effA (C : Ctx) (tm : Nat → Option AVal) (dst : Option Nat) (op : Op) : RM Res :=
  let d := dst.getD 0
  let un (x : Operand) (f : AVal → RM Res) : RM Res := match evalA tm x with
    | some a => f a
    | none => .fail
  let bi (x y : Operand) (f : AVal → AVal → RM Res) : RM Res := match evalA tm x, evalA tm y with
    | some a, some b => f a b
    | _, _ => .fail
  match op with
  | .move x | .assign x => un x ok
  | .pick c a b => match evalA tm c with
    | some (.c (.bool t)) => .ite t (un a ok) (un b ok)
    | _ => .fail
  | .alloc t => match C.ty t with
    | some i => .ret ⟨some (.c (.ptr (nm d 0) 0)), [], [(nm d 0, .box t i.zero)]⟩
    | none => .fail
  | .box t x => un x fun v => match v.cells with
    | some (_, cs) => .ret ⟨some (.c (.ptr (nm d 0) 0)), [], [(nm d 0, .box t cs)]⟩
    | none => .fail
  | .build t ps => match C.ty t with
    | some i => match i.u with
      | .struct | .array .. => (fillA i.fields tm ps.toList i.zero).bind fun cs => ok (.agg cs)
      | _ => .fail
    | none => .fail
  | .buildSlice t len ps => match C.ty t with
    | some { u := .slice e, .. } => match C.ty e with
      | some i => match i.kind with
        | some k => bif Nat.beq k.sz i.size && Nat.ble (len * i.size) 16777216 then
            (fillA (places e i.size len) tm ps.toList (List.replicate len i.zero).flatten).bind fun cs => (valL cs).bind fun nw => match projN k len nw.1 with
              | some xs => .ret ⟨some (.c (.ref (nm d 0))), nw.2, [(nm d 0, .lst e k xs)]⟩
              | none => .fail
            else .fail
        | none => .fail
      | none => .fail
    | _ => .fail
  | .makeSlice t l c => bi l c (makeA C d t)
  | .load t a => un a fun p => (loadA C t p).bind ok
  | .store t a x => bi a x fun p v => storeA C t p v
  | .nilCheck x => un x fun
    | .c (.ptr n o) => okC (.ptr n o)
    | .c (.eptr n z i o) => okC (.eptr n z i o)
    | .c (.vptr k xs i o) => okC (.vptr k xs i o)
    | .c (.gptr g o) => okC (.gptr g o)
    | _ => .fail
  | .binOp op t x y _ => bi x y fun a b => match a, b with
    | .agg xs, .agg ys => eqAgg C t op xs ys
    | a, b => (binA C t op a b).bind ok
  | .unOp op _ x => un x fun a => (unA op a).bind ok
  | .convert s t x => un x (convA C s t)
  | .slice t x lo hi mx => match mx with
    | some _ => .fail
    | none => un x fun a => match lo, hi with
      | none, none => sliceA C t a none none
      | some l, none => un l fun l => sliceA C t a (some l) none
      | none, some h => un h fun h => sliceA C t a none (some h)
      | some l, some h => bi l h fun l h => sliceA C t a (some l) (some h)
  | .fieldAddr t x f => un x fun a => fieldAddrA C t a f
  | .field t x f => un x fun a => fieldA C t a f
  | .indexAddr t x i => bi x i (indexAddrA C t)
  | .index t x i => bi x i (indexA C t)
  | .makeFunc (.func f) first caps => match first.toList, argsA tm caps.toList with
    | [], some vs => match capNames vs with
      | some ns => okC (.fn f ns)
      | none => .fail
    | _, _ => .fail
  | .extract x i => un x fun
    | .tup vs => match vs[i]? with
      | some (true, cs) => ok (.agg cs)
      | some (false, [c]) => okC c
      | _ => .fail
    | _ => .fail
  | .call c => match argsA tm c.args.toList with
    | some args => match c.callee with
      | .builtin b => builtinA C d b c.argTypes.toList args
      | .value f => match evalA tm f with
        | some (.c (.fn f caps)) => callA C d f (args ++ caps.map fun n => .c (.ptr n 0))
        | _ => .fail
      | _ => .fail
    | none => .fail
  | _ => .fail

/-! ### Steps, regions, code -/
structure Log where
  F : List Nat
  W : List Nat

def AL.upd {β : Type} : AL β → Nat → β → AL β
  | [], _, _ => []
  | (m, c) :: l, n, b => bif Nat.beq n m then (n, b) :: l else (m, c) :: AL.upd l n b
def setAll : List (Nat × Obj) → AL Obj → AL Obj
  | [], h => h
  | (n, o) :: ws, h => setAll ws (h.set n o)
def putV (t : AL AVal) (dst : Option Nat) (v : Option AVal) : AL AVal := match dst with
  | none => t
  | some d => match v with
    | some v => t.set d v
    | none => t.del d
/-- What is turned was looked at; what is new was not there. -/
def writesOk (h : AL Obj) (F : List Nat) (r : Res) : Bool := r.ups.all (fun p => mem p.1 F) && newOk h r.news
where newOk (h : AL Obj) : List (Nat × Obj) → Bool
  | [] => true
  | p :: ps => !h.has p.1 && newOk (h.set p.1 p.2) ps
def dstOk (nt : Nat) : Option Nat → Bool
  | none => true
  | some d => Nat.blt d nt

/-- One operation. -/
def stepK {R : Type} (C : Ctx) (dst : Option Nat) (op : Op) (e : Env) (K : Env → Log → Option R) : Option R :=
  (effA C e.t.get dst op).runK e.h.get [] fun r F => bif writesOk e.h F r && dstOk C.nt dst then K ⟨putV e.t dst r.v, setAll r.news (setAll r.ups e.h)⟩ ⟨F, (r.ups ++ r.news).map (·.1)⟩ else none
/-- The same, not handing on. -/
def step (C : Ctx) (dst : Option Nat) (op : Op) (e : Env) : Option (Env × Log) :=
  match (effA C e.t.get dst op).run e.h.get with
  | some (r, F) => bif writesOk e.h F.reverse r && dstOk C.nt dst then some (⟨putV e.t dst r.v, setAll r.news (setAll r.ups e.h)⟩, ⟨F.reverse, (r.ups ++ r.news).map (·.1)⟩) else none
  | none => none

def guardTmp (ops : Array Oper) (g : Nat) : Option Nat := match ops[g]? with
  | some o => o.dst
  | none => none
def opsK {R : Type} (C : Ctx) (ops : Array Oper) : List Oper → Env → List Log → (Env → List Log → Option R) → Option R
  | [], e, L, K => K e L.reverse
  | o :: os, e, L, K => match o.guard with
    | none => stepK C o.dst o.op e fun e' l => opsK C ops os e' (l :: L) K
    | some (g, want) => match guardTmp ops g with
      | none => none
      | some d => match e.t.get d with
        | some (.c (.bool b)) =>
          bif b then
            (let e := { e with t := e.t.upd d (.c (.bool true)) }
             bif want then stepK C o.dst o.op e fun e' l => opsK C ops os e' (l :: L) K else bif dstOk C.nt o.dst then opsK C ops os { e with t := putV e.t o.dst (some (.tup [])) } (⟨[], []⟩ :: L) K else none)
          else
            (let e := { e with t := e.t.upd d (.c (.bool false)) }
             bif want then bif dstOk C.nt o.dst then opsK C ops os { e with t := putV e.t o.dst (some (.tup [])) } (⟨[], []⟩ :: L) K else none else stepK C o.dst o.op e fun e' l => opsK C ops os e' (l :: L) K)
        | some (.tup []) => bif dstOk C.nt o.dst then opsK C ops os { e with t := putV e.t o.dst (some (.tup [])) } (⟨[], []⟩ :: L) K else none
        | _ => none

/-- Does operation j wait for operation i? -/
def waits (ops : Array Oper) : Nat → Nat → Nat → Bool
  | 0, _, _ => false
  | n + 1, i, j => match ops[j]? with
    | some o => o.after.toList.any fun e => Region.binds .any e && (Nat.beq e.on i || waits ops n i e.on)
    | none => false
def disj (a b : List Nat) : Bool := a.all fun x => !mem x b
def apartL (x y : Log) : Bool := disj x.F y.W && disj y.F x.W && disj x.W y.W
def apartAll (ops : Array Oper) (j : Nat) (o : Oper) (l : Log) : Nat → List Log → Bool
  | _, [] => true
  | i, m :: ms => (waits ops ops.size i j || (match ops[i]? with | some p => p.apart ops o && apartL m l | none => false)) && apartAll ops j o l (i + 1) ms
def orderOk (ops : Array Oper) : Nat → List Oper → List Log → List Log → Bool
  | _, [], [], _ => true
  | j, o :: os, l :: ls, past => (o.after.toList.all fun e => !Region.binds .any e || Nat.blt e.on j) && apartAll ops j o l 0 past && orderOk ops (j + 1) os ls (past ++ [l])
  | _, _, _, _ => false

inductive AExit where
  | normal | exit (id : Nat) | ret

def regK {R : Type} (C : Ctx) (ops : Array Oper) (draw : Bool) (e : Env) (K : Env → Option R) : Option R :=
  opsK C ops ops.toList e [] fun e' L => bif !draw || (Region.noSelect ops && orderOk ops 0 ops.toList L []) then K e' else none

structure Cut (R : Type) where
  s : Shape
  g : s.den → Option R

/-- The region that comes first, if it is no loop's. -/
def headOf : Code → Option Nat
  | .region id _ _ => some id
  | .seq a _ => headOf a
  | .block _ c => headOf c
  | _ => none
def loopHead : Code → Option Nat
  | .region id _ _ => some id
  | .seq a _ => loopHead a
  | .block _ c => loopHead c
  | .loop c => loopHead c
  | _ => none

def jump {R : Type} (np : Nat) (c : Cut R) (e : Env) : Option R := (fit c.s e.t.get (FS.own np)).runK e.h.get [] fun y _ => c.g y.1

def den {R : Type} (C : Ctx) (np : Nat) (J : Nat → Option (Cut R)) : Code → Env → (AExit → Env → Option R) → Option R
  | .skip, e, K => K .normal e
  | .region _ ops draw, e, K => regK C ops draw e (K .normal)
  | .seq a b, e, K => den C np J a e fun x e' => match x with
    | .normal => match headOf b with
      | some p => match J p with
        | some c => jump np c e'
        | none => den C np J b e' K
      | none => den C np J b e' K
    | x => K x e'
  | .cond c a b, e, K => match c with
    | .tmp d => match e.t.get d with
      | some (.c (.bool t)) => bif t then den C np J a { e with t := e.t.upd d (.c (.bool true)) } K else den C np J b { e with t := e.t.upd d (.c (.bool false)) } K
      | _ => none
    | .const (.bool t) => bif t then den C np J a e K else den C np J b e K
    | _ => none
  | .block id c, e, K => den C np J c e fun x e' => match x with
    | .exit i => bif Nat.beq i id then K .normal e' else K (.exit i) e'
    | x => K x e'
  | .loop c, e, _ => match loopHead c with
    | some p => match J p with
      | some c => jump np c e
      | none => none
    | none => none
  | .exit id, e, K => K (.exit id) e
  | .ret, e, K => K .ret e
  | _, _, _ => none

/-- One round of a loop, from its head. -/
def denRound {R : Type} (C : Ctx) (np : Nat) (J : Nat → Option (Cut R)) (p : Nat) (c : Code) (e : Env) (K : AExit → Env → Option R) : Option R :=
  den C np J c e fun x e' => match x with
    | .normal => match J p with
      | some c => jump np c e'
      | none => none
    | x => K x e'

/-- A text by its bytes. -/
def bs (l : List UInt8) : ByteArray := ⟨l.toArray⟩

/-! ### A function -/
def resA (C : Ctx) (tm : Nat → Option AVal) : List ResultVar → RM (List AVal)
  | [] => .ret []
  | .tmp t :: rs => match tm t with
    | some v => (resA C tm rs).bind fun vs => .ret (v :: vs)
    | none => .fail
  | .cell a t :: rs => match tm a with
    | some p => (loadA C t p).bind fun v => (resA C tm rs).bind fun vs => .ret (v :: vs)
    | none => .fail
def tupL : List AVal → Option (List (Bool × List Cell))
  | [] => some []
  | v :: vs => match v.cells, tupL vs with
    | some c, some r => some (c :: r)
    | _, _ => none
def resV : List AVal → RM AVal
  | [v] => .ret v
  | vs => match tupL vs with
    | some r => .ret (.tup r)
    | none => .fail
/-- What a function hands back, at its end. -/
def retK {β : Type} (C : Ctx) (np : Nat) (outs : Shape) (up : outs.den → β) (rs : List ResultVar) : AExit → Env → Option β
  | .exit _, _ => none
  | _, e => ((resA C e.t.get rs).bind fun vs => (resV vs).bind fun v => fit outs (fun i => bif Nat.beq i 0 then some v else none) (FS.own np)).runK e.h.get [] fun y _ => some (up y.1)

end Go.Eng
