/-
  Part of a proof by the engine: texts that a program of ours printed, or plain lemmas on them. No condition but what each theorem says.
-/
import Derived.Orders
import Derived.Laws.OwnMore
import Derived.Laws.FloatArith
import Derived.Deep.MidRow
import Derived.Laws.Small
import Derived.Laws.Strings
import Derived.Laws.Slices
set_option linter.unusedVariables false
set_option linter.unusedSimpArgs false
namespace Go.Eng

/-! ### Kinds of values that lie in lists -/
inductive Kind where
  | int (k : IntKind) | bool | str | flt | sl (k : Kind) | pair (a b : Kind)
  deriving DecidableEq

@[reducible] def Kind.den : Kind → Type
  | .int _ => Int
  | .bool => Bool
  | .str => ByteArray
  | .flt => Nat
  | .sl k => List k.den
  | .pair a b => a.den × b.den

def Kind.sz : Kind → Nat
  | .pair a b => a.sz + b.sz
  | _ => 1

def Kind.dflt : (k : Kind) → k.den
  | .int _ => (0 : Int)
  | .bool => false
  | .str => ByteArray.empty
  | .flt => (0 : Nat)
  | .sl _ => []
  | .pair a b => (a.dflt, b.dflt)

/-- Does a value of the kind hold slices? -/
def Kind.slfree : Kind → Bool
  | .sl _ => false
  | .pair a b => a.slfree && b.slfree
  | _ => true

/-- The element at a place (the caller has looked that it is there). -/
def rd (k : Kind) (xs : List k.den) (i : Int) : k.den := xs.getD i.toNat k.dflt
/-- The byte at a place. -/
def bt (s : ByteArray) (i : Int) : Int := ((s.data.toList.getD i.toNat 0).toNat : Int)
def bytesOf (xs : List Int) : ByteArray := ⟨(xs.map fun n => UInt8.ofNat n.toNat).toArray⟩
def intsOf (s : ByteArray) : List Int := s.data.toList.map fun b => (b.toNat : Int)

def sameI : IntKind → IntKind → Bool
  | .i8, .i8 | .i16, .i16 | .i32, .i32 | .i64, .i64 | .u8, .u8 | .u16, .u16 | .u32, .u32 | .u64, .u64 => true
  | _, _ => false

/-! ### Values -/
inductive Cell where
  | int (k : IntKind) (n : Int)
  | bool (b : Bool)
  | str (s : ByteArray)
  | flt (n : Nat)
  | sl (k : Kind) (xs : List k.den)
  | nil
  | ref (n : Nat)
  | ptr (n off : Nat)
  | eptr (n sz : Nat) (i : Int) (off : Nat)
  | vptr (k : Kind) (xs : List k.den) (i : Int) (off : Nat)
  | gptr (g off : Nat)
  | fn (f : FuncId) (caps : List Nat)
  | opq (v : Value)

/-- Stands for an interface's value that is not nil: a pointer of some type. -/
def errV : Value := .iface 0 (.pointer none)
inductive AVal where
  | c (x : Cell)
  | agg (cs : List Cell)
  | tup (vs : List (Bool × List Cell))     -- each: is it a struct, its cells

inductive Obj where
  | lst (e : TypeId) (k : Kind) (xs : List k.den)
  | frz (k : Kind) (xs : List k.den)
  | box (t : TypeId) (cs : List Cell)
  | dead
  | map (ka : Bool) (kk : Kind) (va : Bool) (vk : Kind) (es : List (kk.den × vk.den))

def Obj.mut : Obj → Bool
  | .lst .. | .box .. | .map .. => true
  | _ => false

abbrev AL (β : Type) := List (Nat × β)
def AL.get {β : Type} : AL β → Nat → Option β
  | [], _ => none
  | (m, b) :: l, n => bif Nat.beq n m then some b else AL.get l n
def AL.set {β : Type} : AL β → Nat → β → AL β
  | [], n, b => [(n, b)]
  | (m, c) :: l, n, b => bif Nat.beq n m then (n, b) :: l else bif Nat.ble n m then (n, b) :: (m, c) :: l else (m, c) :: AL.set l n b
def AL.del {β : Type} : AL β → Nat → AL β
  | [], _ => []
  | (m, c) :: l, n => bif Nat.beq n m then AL.del l n else (m, c) :: AL.del l n
def AL.has {β : Type} (l : AL β) (n : Nat) : Bool := match l.get n with | some _ => true | none => false
def mem (n : Nat) : List Nat → Bool
  | [] => false
  | m :: l => bif Nat.beq n m then true else mem n l

structure Env where
  t : AL AVal
  h : AL Obj

/-- The cells of a value of a kind. -/
def emb : (k : Kind) → k.den → List Cell
  | .int k, n => [.int k n]
  | .bool, b => [.bool b]
  | .str, s => [.str s]
  | .flt, n => [.flt n]
  | .sl k, xs => [.sl k xs]
  | .pair a b, x => emb a x.1 ++ emb b x.2

/-- Back: the value of a kind at the begin of cells. -/
def proj : (k : Kind) → List Cell → Option (k.den × List Cell)
  | .int k, .int k' n :: r => bif sameI k k' then some (n, r) else none
  | .bool, .bool b :: r => some (b, r)
  | .str, .str s :: r => some (s, r)
  | .flt, .flt n :: r => some (n, r)
  | .sl k, .sl k' xs :: r => if h : k' = k then some (h ▸ xs, r) else none
  | .sl _, .nil :: r => some ([], r)
  | .pair a b, cs => match proj a cs with
    | some (x, r) => match proj b r with
      | some (y, r') => some ((x, y), r')
      | none => none
    | none => none
  | _, _ => none

def proj1 (k : Kind) (cs : List Cell) : Option k.den := match proj k cs with
  | some (x, []) => some x
  | _ => none

/-! ### Types, told by a table -/
inductive UD where
  | bool | int (k : IntKind) | flt | str | ptr (e : TypeId) | slice (e : TypeId) | array (n : Nat) (e : TypeId) | struct | iface | other | map (k e : TypeId)
structure TI where
  u : UD
  size : Nat
  bytes : Nat
  zero : List Cell
  agg : Bool
  kind : Option Kind
  fields : List (TypeId × Nat × Nat)     -- of a struct: type, offset and size of each field; of an array: its elements
  eqs : Bool                             -- of a struct: may be compared part by part

/-! ### What an operation asks of memory -/
inductive RM (α : Type) : Type 1 where
  | ret (a : α)
  | fail
  | look (n : Nat) (k : Obj → RM α)
  | ite (b : Bool) (t e : RM α)
  | bnd {β : Type} (o : Option β) (k : β → RM α)

namespace RM
def bind {α β : Type} : RM α → (α → RM β) → RM β
  | .ret a, f => f a
  | .fail, _ => .fail
  | .look n k, f => .look n fun o => (k o).bind f
  | .ite b t e, f => .ite b (t.bind f) (e.bind f)
  | .bnd o k, f => .bnd o fun y => (k y).bind f
def ofOpt {α : Type} : Option α → RM α
  | some a => .ret a
  | none => .fail
def asks {α : Type} (b : Bool) (m : RM α) : RM α := .ite b m .fail
/-- What it answers, and which objects it looked at. -/
def run {α : Type} (h : Nat → Option Obj) : RM α → Option (α × List Nat)
  | .ret a => some (a, [])
  | .fail => none
  | .look n k => match h n with
    | none => none
    | some o => match (k o).run h with
      | some (a, F) => some (a, n :: F)
      | none => none
  | .ite b t e => bif b then t.run h else e.run h
  | .bnd o k => match o with
    | some y => (k y).run h
    | none => none
/-- The same, handing on: what the proofs compute with. -/
def runK {α R : Type} (h : Nat → Option Obj) : RM α → List Nat → (α → List Nat → Option R) → Option R
  | .ret a, F, K => K a F
  | .fail, _, _ => none
  | .look n k, F, K => match h n with
    | none => none
    | some o => (k o).runK h (n :: F) K
  | .ite b t e, F, K => bif b then t.runK h F K else e.runK h F K
  | .bnd o k, F, K => o.bind fun y => (k y).runK h F K
end RM

/-! ### Shapes: what is known of values at a door (a call, a return, a cut) -/
inductive SC where
  | int (k : IntKind) | bool | str | flt | sl (k : Kind)
  | nil | ref (j : Nat) | ptr (j off : Nat) | gptr (g off : Nat) | fn (f : FuncId) (js : List Nat) | nilI | nilP | errI
inductive SA where
  | c (s : SC) | agg (l : List SC) | tup (l : List (Bool × List SC))
inductive SO where
  | lst (e : TypeId) (k : Kind) | box (t : TypeId) (l : List SC) | dead | map (ka : Bool) (kk : Kind) (va : Bool) (vk : Kind)
structure Shape where
  t : List (Nat × SA)
  h : List SO

@[reducible] def SC.den : SC → Type
  | .int _ => Int | .bool => Bool | .str => ByteArray | .flt => Nat | .sl k => List k.den | _ => Unit
@[reducible] def denL : List SC → Type
  | [] => Unit
  | s :: l => s.den × denL l
@[reducible] def denB : List (Bool × List SC) → Type
  | [] => Unit
  | s :: l => denL s.2 × denB l
@[reducible] def SA.den : SA → Type
  | .c s => s.den | .agg l => denL l | .tup l => denB l
@[reducible] def SO.den : SO → Type
  | .lst _ k => List k.den | .box _ l => denL l | .dead => Unit | .map _ kk _ vk => List (kk.den × vk.den)
@[reducible] def denT : List (Nat × SA) → Type
  | [] => Unit
  | s :: l => s.2.den × denT l
@[reducible] def denO : List SO → Type
  | [] => Unit
  | s :: l => s.den × denO l
@[reducible] def Shape.den (s : Shape) : Type := denT s.t × denO s.h

def encC : (s : SC) → s.den → Cell
  | .int k, n => .int k n
  | .bool, b => .bool b
  | .str, s => .str s
  | .flt, n => .flt n
  | .sl k, xs => .sl k xs
  | .nil, _ => .nil
  | .ref j, _ => .ref j
  | .ptr j o, _ => .ptr j o
  | .gptr g o, _ => .gptr g o
  | .nilI, _ => .opq .nilIface
  | .nilP, _ => .opq (.pointer none)
  | .errI, _ => .opq (.iface 0 (.pointer none))
  | .fn f js, _ => .fn f js
def encL : (l : List SC) → denL l → List Cell
  | [], _ => []
  | s :: l, x => encC s x.1 :: encL l x.2
def encB : (l : List (Bool × List SC)) → denB l → List (Bool × List Cell)
  | [], _ => []
  | s :: l, x => (s.1, encL s.2 x.1) :: encB l x.2
def encA : (s : SA) → s.den → AVal
  | .c s, x => .c (encC s x)
  | .agg l, x => .agg (encL l x)
  | .tup l, x => .tup (encB l x)
def encO : (s : SO) → s.den → Obj
  | .lst e k, xs => .lst e k xs
  | .box t l, x => .box t (encL l x)
  | .dead, _ => .dead
  | .map ka kk va vk, es => .map ka kk va vk es
def encT : (l : List (Nat × SA)) → denT l → AL AVal
  | [], _ => []
  | s :: l, x => (s.1, encA s.2 x.1) :: encT l x.2
def encH : Nat → (l : List SO) → denO l → AL Obj
  | _, [], _ => []
  | j, s :: l, x => (j, encO s x.1) :: encH (j + 1) l x.2
def Shape.enc (s : Shape) (x : s.den) : Env := ⟨encT s.t x.1, encH 0 s.h x.2⟩

/-! ### Fitting values to a shape -/
structure FS where
  m : List (Nat × Nat)         -- number in the shape, name
  z : List Nat                 -- numbers that stand for nil slices
  l : List (Nat × Obj)         -- names of lists that are lent by value, as frozen
  d : List Nat                 -- numbers of objects that are gone: their names may be told anew

def FS.nameOf (s : FS) (j : Nat) : Option Nat := AL.get s.m j
def FS.named (s : FS) (n : Nat) : Bool := s.m.any fun p => Nat.beq p.2 n && !mem p.1 s.d
def FS.lent (s : FS) (n : Nat) : Bool := s.l.any fun p => Nat.beq p.1 n
/-- Number j stands for name n. -/
def FS.tie (s : FS) (j n : Nat) : RM FS := match s.nameOf j with
  | some n' => bif Nat.beq n n' then .ret s else .fail
  | none => bif (!mem j s.d && s.named n) || s.lent n || mem j s.z then .fail else .ret { s with m := (j, n) :: s.m }
def FS.tieNil (s : FS) (j : Nat) : RM FS := match s.nameOf j with
  | some _ => .fail
  | none => bif mem j s.z then .ret s else .ret { s with z := j :: s.z }
def FS.lend (s : FS) (n : Nat) (o : Obj) : RM FS := bif s.named n then .fail else .ret { s with l := (n, o) :: s.l }
def FS.ties (s : FS) : List Nat → List Nat → RM FS
  | [], [] => .ret s
  | j :: js, n :: ns => (s.tie j n).bind fun s => FS.ties s js ns
  | _, _ => .fail

def fitC : (s : SC) → Cell → FS → RM (s.den × FS)
  | .int k, .int k' n, s => bif sameI k k' then .ret (n, s) else .fail
  | .bool, .bool b, s => .ret (b, s)
  | .str, .str x, s => .ret (x, s)
  | .flt, .flt n, s => .ret (n, s)
  | .sl k, .sl k' xs, s => if h : k' = k then .ret (h ▸ xs, s) else .fail
  | .sl _, .nil, s => .ret ([], s)
  | .sl k, .ref n, s => .look n fun
    | .lst _ k' xs => if h : k' = k then (s.lend n (.frz k' xs)).bind fun s => .ret (h ▸ xs, s) else .fail
    | .frz k' xs => if h : k' = k then .ret (h ▸ xs, s) else .fail
    | _ => .fail
  | .nil, .nil, s => .ret ((), s)
  | .ref j, .ref n, s => (s.tie j n).bind fun s => .ret ((), s)
  | .ref j, .nil, s => (s.tieNil j).bind fun s => .ret ((), s)
  | .ptr j o, .ptr n o', s => bif Nat.beq o o' then (s.tie j n).bind fun s => .ret ((), s) else .fail
  | .gptr g o, .gptr g' o', s => bif Nat.beq g g' && Nat.beq o o' then .ret ((), s) else .fail
  | .fn f js, .fn f' ns, s => bif Nat.beq f f' then (s.ties js ns).bind fun s => .ret ((), s) else .fail
  | .nilI, .opq .nilIface, s => .ret ((), s)
  | .nilP, .opq (.pointer none), s => .ret ((), s)
  | .errI, .opq (.iface 0 (.pointer none)), s => .ret ((), s)
  | _, _, _ => .fail
def fitL : (l : List SC) → List Cell → FS → RM (denL l × FS)
  | [], [], s => .ret ((), s)
  | a :: l, c :: cs, s => (fitC a c s).bind fun y => (fitL l cs y.2).bind fun z => .ret ((y.1, z.1), z.2)
  | _, _, _ => .fail
def fitB : (l : List (Bool × List SC)) → List (Bool × List Cell) → FS → RM (denB l × FS)
  | [], [], s => .ret ((), s)
  | a :: l, c :: cs, s => bif a.1 == c.1 then (fitL a.2 c.2 s).bind fun y => (fitB l cs y.2).bind fun z => .ret ((y.1, z.1), z.2) else .fail
  | _, _, _ => .fail
def fitA : (a : SA) → AVal → FS → RM (a.den × FS)
  | .c a, .c x, s => fitC a x s
  | .agg l, .agg cs, s => fitL l cs s
  | .tup l, .tup vs, s => fitB l vs s
  | _, _, _ => .fail
def fitT (get : Nat → Option AVal) : (l : List (Nat × SA)) → FS → RM (denT l × FS)
  | [], s => .ret ((), s)
  | a :: l, s => match get a.1 with
    | some v => (fitA a.2 v s).bind fun y => (fitT get l y.2).bind fun z => .ret ((y.1, z.1), z.2)
    | none => .fail
/-- One object: the one that number j stands for. -/
def fitO (j : Nat) : (o : SO) → FS → RM (o.den × FS)
  | .dead, s => match s.nameOf j with
    | some _ => .ret ((), s)
    | none => .fail
  | .lst e k, s => bif mem j s.z then .ret ([], s) else match s.nameOf j with
    | some n => .look n fun
      | .lst e' k' xs => bif Nat.beq e e' then (if h : k' = k then .ret (h ▸ xs, s) else .fail) else .fail
      | _ => .fail
    | none => .fail
  | .box t l, s => match s.nameOf j with
    | some n => .look n fun
      | .box t' cs => bif Nat.beq t t' then fitL l cs s else .fail
      | _ => .fail
    | none => .fail
  | .map ka kk va vk, s => match s.nameOf j with
    | some n => .look n fun
      | .map ka' kk' va' vk' es => bif (ka == ka') && (va == va') then (if h : kk' = kk ∧ vk' = vk then .ret (h.1 ▸ h.2 ▸ es, s) else .fail) else .fail
      | _ => .fail
    | none => .fail
def fitH : (j : Nat) → (l : List SO) → FS → RM (denO l × FS)
  | _, [], s => .ret ((), s)
  | j, o :: l, s => (fitO j o s).bind fun y => (fitH (j + 1) l y.2).bind fun z => .ret ((y.1, z.1), z.2)
/-- Only numbers of the shape's own objects have been tied. -/
def FS.within (s : FS) (n : Nat) : Bool := s.m.all (fun p => Nat.blt p.1 n) && s.z.all (fun j => Nat.blt j n)
def deadsOf : Nat → List SO → List Nat
  | _, [] => []
  | j, .dead :: l => j :: deadsOf (j + 1) l
  | j, _ :: l => deadsOf (j + 1) l
def fit (sh : Shape) (get : Nat → Option AVal) (s : FS) : RM (sh.den × FS) :=
  (fitT get sh.t { s with d := deadsOf 0 sh.h }).bind fun y => (fitH 0 sh.h y.2).bind fun z => bif z.2.within sh.h.length then .ret ((y.1, z.1), z.2) else .fail

/-- Tied to themselves: the objects that came in. -/
def FS.own : Nat → FS
  | 0 => ⟨[], [], [], []⟩
  | n + 1 => { FS.own n with m := (n, n) :: (FS.own n).m }

/-! ### The table out of the program -/
def UD.of : TypeDesc → UD
  | .bool => .bool | .int k => .int k | .float .f64 => .flt | .string => .str | .pointer e => .ptr e | .slice e => .slice e | .array n e => .array n e | .struct _ => .struct | .interface _ => .iface | .map k e => .map k e | _ => .other
/-- A float's bits, all that are no number as one. -/
def canonF (b : Nat) : Nat := bif (FloatKind.f64.decode b).isNaN then 0x7ff8000000000000 else b
def fcan : Option Nat → Nat
  | some r => canonF r
  | none => 0x7ff8000000000000
def fadd (a b : Nat) : Nat := fcan (Ieee.double.add a b)
def fsub (a b : Nat) : Nat := fcan (Ieee.double.sub a b)
def fmul (a b : Nat) : Nat := fcan (Ieee.double.mul a b)
def fdiv (a b : Nat) : Nat := fcan (Ieee.double.div a b)
def fneg (a : Nat) : Nat := canonF (Op.negFloat .f64 a)
def feq (a b : Nat) : Bool := Ieee.double.order a b == some .eq
def flt (a b : Nat) : Bool := Ieee.double.order a b == some .lt
def fgt (a b : Nat) : Bool := Ieee.double.order a b == some .gt
def fofi (n : Int) : Nat := canonF (FloatKind.f64.nearest n)
def UD.isAgg : UD → Bool
  | .struct | .array .. => true
  | _ => false
def ofValue : Value → Cell
  | .bool b => .bool b
  | .int k n => .int k n
  | .string s => .str s
  | .slice none 0 0 => .nil
  | .float .f64 b => bif (FloatKind.f64.decode b).isNaN then .opq (.float .f64 b) else .flt b
  | v => .opq v
/-- The kind of what lies at a type's variables: cell by cell. -/
def kindsOf (P : Program) : Nat → TypeId → Option (List Kind)
  | 0, _ => none
  | d + 1, t => match P.underlying t with
    | some .bool => some [.bool]
    | some (.int k) => some [.int k]
    | some (.float .f64) => some [.flt]
    | some .string => some [.str]
    | some (.slice e) => match kindsOf P d e with
      | some (k :: ks) => some [.sl (join k ks)]
      | _ => none
    | some (.struct fs) => fs.toList.foldr (fun f r => match kindsOf P d f.type, r with
      | some a, some b => some (a ++ b)
      | _, _ => none) (some [])
    | some (.array n e) => match kindsOf P d e with
      | some a => some ((List.replicate n a).flatten)
      | none => none
    | _ => none
where join : Kind → List Kind → Kind
  | k, [] => k
  | k, l :: ks => .pair k (join l ks)
def kindOf (P : Program) (t : TypeId) : Option Kind := match kindsOf P 8 t with
  | some (k :: ks) => some (kindsOf.join k ks)
  | _ => none
/-- The types of the parts are in the table of the program. -/
def partsIn (P : Program) : TypeDesc → Bool
  | .struct fs => fs.toList.all fun f => (P.info? f.type).isSome
  | .array _ e => (P.info? e).isSome
  | _ => true
/-- A zero value has its type's form. -/
def zOk (z : Value) (d : TypeDesc) : Bool := match z with
  | .agg _ => UD.isAgg (UD.of d)
  | _ => !UD.isAgg (UD.of d)
def eqsOf (P : Program) (t : TypeId) : TypeDesc → Bool
  | .struct fs => !P.stoodInHeld t && !P.eqGuardType P.depth t && fs.toList.all fun f => !(f.name == "_")
  | .array _ _ => !P.eqGuardType P.depth t
  | _ => false
def tiOf (P : Program) (t : TypeId) : Option TI := match P.info? t, P.underlying t with
  | some i, some d => match i.zero with
    | some z => bif (z.cells.toList.all (·.oneCell') && Nat.beq z.cells.size i.size) && (partsIn P d && zOk z d) then some ⟨UD.of d, i.size, i.bytes, z.cells.toList.map ofValue, UD.isAgg (UD.of d), kindOf P t, match d with
      | .struct fs => fs.toList.map fun f => (f.type, f.offset, P.cellsOf f.type)
      | .array n e => (List.range n).map fun j => (e, j * P.cellsOf e, P.cellsOf e)
      | _ => [], eqsOf P t d⟩ else none
    | none => none
  | _, _ => none

/-! ### Renaming (of what a callee hands back) -/
def Cell.ren (r : Nat → Nat) : Cell → Cell
  | .ref n => .ref (r n)
  | .ptr n o => .ptr (r n) o
  | .eptr n z i o => .eptr (r n) z i o
  | .fn f ns => .fn f (ns.map r)
  | c => c
def AVal.ren (r : Nat → Nat) : AVal → AVal
  | .c x => .c (x.ren r)
  | .agg cs => .agg (cs.map (·.ren r))
  | .tup vs => .tup (vs.map fun p => (p.1, p.2.map (·.ren r)))
def Obj.ren (r : Nat → Nat) : Obj → Obj
  | .box t cs => .box t (cs.map (·.ren r))
  | o => o

/-! ### Operations -/
structure Sg where
  ins : Shape
  outs : Shape
  β : Type
  dn : β → outs.den
  fn : ins.den → Option β

structure Ctx where
  nt : Nat
  ty : TypeId → Option TI
  gl : Nat → Option (List Cell)
  sg : FuncId → List FuncId → Option Sg     -- of a function, and of the functions that it is given as arguments
  kp : List Nat          -- slots of slices that are to be their list's new self

def constA : Value → Option AVal
  | .agg cs => bif cs.toList.all (·.oneCell') then some (.agg (cs.toList.map ofValue)) else none
  | .tuple _ => none
  | v => some (.c (ofValue v))
def evalA (tm : Nat → Option AVal) : Operand → Option AVal
  | .tmp t => tm t
  | .const v => constA v
  | .global g => some (.c (.gptr g 0))
  | .func f => some (.c (.fn f []))
def AVal.cells : AVal → Option (Bool × List Cell)
  | .c x => some (false, [x])
  | .agg cs => some (true, cs)
  | .tup _ => none
def nm (d j : Nat) : Nat := 16 * (d + 1) + j

def sliceC (cs : List Cell) (o n : Nat) : List Cell := (cs.drop o).take n
def putC (cs : List Cell) (o : Nat) (new : List Cell) : List Cell := cs.take o ++ (new ++ cs.drop (o + new.length))
def aggOr (agg : Bool) (cs : List Cell) : RM AVal := bif agg then .ret (.agg cs) else match cs with
  | [c] => .ret (.c c)
  | _ => .fail

/-- The value; what objects that are there are turned into; the new objects. -/
structure Res where
  v : Option AVal
  ups : List (Nat × Obj)
  news : List (Nat × Obj)
abbrev ok (v : AVal) : RM Res := .ret ⟨some v, [], []⟩
abbrev okC (c : Cell) : RM Res := .ret ⟨some (.c c), [], []⟩

def loadA (C : Ctx) (t : TypeId) (p : AVal) : RM AVal := match C.ty t with
  | none => .fail
  | some i => match p with
    | .c (.ptr n o) => .look n fun
      | .box _ cs => bif Nat.ble (o + i.size) cs.length then aggOr i.agg (sliceC cs o i.size) else .fail
      | _ => .fail
    | .c (.eptr n sz x o) => .look n fun
      | .lst _ k xs => bif Nat.beq k.sz sz && Nat.ble (o + i.size) sz then .ite (decide (x < (xs.length : Int))) (aggOr i.agg (sliceC (emb k (rd k xs x)) o i.size)) .fail else .fail
      | _ => .fail
    | .c (.vptr k xs x o) => bif Nat.ble (o + i.size) k.sz then aggOr i.agg (sliceC (emb k (rd k xs x)) o i.size) else .fail
    | .c (.gptr g o) => match C.gl g with
      | some cs => bif Nat.ble (o + i.size) cs.length then aggOr i.agg (sliceC cs o i.size) else .fail
      | none => .fail
    | _ => .fail

/-- Cells by value: lists of one's own are frozen. -/
def valC : Cell → RM (Cell × List (Nat × Obj))
  | .ref n => .look n fun
    | .lst _ k xs => .ret (.sl k xs, [(n, .frz k xs)])
    | .frz k xs => .ret (.sl k xs, [])
    | _ => .fail
  | c => .ret (c, [])
def valL : List Cell → RM (List Cell × List (Nat × Obj))
  | [] => .ret ([], [])
  | c :: cs => (valC c).bind fun a => (valL cs).bind fun b => .ret (a.1 :: b.1, a.2 ++ b.2)

/-- A list with one element set; 'none' where it has none there. -/
def setW {α : Type} (xs : List α) (i : Int) (y : α) : Option (List α) := bif decide (i < (xs.length : Int)) then some (xs.set i.toNat y) else none
/-- A list with cells put into one element. -/
def setO (k : Kind) (o : Nat) (cs : List Cell) (xs : List k.den) (i : Int) : Option (List k.den) := bif decide (i < (xs.length : Int)) then (match proj1 k (putC (emb k (rd k xs i)) o cs) with
  | some y => some (xs.set i.toNat y)
  | none => none) else none
def storeA (C : Ctx) (t : TypeId) (p v : AVal) : RM Res := match C.ty t, v.cells with
  | some i, some (_, new) => bif Nat.beq new.length i.size then match p with
    | .c (.ptr n o) => .look n fun
      | .box t' cs => bif Nat.ble (o + i.size) cs.length then .ret ⟨none, [(n, .box t' (putC cs o new))], []⟩ else .fail
      | _ => .fail
    | .c (.eptr n sz x o) => (valL new).bind fun nw => bif nw.2.any (fun p => Nat.beq p.1 n) then .fail else .look n fun
      | .lst e k xs => bif Nat.beq k.sz sz && Nat.ble (o + i.size) sz then
          bif Nat.beq i.size sz then (match proj1 k nw.1 with
            | some y => .bnd (setW xs x y) fun ys => .ret ⟨none, nw.2 ++ [(n, .lst e k ys)], []⟩
            | none => .fail) else .bnd (setO k o nw.1 xs x) fun ys => .ret ⟨none, nw.2 ++ [(n, .lst e k ys)], []⟩ else .fail
      | _ => .fail
    | _ => .fail else .fail
  | _, _ => .fail

def maxBytes : Nat := 140737488355328

/-- The elements of a slice value that is read. -/
def elemsA (k : Kind) : AVal → RM (List k.den)
  | .c (.sl k' xs) => if h : k' = k then .ret (h ▸ xs) else .fail
  | .c .nil => .ret []
  | .c (.ref n) => .look n fun
    | .lst _ k' xs => if h : k' = k then .ret (h ▸ xs) else .fail
    | .frz k' xs => if h : k' = k then .ret (h ▸ xs) else .fail
    | _ => .fail
  | _ => .fail

def appendA (C : Ctx) (d : Nat) (t : TypeId) (s x : AVal) : RM Res := match C.ty t with
  | some { u := .slice e, .. } => match C.ty e with
    | some i => match i.kind with
      | some k => bif Nat.beq k.sz i.size && Nat.blt 0 i.bytes then (elemsA k x).bind fun ys =>
          let grow (xs : List k.den) (ws : List (Nat × Obj)) : RM Res :=
            .asks (decide (xs.length + ys.length ≤ maxBytes / i.bytes)) (.ret ⟨some (.c (.ref (nm d 0))), ws, [(nm d 0, .lst e k (xs ++ ys))]⟩)
          match s with
          | .c .nil => grow [] []
          | .c (.ref n) => .look n fun
            | .lst e' k' xs => bif Nat.beq e e' then (if h : k' = k then grow (h ▸ xs) [(n, .dead)] else .fail) else .fail
            | _ => .fail
          | _ => .fail
        else .fail
      | none => .fail
    | none => .fail
  | _ => .fail

def eqC : Cell → Cell → Option Bool
  | .int k a, .int k' b => bif sameI k k' then some (a == b) else none
  | .bool a, .bool b => some (a == b)
  | .str a, .str b => some (a == b)
  | _, _ => none
/-- Equality of structs and arrays: cell by cell. -/
def eqL : List Cell → List Cell → Option Bool
  | [], [] => some true
  | [a], [b] => eqC a b
  | a :: as, b :: bs => match eqC a b, eqL as bs with
    | some x, some y => some (x && y)
    | _, _ => none
  | _, _ => none

def binA (C : Ctx) (t : TypeId) (op : BinOp) (x y : AVal) : RM AVal := match x, y with
  | .c (.int k a), .c (.int k' b) =>
    match op with
    | .shl => .asks (decide (0 ≤ b)) (.ret (.c (.int k (k.wrap (a * 2 ^ (min b.toNat k.bits))))))
    | .shr => .asks (decide (0 ≤ b)) (.ret (.c (.int k (a.fdiv (2 ^ (min b.toNat k.bits))))))
    | op => bif sameI k k' then match op with
      | .add => .ret (.c (.int k (k.wrap (a + b))))
      | .sub => .ret (.c (.int k (k.wrap (a - b))))
      | .mul => .ret (.c (.int k (k.wrap (a * b))))
      | .quo => .asks (!(decide (b = 0))) (.ret (.c (.int k (k.wrap (a.tdiv b)))))
      | .rem => .asks (!(decide (b = 0))) (.ret (.c (.int k (a.tmod b))))
      | .and => .ret (.c (.int k (k.wrap (BitVec.ofInt k.bits a &&& BitVec.ofInt k.bits b).toNat)))
      | .or => .ret (.c (.int k (k.wrap (BitVec.ofInt k.bits a ||| BitVec.ofInt k.bits b).toNat)))
      | .xor => .ret (.c (.int k (k.wrap (BitVec.ofInt k.bits a ^^^ BitVec.ofInt k.bits b).toNat)))
      | .andNot => .ret (.c (.int k (k.wrap (BitVec.ofInt k.bits a &&& ~~~BitVec.ofInt k.bits b).toNat)))
      | .eql => .ret (.c (.bool (a == b)))
      | .neq => .ret (.c (.bool (a != b)))
      | .lss => .ret (.c (.bool (decide (a < b))))
      | .leq => .ret (.c (.bool (decide (a ≤ b))))
      | .gtr => .ret (.c (.bool (decide (a > b))))
      | .geq => .ret (.c (.bool (decide (a ≥ b))))
      | _ => .fail
      else .fail
  | .c (.str a), .c (.str b) => match op with
    | .add => .asks (decide (a.size + b.size ≤ 9223372036854775807)) (.ret (.c (.str (a ++ b))))
    | .eql => .ret (.c (.bool (a.toList == b.toList)))
    | .neq => .ret (.c (.bool (!(a.toList == b.toList))))
    | .lss => .ret (.c (.bool (Op.bytesLess a.toList b.toList)))
    | .leq => .ret (.c (.bool (Op.bytesLess a.toList b.toList || a.toList == b.toList)))
    | .gtr => .ret (.c (.bool (!(Op.bytesLess a.toList b.toList || a.toList == b.toList))))
    | .geq => .ret (.c (.bool (!Op.bytesLess a.toList b.toList)))
    | _ => .fail
  | .c (.bool a), .c (.bool b) => match C.ty t with
    | some { u := .bool, .. } => match op with
      | .eql => .ret (.c (.bool (a == b)))
      | .neq => .ret (.c (.bool (!(a == b))))
      | _ => .fail
    | _ => .fail
  | .c (.flt a), .c (.flt b) => match op with
    | .add => .ret (.c (.flt (fadd a b)))
    | .sub => .ret (.c (.flt (fsub a b)))
    | .mul => .ret (.c (.flt (fmul a b)))
    | .quo => .ret (.c (.flt (fdiv a b)))
    | .eql => .ret (.c (.bool (feq a b)))
    | .neq => .ret (.c (.bool (!feq a b)))
    | .lss => .ret (.c (.bool (flt a b)))
    | .leq => .ret (.c (.bool (flt a b || feq a b)))
    | .gtr => .ret (.c (.bool (fgt a b)))
    | .geq => .ret (.c (.bool (fgt a b || feq a b)))
    | _ => .fail
  | _, _ => .fail

/-- Is the second operand the literal nil of an interface, and the first such a nil (true), or not (false)? -/
def nilPair : Operand → AVal → AVal → Option Bool
  | .const _, .c (.opq .nilIface), .c (.opq .nilIface) => some true
  | .const _, .c (.opq (.iface 0 (.pointer none))), .c (.opq .nilIface) => some false
  | _, _, _ => none
def nilEq (C : Ctx) (t : TypeId) (op : BinOp) (b : Bool) : RM AVal := match C.ty t with
  | some { u := .iface, .. } => match op with
    | .eql => .ret (.c (.bool b))
    | .neq => .ret (.c (.bool (!b)))
    | _ => .fail
  | _ => .fail
def binN (C : Ctx) (t : TypeId) (op : BinOp) (y : Operand) (a b : AVal) : RM AVal := match nilPair y a b with
  | some s => nilEq C t op s
  | none => binA C t op a b
def unA (op : UnOp) (x : AVal) : RM AVal := match op, x with
  | .not, .c (.bool b) => .ret (.c (.bool (!b)))
  | .neg, .c (.int k n) => .ret (.c (.int k (k.wrap (0 - n))))
  | .neg, .c (.flt n) => .ret (.c (.flt (fneg n)))
  | _, _ => .fail

def lenA (C : Ctx) (t : TypeId) (x : AVal) : RM AVal := match C.ty t, x with
  | some { u := .str, .. }, .c (.str s) => .ret (.c (.int .i64 s.size))
  | some { u := .slice _, .. }, .c (.sl _ xs) => .ret (.c (.int .i64 xs.length))
  | some { u := .slice _, .. }, .c .nil => .ret (.c (.int .i64 0))
  | some { u := .slice _, .. }, .c (.ref n) => .look n fun
    | .lst _ _ xs => .ret (.c (.int .i64 xs.length))
    | .frz _ xs => .ret (.c (.int .i64 xs.length))
    | _ => .fail
  | _, _ => .fail

def inB (i : Int) (n : Nat) (m : RM Res) : RM Res := .asks (decide (0 ≤ i)) (.asks (decide (i < (n : Int))) m)

/-- So many values of a kind, one behind the other. -/
def projN (k : Kind) : Nat → List Cell → Option (List k.den)
  | 0, [] => some []
  | 0, _ => none
  | n + 1, cs => match proj k cs with
    | some (x, r) => match projN k n r with
      | some xs => some (x :: xs)
      | none => none
    | none => none
/-- The size of a slice type's elements is k's. -/
def elemOk (C : Ctx) (e : TypeId) (k : Kind) : Bool := match C.ty e with
  | some ie => Nat.beq ie.size k.sz
  | none => false
/-- A place in an array, told by its number. -/
def pickA (n o size : Nat) (i : Int) : Nat → Nat → RM Res
  | 0, _ => .fail
  | c + 1, j => .ite (decide (i = (j : Int))) (okC (.ptr n (o + j * size))) (pickA n o size i c (j + 1))
def indexAddrA (C : Ctx) (t : TypeId) (x i : AVal) : RM Res := match C.ty t, x, i with
  | some { u := .slice e, .. }, .c (.sl k xs), .c (.int _ i) => bif elemOk C e k then inB i xs.length (okC (.vptr k xs i 0)) else .fail
  | some { u := .slice e, .. }, .c (.ref n), .c (.int _ i) => .look n fun
    | .lst _ k xs => bif elemOk C e k then inB i xs.length (okC (.eptr n k.sz i 0)) else .fail
    | .frz k xs => bif elemOk C e k then inB i xs.length (okC (.vptr k xs i 0)) else .fail
    | _ => .fail
  | some { u := .array len e, .. }, .c (.ptr n o), .c (.int _ i) => match C.ty e with
    | some ie => pickA n o ie.size i len 0
    | none => .fail
  | some { u := .array len e, .. }, .c (.gptr g o), .c (.int _ i) => match C.ty e with
    | some ie => match ie.kind, C.gl g with
      | some k, some cs => bif Nat.beq k.sz ie.size && Nat.ble (o + len * k.sz) cs.length then .bnd (projN k len (sliceC cs o (len * k.sz))) fun xs => inB i len (okC (.vptr k xs i 0)) else .fail
      | _, _ => .fail
    | none => .fail
  | _, _, _ => .fail

def fieldAddrA (C : Ctx) (t : TypeId) (x : AVal) (f : Nat) : RM Res := match C.ty t with
  | some { u := .struct, fields := fs, .. } => match fs[f]? with
    | some (_, o, sz) => bif Nat.blt 0 sz then (match x with
      | .c (.ptr n o') => okC (.ptr n (o' + o))
      | .c (.eptr n z j o') => okC (.eptr n z j (o' + o))
      | .c (.vptr k xs j o') => okC (.vptr k xs j (o' + o))
      | .c (.gptr g o') => okC (.gptr g (o' + o))
      | _ => .fail) else .fail
    | none => .fail
  | _ => .fail

def fieldA (C : Ctx) (t : TypeId) (x : AVal) (f : Nat) : RM Res := match C.ty t, x with
  | some { u := .struct, fields := fs, .. }, .agg cs => match fs[f]? with
    | some (ft, o, _) => match C.ty ft with
      | some fi => bif Nat.ble (o + fi.size) cs.length then (aggOr fi.agg (sliceC cs o fi.size)).bind ok else .fail
      | none => .fail
    | none => .fail
  | _, _ => .fail

def indexA (C : Ctx) (t : TypeId) (x i : AVal) : RM Res := match C.ty t, x, i with
  | some { u := .str, .. }, .c (.str s), .c (.int _ i) => inB i s.size (okC (.int .u8 (bt s i)))
  | _, _, _ => .fail

def boundA (o : Option AVal) (d : Int) : Option Int := match o with
  | none => some d
  | some (.c (.int _ n)) => some n
  | _ => none

/-- The bounds of a slice expression over what has a length. -/
def cutA (lo hi : Option AVal) (n : Nat) (f : Nat → Nat → RM Res) : RM Res := match boundA lo 0, boundA hi (n : Int) with
  | some l, some h => .asks (match hi with | none => true | some _ => decide (0 ≤ h) && decide (h ≤ (n : Int))) (.asks (match lo with | none => true | some _ => decide (0 ≤ l) && decide (l ≤ h)) (f l.toNat h.toNat))
  | _, _ => .fail
def sliceA (C : Ctx) (t : TypeId) (x : AVal) (lo hi : Option AVal) : RM Res := match C.ty t, x with
  | some { u := .str, .. }, .c (.str s) => cutA lo hi s.size fun l h => okC (.str (s.extract l h))
  | some { u := .slice e, .. }, .c (.sl k xs) => bif elemOk C e k then cutA lo hi xs.length fun l h => okC (.sl k ((xs.take h).drop l)) else .fail
  | some { u := .slice e, .. }, .c (.ref n) => .look n fun
    | .frz k xs => bif elemOk C e k then cutA lo hi xs.length fun l h => okC (.sl k ((xs.take h).drop l)) else .fail
    | .lst _ k xs => bif elemOk C e k then cutA lo hi xs.length fun l h => .ret ⟨some (.c (.sl k ((xs.take h).drop l))), [(n, .frz k xs)], []⟩ else .fail
    | _ => .fail
  | some { u := .array len e, .. }, .c (.gptr g o) => match C.ty e with
    | some ie => match ie.kind, C.gl g with
      | some k, some cs => bif Nat.beq k.sz ie.size && Nat.ble (o + len * k.sz) cs.length then .bnd (projN k len (sliceC cs o (len * k.sz))) fun xs => cutA lo hi len fun l h => okC (.sl k ((xs.take h).drop l)) else .fail
      | _, _ => .fail
    | none => .fail
  | _, _ => .fail

def isConst : Operand → Bool
  | .const _ => true
  | _ => false
/-- A slice up to a constant: of an own list it is the list's new self. -/
def keepA (C : Ctx) (d : Nat) (t : TypeId) (x hi : AVal) : RM Res := match C.ty t, x with
  | some { u := .slice e, .. }, .c (.ref n) => .look n fun
    | .lst e' k xs => bif elemOk C e k then cutA none (some hi) xs.length fun l h => bif Nat.beq l 0 then .ret ⟨some (.c (.ref (nm d 0))), [(n, .dead)], [(nm d 0, .lst e' k (xs.take h))]⟩ else .fail else .fail
    | _ => sliceA C t x none (some hi)
  | _, _ => sliceA C t x none (some hi)

/-- The parts of a struct or an array literal. -/
def fillA (fs : List (TypeId × Nat × Nat)) (tm : Nat → Option AVal) : List (Nat × Operand) → List Cell → RM (List Cell)
  | [], cs => .ret cs
  | (i, x) :: ps, cs => match fs[i]?, evalA tm x with
    | some (_, o, sz), some v => match v.cells with
      | some (_, new) => bif Nat.beq new.length sz && Nat.ble (o + sz) cs.length then fillA fs tm ps (putC cs o new) else .fail
      | none => .fail
    | _, _ => .fail

def places (e : TypeId) (sz : Nat) (n : Nat) : List (TypeId × Nat × Nat) := (List.range n).map fun j => (e, j * sz, sz)

/-- make of a slice. -/
def makeA (C : Ctx) (d : Nat) (t : TypeId) (a b : AVal) : RM Res := match C.ty t, a, b with
  | some { u := .slice e, .. }, .c (.int _ l), .c (.int _ c) => match C.ty e with
    | some i => match i.kind with
      | some k => bif Nat.beq k.sz i.size && Nat.blt 0 i.bytes then .bnd (proj1 k i.zero) fun z =>
          .asks (decide (0 ≤ l)) (.asks (decide (l ≤ c)) (.asks (decide (c.toNat ≤ maxBytes / i.bytes)) (.ret ⟨some (.c (.ref (nm d 0))), [], [(nm d 0, .lst e k (List.replicate l.toNat z))]⟩)))
        else .fail
      | none => .fail
    | none => .fail
  | _, _, _ => .fail

def argsA (tm : Nat → Option AVal) : List Operand → Option (List AVal)
  | [] => some []
  | x :: xs => match evalA tm x, argsA tm xs with
    | some v, some vs => some (v :: vs)
    | _, _ => none

def Shape.slfreeC : SC → Bool
  | .sl _ => false
  | _ => true
def Shape.slfreeO : SO → Bool
  | .lst _ k => k.slfree
  | .box _ l => l.all Shape.slfreeC
  | .dead => true
  | .map _ kk _ vk => kk.slfree && vk.slfree
def Shape.slfreeA : SA → Bool
  | .c a => Shape.slfreeC a
  | .agg l => l.all Shape.slfreeC
  | .tup l => l.all fun q => q.2.all Shape.slfreeC
def Shape.slfree (s : Shape) : Bool := s.h.all Shape.slfreeO && s.t.all fun p => Shape.slfreeA p.2

/-- The keys are the places. -/
def keysOk : Nat → List (Nat × SA) → Bool
  | _, [] => true
  | i, p :: l => Nat.beq p.1 i && keysOk (i + 1) l
def SO.live : SO → Bool
  | .dead => false
  | _ => true
/-- The caller's names for a callee's numbers. -/
def nameFor (s : FS) (d np j : Nat) : Nat := match s.nameOf j with
  | some n => n
  | none => nm d (j - np)
def backRes (g : Sg) (s : FS) (d : Nat) (r : g.β) : RM Res :=
  let e := g.outs.enc (g.dn r)
  match e.t with
  | [(_, v)] =>
    let os := e.h.map fun p => (nameFor s d g.ins.h.length p.1, p.2.ren (nameFor s d g.ins.h.length))
    .ret ⟨some (v.ren (nameFor s d g.ins.h.length)), (bif g.outs.slfree then [] else s.l) ++ os.take g.ins.h.length, os.drop g.ins.h.length⟩
  | _ => .fail
/-- The functions among arguments. -/
def fnsA : List AVal → List FuncId
  | [] => []
  | .c (.fn f _) :: l => f :: fnsA l
  | _ :: l => fnsA l
def callA (C : Ctx) (d : Nat) (f : FuncId) (args : List AVal) : RM Res := match C.sg f (fnsA args) with
  | some g => bif Nat.beq args.length g.ins.t.length && Nat.ble g.ins.h.length g.outs.h.length && keysOk 0 g.ins.t && g.ins.h.all SO.live then
      (fit g.ins (fun i => args[i]?) ⟨[], [], [], []⟩).bind fun y => bif y.2.z.isEmpty then .bnd (g.fn y.1) fun r => backRes g y.2 d r
      else .fail
    else .fail
  | none => .fail

def builtinA (C : Ctx) (d : Nat) (b : Builtin) (ts : List TypeId) (args : List AVal) : RM Res := match b, ts, args with
  | .len, t :: _, [x] => (lenA C t x).bind ok
  | .append, t :: t' :: _, [s, x] => bif Nat.beq t t' then appendA C d t s x else .fail
  | .max, _, [.c (.int k a), .c (.int k' b)] => bif sameI k k' then okC (.int k (if b > a then b else a)) else .fail
  | .min, _, [.c (.int k a), .c (.int k' b)] => bif sameI k k' then okC (.int k (if b < a then b else a)) else .fail
  | _, _, _ => .fail

def convA (C : Ctx) (src dst : TypeId) (x : AVal) : RM Res := match C.ty src, C.ty dst, x with
  | some _, some { u := .int k, .. }, .c (.int _ n) => okC (.int k (k.wrap n))
  | some _, some { u := .int k, .. }, .c (.flt n) => .bnd (floatToIntVal .f64 n k) fun m => okC (.int k m)
  | some _, some { u := .str, .. }, .c (.str s) => okC (.str s)
  | some _, some { u := .flt, .. }, .c (.int _ n) => okC (.flt (fofi n))
  | some _, some { u := .flt, .. }, .c (.flt n) => okC (.flt n)
  | some { u := .slice e, .. }, some { u := .str, .. }, x => match C.ty e with
    | some { u := .int .u8, .. } => (elemsA (.int .u8) x).bind fun xs => okC (.str (bytesOf xs))
    | _ => .fail
  | _, _, _ => .fail

/-- Equality of two structs. -/
def aggV (agg : Bool) (cs : List Cell) : Option AVal := bif agg then some (.agg cs) else match cs with
  | [c] => some (.c c)
  | _ => none
def eqP : UD → Cell → Cell → Option Bool
  | .int _, .int k a, .int k' b => bif sameI k k' then some (a == b) else none
  | .bool, .bool a, .bool b => some (a == b)
  | .str, .str a, .str b => some (a.toList == b.toList)
  | _, _, _ => none
def eqFs (C : Ctx) (f : TypeId → AVal → AVal → Option Bool) : List (TypeId × Nat × Nat) → List Cell → List Cell → Option Bool
  | [], _, _ => some true
  | (t, o, _) :: fs, xs, ys => match C.ty t with
    | none => none
    | some i => bif Nat.ble (o + i.size) xs.length && Nat.ble (o + i.size) ys.length then match aggV i.agg (sliceC xs o i.size), aggV i.agg (sliceC ys o i.size) with
        | some a, some b => match f t a b, fs with
          | some r, [] => some r
          | some r, fs => match eqFs C f fs xs ys with
            | some s => some (r && s)
            | none => none
          | none, _ => none
        | _, _ => none
      else none
/-- Whether two values of a type are the same. -/
def eqV (C : Ctx) : Nat → TypeId → AVal → AVal → Option Bool
  | 0, _, _, _ => none
  | n + 1, t, x, y => match C.ty t with
    | none => none
    | some i => match x, y with
      | .agg xs, .agg ys => bif i.eqs then eqFs C (eqV C n) i.fields xs ys else none
      | .c a, .c b => eqP i.u a b
      | _, _ => none
def eqAgg (C : Ctx) (t : TypeId) (op : BinOp) (xs ys : List Cell) : RM Res := match op with
  | .eql => .bnd (eqV C 8 t (.agg xs) (.agg ys)) fun b => okC (.bool b)
  | .neq => .bnd (eqV C 8 t (.agg xs) (.agg ys)) fun b => okC (.bool (!b))
  | _ => .fail
def capNames : List AVal → Option (List Nat)
  | [] => some []
  | .c (.ptr n o) :: vs => bif Nat.beq o 0 then match capNames vs with
      | some ns => some (n :: ns)
      | none => none
    else none
  | _ => none
/-- The empty slices among a struct's cells become lists of its own. -/
def ownNil (C : Ctx) (d : Nat) : Nat → List (TypeId × Nat × Nat) → List Cell → List Cell × List (Nat × Obj)
  | _, [], cs => (cs, [])
  | j, (ft, o, _) :: fs, cs => match C.ty ft with
    | some { u := .slice e, .. } => match C.ty e, cs[o]? with
      | some { kind := some k, .. }, some .nil => ((ownNil C d (j + 1) fs (putC cs o [.ref (nm d j)])).1, (nm d j, .lst e k []) :: (ownNil C d (j + 1) fs (putC cs o [.ref (nm d j)])).2)
      | _, _ => ownNil C d (j + 1) fs cs
    | _ => ownNil C d (j + 1) fs cs
/-! ### Maps -/
/-- Are two keys the same? -/
def keyEq : (k : Kind) → k.den → k.den → Bool
  | .int _, a, b => a == b
  | .bool, a, b => a == b
  | .str, a, b => a.toList == b.toList
  | .pair a b, x, y => keyEq a x.1 y.1 && keyEq b x.2 y.2
  | _, _, _ => false
def mapGet (kk vk : Kind) : List (kk.den × vk.den) → kk.den → Option vk.den
  | [], _ => none
  | p :: r, x => bif keyEq kk x p.1 then some p.2 else mapGet kk vk r x
def mapPut (kk vk : Kind) : List (kk.den × vk.den) → kk.den → vk.den → List (kk.den × vk.den)
  | [], x, y => [(x, y)]
  | p :: r, x, y => bif keyEq kk x p.1 then (x, y) :: r else p :: mapPut kk vk r x y
/-- The key's type is one of those whose '==' is the engine's. -/
def keyOk (C : Ctx) (kt : TypeId) : Bool → Kind → Bool
  | false, .int k => match C.ty kt with
    | some { u := .int k', .. } => sameI k k'
    | _ => false
  | false, .str => match C.ty kt with
    | some { u := .str, .. } => true
    | _ => false
  | true, .pair (.int k) (.int k') => match C.ty kt with
    | some { u := .array n e, eqs := q, .. } => match C.ty e with
      | some { u := .int k'', size := sz, agg := ag, .. } => Nat.beq n 2 && (sameI k k'' && (sameI k' k'' && (Nat.beq sz 1 && (!ag && q))))
      | _ => false
    | _ => false
  | _, _ => false
def makeMapA (C : Ctx) (d : Nat) (t : TypeId) : RM Res := match C.ty t with
  | some { u := .map kt et, .. } => match C.ty kt, C.ty et with
    | some ki, some ei => match ki.kind, ei.kind with
      | some kk, some vk => .ret ⟨some (.c (.ref (nm d 0))), [], [(nm d 0, .map ki.agg kk ei.agg vk [])]⟩
      | _, _ => .fail
    | _, _ => .fail
  | _ => .fail
def lookupA (C : Ctx) (t : TypeId) (m x : AVal) (ok2 : Bool) : RM Res := match C.ty t with
  | some { u := .map kt et, .. } => match C.ty et, m, x.cells with
    | some i, .c (.ref n), some (b, cs) => .look n fun
      | .map ka kk va vk es => bif keyOk C kt ka kk && (b == ka) && (i.agg == va) then (match proj1 kk cs, proj1 vk i.zero with
          | some key, some z => bif ok2 then ok (.tup [(va, emb vk ((mapGet kk vk es key).getD z)), (false, [.bool (mapGet kk vk es key).isSome])]) else (aggOr va (emb vk ((mapGet kk vk es key).getD z))).bind ok
          | _, _ => .fail) else .fail
      | _ => .fail
    | _, _, _ => .fail
  | _ => .fail
def mapUpdateA (C : Ctx) (t : TypeId) (m x y : AVal) : RM Res := match C.ty t with
  | some { u := .map kt _, .. } => match m, x.cells, y.cells with
    | .c (.ref n), some (b, cs), some (b', ds) => .look n fun
      | .map ka kk va vk es => bif keyOk C kt ka kk && (b == ka) && (b' == va) then (match proj1 kk cs, proj1 vk ds with
          | some key, some z => .ret ⟨none, [(n, .map ka kk va vk (mapPut kk vk es key z))], []⟩
          | _, _ => .fail) else .fail
      | _ => .fail
    | _, _, _ => .fail
  | _ => .fail
/-- What an operation answers: the value of its slot, and the objects as they are then. -/
def effA (C : Ctx) (tm : Nat → Option AVal) (dst : Option Nat) (op : Op) : RM Res :=
  let d := dst.getD 0
  let un (x : Operand) (f : AVal → RM Res) : RM Res := match evalA tm x with
    | some a => f a
    | none => .fail
  let bi (x y : Operand) (f : AVal → AVal → RM Res) : RM Res := match evalA tm x, evalA tm y with
    | some a, some b => f a b
    | _, _ => .fail
  match op with
  | .move x | .assign x => un x ok
  | .pick c a b => match evalA tm c with
    | some (.c (.bool t)) => .ite t (un a ok) (un b ok)
    | _ => .fail
  | .alloc t => match C.ty t with
    | some i => .ret ⟨some (.c (.ptr (nm d 0) 0)), [], [(nm d 0, .box t i.zero)]⟩
    | none => .fail
  | .box t x => un x fun v => match v.cells with
    | some (_, cs) => bif mem d C.kp then (match C.ty t with
        | some i => .ret ⟨some (.c (.ptr (nm d 0) 0)), [], (ownNil C d 1 i.fields cs).2 ++ [(nm d 0, .box t (ownNil C d 1 i.fields cs).1)]⟩
        | none => .fail) else .ret ⟨some (.c (.ptr (nm d 0) 0)), [], [(nm d 0, .box t cs)]⟩
    | none => .fail
  | .build t ps => match C.ty t with
    | some i => match i.u with
      | .struct => (fillA i.fields tm ps.toList i.zero).bind fun cs => bif mem d C.kp then .ret ⟨some (.agg (ownNil C d 0 i.fields cs).1), [], (ownNil C d 0 i.fields cs).2⟩ else ok (.agg cs)
      | .array .. => (fillA i.fields tm ps.toList i.zero).bind fun cs => ok (.agg cs)
      | _ => .fail
    | none => .fail
  | .buildSlice t len ps => match C.ty t with
    | some { u := .slice e, .. } => match C.ty e with
      | some i => match i.kind with
        | some k => bif Nat.beq k.sz i.size && Nat.ble (len * i.size) 16777216 then
            (fillA (places e i.size len) tm ps.toList (List.replicate len i.zero).flatten).bind fun cs => (valL cs).bind fun nw => match projN k len nw.1 with
              | some xs => .ret ⟨some (.c (.ref (nm d 0))), nw.2, [(nm d 0, .lst e k xs)]⟩
              | none => .fail
            else .fail
        | none => .fail
      | none => .fail
    | _ => .fail
  | .makeSlice t l c => bi l c (makeA C d t)
  | .load t a => un a fun p => (loadA C t p).bind ok
  | .store t a x => bi a x fun p v => storeA C t p v
  | .nilCheck x => un x fun
    | .c (.ptr n o) => okC (.ptr n o)
    | .c (.eptr n z i o) => okC (.eptr n z i o)
    | .c (.vptr k xs i o) => okC (.vptr k xs i o)
    | .c (.gptr g o) => okC (.gptr g o)
    | _ => .fail
  | .binOp op t x y _ => bi x y fun a b => match a, b with
    | .agg xs, .agg ys => eqAgg C t op xs ys
    | a, b => (binN C t op y a b).bind ok
  | .unOp op _ x => un x fun a => (unA op a).bind ok
  | .convert s t x => un x (convA C s t)
  | .slice t x lo hi mx => match mx with
    | some _ => .fail
    | none => un x fun a => match lo, hi with
      | none, none => sliceA C t a none none
      | some l, none => un l fun l => sliceA C t a (some l) none
      | none, some h => un h fun u => bif isConst h || mem d C.kp then keepA C d t a u else sliceA C t a none (some u)
      | some l, some h => bi l h fun l h => sliceA C t a (some l) (some h)
  | .fieldAddr t x f => un x fun a => fieldAddrA C t a f
  | .field t x f => un x fun a => fieldA C t a f
  | .indexAddr t x i => bi x i (indexAddrA C t)
  | .index t x i => bi x i (indexA C t)
  | .makeMap t none => makeMapA C d t
  | .makeMap t (some x) => un x fun
    | .c (.int _ _) => makeMapA C d t
    | _ => .fail
  | .lookup t x i b => bi x i fun m k => lookupA C t m k b
  | .mapUpdate t m x y => bi m x fun m k => un y (mapUpdateA C t m k)
  | .makeFunc (.func f) first caps => match first.toList, argsA tm caps.toList with
    | [], some vs => match capNames vs with
      | some ns => okC (.fn f ns)
      | none => .fail
    | _, _ => .fail
  | .extract x i => un x fun
    | .tup vs => match vs[i]? with
      | some (true, cs) => ok (.agg cs)
      | some (false, [c]) => okC c
      | _ => .fail
    | _ => .fail
  | .call c => match argsA tm c.args.toList with
    | some args => match c.callee with
      | .builtin b => builtinA C d b c.argTypes.toList args
      | .value f => match evalA tm f with
        | some (.c (.fn f caps)) => callA C d f (args ++ caps.map fun n => .c (.ptr n 0))
        | _ => .fail
      | _ => .fail
    | none => .fail
  | _ => .fail

/-! ### Steps, regions, code -/
structure Log where
  F : List Nat
  W : List Nat

def AL.upd {β : Type} : AL β → Nat → β → AL β
  | [], _, _ => []
  | (m, c) :: l, n, b => bif Nat.beq n m then (n, b) :: l else (m, c) :: AL.upd l n b
def setAll : List (Nat × Obj) → AL Obj → AL Obj
  | [], h => h
  | (n, o) :: ws, h => setAll ws (h.set n o)
def putV (t : AL AVal) (dst : Option Nat) (v : Option AVal) : AL AVal := match dst with
  | none => t
  | some d => match v with
    | some v => t.set d v
    | none => t.del d
/-- What is turned was looked at; what is new was not there. -/
def writesOk (h : AL Obj) (F : List Nat) (r : Res) : Bool := r.ups.all (fun p => mem p.1 F) && newOk h r.news
where newOk (h : AL Obj) : List (Nat × Obj) → Bool
  | [] => true
  | p :: ps => !h.has p.1 && newOk (h.set p.1 p.2) ps
def dstOk (nt : Nat) : Option Nat → Bool
  | none => true
  | some d => Nat.blt d nt

/-- One operation. -/
def stepK {R : Type} (C : Ctx) (dst : Option Nat) (op : Op) (e : Env) (K : Env → Log → Option R) : Option R :=
  (effA C e.t.get dst op).runK e.h.get [] fun r F => bif writesOk e.h F r && dstOk C.nt dst then K ⟨putV e.t dst r.v, setAll r.news (setAll r.ups e.h)⟩ ⟨F, (r.ups ++ r.news).map (·.1)⟩ else none
/-- The same, not handing on. -/
def step (C : Ctx) (dst : Option Nat) (op : Op) (e : Env) : Option (Env × Log) :=
  match (effA C e.t.get dst op).run e.h.get with
  | some (r, F) => bif writesOk e.h F.reverse r && dstOk C.nt dst then some (⟨putV e.t dst r.v, setAll r.news (setAll r.ups e.h)⟩, ⟨F.reverse, (r.ups ++ r.news).map (·.1)⟩) else none
  | none => none

def guardTmp (ops : Array Oper) (g : Nat) : Option Nat := match ops[g]? with
  | some o => o.dst
  | none => none
def opsK {R : Type} (C : Ctx) (ops : Array Oper) : List Oper → Env → List Log → (Env → List Log → Option R) → Option R
  | [], e, L, K => K e L.reverse
  | o :: os, e, L, K => match o.guard with
    | none => stepK C o.dst o.op e fun e' l => opsK C ops os e' (l :: L) K
    | some (g, want) => match guardTmp ops g with
      | none => none
      | some d => match e.t.get d with
        | some (.c (.bool b)) =>
          bif b then
            (let e := { e with t := e.t.upd d (.c (.bool true)) }
             bif want then stepK C o.dst o.op e fun e' l => opsK C ops os e' (l :: L) K else bif dstOk C.nt o.dst then opsK C ops os { e with t := putV e.t o.dst (some (.tup [])) } (⟨[], []⟩ :: L) K else none)
          else
            (let e := { e with t := e.t.upd d (.c (.bool false)) }
             bif want then bif dstOk C.nt o.dst then opsK C ops os { e with t := putV e.t o.dst (some (.tup [])) } (⟨[], []⟩ :: L) K else none else stepK C o.dst o.op e fun e' l => opsK C ops os e' (l :: L) K)
        | some (.tup []) => bif dstOk C.nt o.dst then opsK C ops os { e with t := putV e.t o.dst (some (.tup [])) } (⟨[], []⟩ :: L) K else none
        | _ => none

/-- Does operation j wait for operation i? -/
def waits (ops : Array Oper) : Nat → Nat → Nat → Bool
  | 0, _, _ => false
  | n + 1, i, j => match ops[j]? with
    | some o => o.after.toList.any fun e => Region.binds .any e && (Nat.beq e.on i || waits ops n i e.on)
    | none => false
def disj (a b : List Nat) : Bool := a.all fun x => !mem x b
def apartL (x y : Log) : Bool := disj x.F y.W && disj y.F x.W && disj x.W y.W
def apartAll (ops : Array Oper) (j : Nat) (o : Oper) (l : Log) : Nat → List Log → Bool
  | _, [] => true
  | i, m :: ms => (waits ops ops.size i j || (match ops[i]? with | some p => p.apart ops o && apartL m l | none => false)) && apartAll ops j o l (i + 1) ms
def orderOk (ops : Array Oper) : Nat → List Oper → List Log → List Log → Bool
  | _, [], [], _ => true
  | j, o :: os, l :: ls, past => (o.after.toList.all fun e => !Region.binds .any e || Nat.blt e.on j) && apartAll ops j o l 0 past && orderOk ops (j + 1) os ls (past ++ [l])
  | _, _, _, _ => false

inductive AExit where
  | normal | exit (id : Nat) | ret

def regK {R : Type} (C : Ctx) (ops : Array Oper) (draw : Bool) (e : Env) (K : Env → Option R) : Option R :=
  opsK C ops ops.toList e [] fun e' L => bif !draw || (Region.noSelect ops && orderOk ops 0 ops.toList L []) then K e' else none

structure Cut (R : Type) where
  s : Shape
  g : s.den → Option R

/-- The region that comes first, if it is no loop's. -/
def headOf : Code → Option Nat
  | .region id _ _ => some id
  | .seq a _ => headOf a
  | .block _ c => headOf c
  | _ => none
def loopHead : Code → Option Nat
  | .region id _ _ => some id
  | .seq a _ => loopHead a
  | .block _ c => loopHead c
  | .loop c => loopHead c
  | _ => none

def jump {R : Type} (np : Nat) (c : Cut R) (e : Env) : Option R := (fit c.s e.t.get (FS.own np)).runK e.h.get [] fun y _ => c.g y.1

def den {R : Type} (C : Ctx) (np : Nat) (J : Nat → Option (Cut R)) : Code → Env → (AExit → Env → Option R) → Option R
  | .skip, e, K => K .normal e
  | .region _ ops draw, e, K => regK C ops draw e (K .normal)
  | .seq a b, e, K => den C np J a e fun x e' => match x with
    | .normal => match headOf b with
      | some p => match J p with
        | some c => jump np c e'
        | none => den C np J b e' K
      | none => den C np J b e' K
    | x => K x e'
  | .cond c a b, e, K => match c with
    | .tmp d => match e.t.get d with
      | some (.c (.bool t)) => bif t then den C np J a { e with t := e.t.upd d (.c (.bool true)) } K else den C np J b { e with t := e.t.upd d (.c (.bool false)) } K
      | _ => none
    | .const (.bool t) => bif t then den C np J a e K else den C np J b e K
    | _ => none
  | .block id c, e, K => den C np J c e fun x e' => match x with
    | .exit i => bif Nat.beq i id then K .normal e' else K (.exit i) e'
    | x => K x e'
  | .loop c, e, _ => match loopHead c with
    | some p => match J p with
      | some c => jump np c e
      | none => none
    | none => none
  | .exit id, e, K => K (.exit id) e
  | .ret, e, K => K .ret e
  | _, _, _ => none

/-- One round of a loop, from its head. -/
def denRound {R : Type} (C : Ctx) (np : Nat) (J : Nat → Option (Cut R)) (p : Nat) (c : Code) (e : Env) (K : AExit → Env → Option R) : Option R :=
  den C np J c e fun x e' => match x with
    | .normal => match J p with
      | some c => jump np c e'
      | none => none
    | x => K x e'

/-- A text by its bytes. -/
def bs (l : List UInt8) : ByteArray := ⟨l.toArray⟩

/-! ### A function -/
def resA (C : Ctx) (tm : Nat → Option AVal) : List ResultVar → RM (List AVal)
  | [] => .ret []
  | .tmp t :: rs => match tm t with
    | some v => (resA C tm rs).bind fun vs => .ret (v :: vs)
    | none => .fail
  | .cell a t :: rs => match tm a with
    | some p => (loadA C t p).bind fun v => (resA C tm rs).bind fun vs => .ret (v :: vs)
    | none => .fail
def tupL : List AVal → Option (List (Bool × List Cell))
  | [] => some []
  | v :: vs => match v.cells, tupL vs with
    | some c, some r => some (c :: r)
    | _, _ => none
def resV : List AVal → RM AVal
  | [v] => .ret v
  | vs => match tupL vs with
    | some r => .ret (.tup r)
    | none => .fail
/-- What a function hands back, at its end. -/
def retK {β : Type} (C : Ctx) (np : Nat) (outs : Shape) (up : outs.den → β) (rs : List ResultVar) : AExit → Env → Option β
  | .exit _, _ => none
  | _, e => ((resA C e.t.get rs).bind fun vs => (resV vs).bind fun v => fit outs (fun i => bif Nat.beq i 0 then some v else none) (FS.own np)).runK e.h.get [] fun y _ => some (up y.1)

end Go.Eng

namespace Go.Eng

/-- What stands for what: names of objects for values, and which blocks nobody writes. -/
structure St where
  val : Nat → Option Value
  imm : Nat → Prop

def blk : Value → Option Nat
  | .slice (some a) _ _ => some a.block
  | .pointer (some a) => some a.block
  | .map (some b) => some b
  | _ => none

section
variable (w : World) (imm : Nat → Prop)
def RepK : (k : Kind) → k.den → (Nat → Option Value) → Prop
  | .int k, n, f => f 0 = some (.int k n)
  | .bool, b, f => f 0 = some (.bool b)
  | .str, s, f => f 0 = some (.string s)
  | .flt, n, f => ∃ b, f 0 = some (.float .f64 b) ∧ canonF b = n
  | .sl k, xs, f => ∃ a len cap, f 0 = some (.slice a len cap) ∧ len = xs.length ∧ len ≤ cap ∧ (a = none → cap = 0) ∧ (xs = [] ∨ ∃ b o, a = some ⟨b, o, none⟩ ∧ imm b ∧
      ∀ i x, xs[i]? = some x → RepK k x fun j => w.cell? ⟨b, o + i * k.sz + j, none⟩)
  | .pair a b, x, f => RepK a x.1 f ∧ RepK b x.2 fun j => f (a.sz + j)
/-- A slice value that nobody writes. -/
def SlV (k : Kind) (xs : List k.den) (v : Value) : Prop := RepK w imm (.sl k) xs fun _ => some v
end

section
variable (w : World) (S : St)
def RepC : Cell → Value → Prop
  | .int k n, v => v = .int k n
  | .bool b, v => v = .bool b
  | .str s, v => v = .string s
  | .flt n, v => ∃ b, v = .float .f64 b ∧ canonF b = n
  | .sl k xs, v => SlV w S.imm k xs v
  | .nil, v => v = .slice none 0 0
  | .ref n, v => S.val n = some v ∧ v.oneCell' = true
  | .ptr n o, v => ∃ b, S.val n = some (.pointer (some ⟨b, 0, none⟩)) ∧ v = .pointer (some ⟨b, o, none⟩)
  | .eptr n sz i o, v => ∃ b len cap, S.val n = some (.slice (some ⟨b, 0, none⟩) len cap) ∧ 0 ≤ i ∧ v = .pointer (some ⟨b, i.toNat * sz + o, none⟩)
  | .vptr k xs i o, v => ∃ b p, v = .pointer (some ⟨b, p + i.toNat * k.sz + o, none⟩) ∧ S.imm b ∧ 0 ≤ i ∧ i.toNat < xs.length ∧
      ∀ j x, xs[j]? = some x → RepK w S.imm k x fun c => w.cell? ⟨b, p + j * k.sz + c, none⟩
  | .gptr g o, v => v = .pointer (some ⟨g, o, none⟩)
  | .fn f caps, v => ∃ vs : List Value, v = .func (.func f) #[] vs.toArray ∧ vs.length = caps.length ∧
      ∀ (i n : Nat), caps[i]? = some n → ∃ b, S.val n = some (.pointer (some ⟨b, 0, none⟩)) ∧ vs[i]? = some (Value.pointer (some ⟨b, 0, none⟩))
  | .opq u, v => (v = u ∨ (u = errV ∧ ∃ t a, v = .iface t (.pointer a))) ∧ v.oneCell' = true
def RepL : List Cell → List Value → Prop
  | [], [] => True
  | c :: cs, v :: vs => RepC w S c v ∧ RepL cs vs
  | _, _ => False
def RepB : Bool × List Cell → Value → Prop
  | (true, cs), v => ∃ vs : List Value, v = .agg vs.toArray ∧ RepL w S cs vs
  | (false, [c]), v => RepC w S c v ∧ v.oneCell' = true
  | (false, _), _ => False
def RepT : List (Bool × List Cell) → List Value → Prop
  | [], [] => True
  | c :: cs, v :: vs => RepB w S c v ∧ RepT cs vs
  | _, _ => False
def RepA : AVal → Value → Prop
  | .c x, v => RepC w S x v ∧ v.oneCell' = true
  | .agg cs, v => ∃ vs : List Value, v = .agg vs.toArray ∧ RepL w S cs vs
  | .tup l, v => ∃ vs : List Value, v = .tuple vs.toArray ∧ RepT w S l vs
def RepO (n : Nat) : Obj → Prop
  | .lst e k xs => ∃ v flat, S.val n = some v ∧ w.ownsRow 0 e k.sz v xs.length flat ∧ (∀ i x, xs[i]? = some x → RepK w S.imm k x fun j => flat[i * k.sz + j]?) ∧ ∀ u ∈ flat, u.oneCell' = true
  | .frz k xs => ∃ v, S.val n = some v ∧ SlV w S.imm k xs v
  | .box t cs => ∃ b vs, S.val n = some (.pointer (some ⟨b, 0, none⟩)) ∧ w.heap[b]? = some (.cells (List.toArray vs) t (0, 0)) ∧ RepL w S cs vs ∧ ∀ u ∈ vs, u.oneCell' = true
  | .dead => ∃ v, S.val n = some v
  | .map ka kk va vk es => ∃ b en clock, S.val n = some (.map (some b)) ∧ w.heap[b]? = some (.map en clock) ∧ en.size = es.length ∧
      ∀ (i : Nat) p, es[i]? = some p → ∃ x : MapEntry, en[i]? = some x ∧ RepB w S (ka, emb kk p.1) x.key ∧ RepB w S (va, emb vk p.2) x.val
end

/-! ### What is kept -/
/-- S' knows all that S knows. -/
structure St.le (S S' : St) : Prop where
  val : ∀ n v, S.val n = some v → S'.val n = some v
  imm : ∀ b, S.imm b → S'.imm b
theorem St.le.refl (S : St) : S.le S := ⟨fun _ _ h => h, fun _ h => h⟩
theorem St.le.trans {A B C : St} (h : A.le B) (k : B.le C) : A.le C := ⟨fun n v x => k.val n v (h.val n v x), fun b x => k.imm b (h.imm b x)⟩
/-- The blocks that nobody writes are as they were. -/
def Keeps (imm : Nat → Prop) (w w' : World) : Prop := ∀ b, imm b → w'.heap[b]? = w.heap[b]?

theorem cell?_of {w w' : World} {a : Addr} (h : w'.heap[a.block]? = w.heap[a.block]?) : w'.cell? a = w.cell? a := World.cell?_of_block h

section
variable {w w' : World} {imm imm' : Nat → Prop}
theorem RepK.keep (hw : Keeps imm w w') (hi : ∀ b, imm b → imm' b) : ∀ {k : Kind} {x : k.den} {f g : Nat → Option Value}, (∀ j, j < k.sz → g j = f j) → RepK w imm k x f → RepK w' imm' k x g
  | .int _, x, f, g, hf, h => by simp only [RepK] at *; rw [hf 0 (by simp [Kind.sz])]; exact h
  | .bool, x, f, g, hf, h => by simp only [RepK] at *; rw [hf 0 (by simp [Kind.sz])]; exact h
  | .str, x, f, g, hf, h => by simp only [RepK] at *; rw [hf 0 (by simp [Kind.sz])]; exact h
  | .flt, x, f, g, hf, h => by simp only [RepK] at *; rw [hf 0 (by simp [Kind.sz])]; exact h
  | .sl k, xs, f, g, hf, h => by
    obtain ⟨a, len, cap, h1, h2, h3, h5, h4⟩ := h
    refine ⟨a, len, cap, by rw [hf 0 (by simp [Kind.sz])]; exact h1, h2, h3, h5, ?_⟩
    rcases h4 with h4 | ⟨b, o, ha, hb, hx⟩
    · exact .inl h4
    · exact .inr ⟨b, o, ha, hi b hb, fun i x hxi => RepK.keep hw hi (fun j _ => cell?_of (hw b hb)) (hx i x hxi)⟩
  | .pair a b, x, f, g, hf, h => ⟨RepK.keep hw hi (fun j hj => hf j (by simp only [Kind.sz]; omega)) h.1, RepK.keep hw hi (fun j hj => hf _ (by simp only [Kind.sz]; omega)) h.2⟩

theorem SlV.keep (hw : Keeps imm w w') (hi : ∀ b, imm b → imm' b) {k : Kind} {xs : List k.den} {v : Value} (h : SlV w imm k xs v) : SlV w' imm' k xs v := RepK.keep hw hi (fun _ _ => rfl) h

variable {S S' : St}
theorem RepC.keep (hS : S.le S') (hw : Keeps S.imm w w') : ∀ {c : Cell} {v : Value}, RepC w S c v → RepC w' S' c v := by
  intro c v h
  cases c with
  | sl k xs => exact SlV.keep hw hS.imm h
  | ref n => exact ⟨hS.val _ _ h.1, h.2⟩
  | ptr n o => obtain ⟨b, h1, h2⟩ := h; exact ⟨b, hS.val _ _ h1, h2⟩
  | eptr n sz i o => obtain ⟨b, len, cap, h1, h2⟩ := h; exact ⟨b, len, cap, hS.val _ _ h1, h2⟩
  | vptr k xs i o =>
    obtain ⟨b, p, h1, h2, h3, h4, h5⟩ := h
    exact ⟨b, p, h1, hS.imm b h2, h3, h4, fun j x hx => RepK.keep hw hS.imm (fun c _ => cell?_of (hw b h2)) (h5 j x hx)⟩
  | fn f caps =>
    obtain ⟨vs, h1, h2, h3⟩ := h
    exact ⟨vs, h1, h2, fun i n hi => let ⟨b, x, y⟩ := h3 i n hi; ⟨b, hS.val _ _ x, y⟩⟩
  | _ => exact h
theorem RepL.keep (hS : S.le S') (hw : Keeps S.imm w w') : ∀ {cs : List Cell} {vs : List Value}, RepL w S cs vs → RepL w' S' cs vs
  | [], [], _ => trivial
  | _ :: _, _ :: _, h => ⟨h.1.keep hS hw, RepL.keep hS hw h.2⟩
theorem RepB.keep (hS : S.le S') (hw : Keeps S.imm w w') : ∀ {c : Bool × List Cell} {v : Value}, RepB w S c v → RepB w' S' c v
  | (true, _), _, h => let ⟨vs, h1, h2⟩ := h; ⟨vs, h1, h2.keep hS hw⟩
  | (false, [_]), _, h => ⟨h.1.keep hS hw, h.2⟩
theorem RepT.keep (hS : S.le S') (hw : Keeps S.imm w w') : ∀ {cs : List (Bool × List Cell)} {vs : List Value}, RepT w S cs vs → RepT w' S' cs vs
  | [], [], _ => trivial
  | _ :: _, _ :: _, h => ⟨h.1.keep hS hw, RepT.keep hS hw h.2⟩
theorem RepA.keep (hS : S.le S') (hw : Keeps S.imm w w') : ∀ {a : AVal} {v : Value}, RepA w S a v → RepA w' S' a v
  | .c _, _, h => ⟨h.1.keep hS hw, h.2⟩
  | .agg _, _, h => let ⟨vs, h1, h2⟩ := h; ⟨vs, h1, h2.keep hS hw⟩
  | .tup _, _, h => let ⟨vs, h1, h2⟩ := h; ⟨vs, h1, h2.keep hS hw⟩
/-- An object is kept if its own block is. -/
theorem RepO.keep {n : Nat} {o : Obj} (hS : S.le S') (hw : Keeps S.imm w w') (hb : ∀ v b, o.mut = true → S.val n = some v → blk v = some b → w'.heap[b]? = w.heap[b]?) (h : RepO w S n o) : RepO w' S' n o := by
  cases o with
  | lst e k xs =>
    obtain ⟨v, flat, h1, h2, h3, h4⟩ := h
    refine ⟨v, flat, hS.val _ _ h1, ⟨h2.1, ?_⟩, fun i x hx => RepK.keep hw hS.imm (fun _ _ => rfl) (h3 i x hx), h4⟩
    rcases h2.2 with h2 | ⟨g, cap, cur, rfl, h5, h6, h7⟩
    · exact .inl h2
    · exact .inr ⟨g, cap, cur, rfl, h5, (hb _ g rfl h1 rfl).trans h6, h7⟩
  | frz k xs => obtain ⟨v, h1, h2⟩ := h; exact ⟨v, hS.val _ _ h1, h2.keep hw hS.imm⟩
  | box t cs =>
    obtain ⟨b, vs, h1, h2, h3, h4⟩ := h
    exact ⟨b, vs, hS.val _ _ h1, (hb _ b rfl h1 rfl).trans h2, h3.keep hS hw, h4⟩
  | dead => obtain ⟨v, h⟩ := h; exact ⟨v, hS.val _ _ h⟩
  | map ka kk va vk es =>
    obtain ⟨b, en, clock, h1, h2, h3, h4⟩ := h
    exact ⟨b, en, clock, hS.val _ _ h1, (hb _ b rfl h1 rfl).trans h2, h3, fun i p hp => let ⟨x, k1, k2, k3⟩ := h4 i p hp; ⟨x, k1, k2.keep hS hw, k3.keep hS hw⟩⟩
end

theorem RepO.val {w : World} {S : St} {n : Nat} {o : Obj} (h : RepO w S n o) : ∃ v, S.val n = some v := by
  cases o with
  | lst e k xs => obtain ⟨v, _, h, _⟩ := h; exact ⟨v, h⟩
  | frz k xs => obtain ⟨v, h, _⟩ := h; exact ⟨v, h⟩
  | box t cs => obtain ⟨b, _, h, _⟩ := h; exact ⟨_, h⟩
  | dead => exact h
  | map ka kk va vk es => obtain ⟨b, _, _, h, _⟩ := h; exact ⟨_, h⟩

/-! ### Names -/
section
variable {β : Type}
theorem beq_iff {a b : Nat} : Nat.beq a b = true ↔ a = b := ⟨Nat.eq_of_beq_eq_true, fun h => h ▸ Nat.beq_refl a⟩
theorem AL.get_set (l : AL β) (n m : Nat) (b : β) : (l.set n b).get m = if m = n then some b else l.get m := by
  induction l with
  | nil =>
    simp only [AL.set, AL.get]
    cases h : Nat.beq m n with
    | true => simp [beq_iff.1 h]
    | false => have : m ≠ n := fun e => by rw [beq_iff.2 e] at h; cases h
               simp [this]
  | cons p l ih =>
    obtain ⟨k, c⟩ := p
    simp only [AL.set]
    cases h1 : Nat.beq n k with
    | true =>
      have e := beq_iff.1 h1; subst e
      simp only [cond_true, AL.get]
      cases h : Nat.beq m n with
      | true => simp [beq_iff.1 h]
      | false => have : m ≠ n := fun e => by rw [beq_iff.2 e] at h; cases h
                 simp [this]
    | false =>
      simp only [cond_false]
      have hnk : n ≠ k := fun e => by rw [beq_iff.2 e] at h1; cases h1
      cases h2 : Nat.ble n k with
      | true =>
        simp only [cond_true, AL.get]
        cases h : Nat.beq m n with
        | true => simp [beq_iff.1 h]
        | false => have : m ≠ n := fun e => by rw [beq_iff.2 e] at h; cases h
                   simp [this]
      | false =>
        simp only [cond_false, AL.get, ih]
        cases h : Nat.beq m k with
        | true => have e := beq_iff.1 h; subst e; simp [Ne.symm hnk]
        | false => simp
theorem AL.get_del (l : AL β) (n m : Nat) : (l.del n).get m = if m = n then none else l.get m := by
  induction l with
  | nil => simp [AL.del, AL.get]
  | cons p l ih =>
    obtain ⟨k, c⟩ := p
    simp only [AL.del]
    cases h1 : Nat.beq n k with
    | true =>
      have e := beq_iff.1 h1; subst e
      simp only [cond_true, ih, AL.get]
      by_cases h : m = n
      · simp [h]
      · have : Nat.beq m n = false := by cases hh : Nat.beq m n with
          | true => exact absurd (beq_iff.1 hh) h
          | false => rfl
        simp [h, this]
    | false =>
      simp only [cond_false, AL.get, ih]
      have hnk : n ≠ k := fun e => by rw [beq_iff.2 e] at h1; cases h1
      cases h : Nat.beq m k with
      | true => have e := beq_iff.1 h; subst e; simp [Ne.symm hnk]
      | false => simp
theorem AL.get_upd (l : AL β) (n m : Nat) (b : β) : (l.upd n b).get m = if m = n then (l.get n).map (fun _ => b) else l.get m := by
  induction l with
  | nil => simp [AL.upd, AL.get]
  | cons p l ih =>
    obtain ⟨k, c⟩ := p
    simp only [AL.upd]
    cases h1 : Nat.beq n k with
    | true =>
      have e := beq_iff.1 h1; subst e
      simp only [cond_true, AL.get, h1]
      cases h : Nat.beq m n with
      | true => simp [beq_iff.1 h]
      | false => have : m ≠ n := fun e => by rw [beq_iff.2 e] at h; cases h
                 simp [this]
    | false =>
      simp only [cond_false, AL.get, ih, h1]
      have hnk : n ≠ k := fun e => by rw [beq_iff.2 e] at h1; cases h1
      cases h : Nat.beq m k with
      | true => have e := beq_iff.1 h; subst e; simp [Ne.symm hnk]
      | false => simp
/-- What stands there already changes nothing. -/
theorem AL.upd_same (l : AL β) (n : Nat) (b : β) (h : l.get n = some b) : l.upd n b = l := by
  induction l with
  | nil => rfl
  | cons p l ih =>
    obtain ⟨k, c⟩ := p
    simp only [AL.upd, AL.get] at *
    cases h1 : Nat.beq n k with
    | true => rw [h1] at h; simp only [cond_true, Option.some.injEq] at h; simp [beq_iff.1 h1, h]
    | false => rw [h1] at h; simp only [cond_false] at h ⊢; rw [ih h]
theorem AL.has_iff (l : AL β) (n : Nat) : l.has n = false ↔ l.get n = none := by
  unfold AL.has; cases l.get n <;> simp
theorem mem_iff {n : Nat} {l : List Nat} : mem n l = true ↔ n ∈ l := by
  induction l with
  | nil => simp [mem]
  | cons m l ih =>
    simp only [mem, List.mem_cons]
    cases h : Nat.beq n m with
    | true => simp [beq_iff.1 h]
    | false => have : n ≠ m := fun e => by rw [beq_iff.2 e] at h; cases h
               simp [this, ih]
end

/-! ### The running activation -/
/-- What stays of the call: the world that it began in, which blocks nobody wrote then, which blocks of its caller's it may write, the objects that came in. -/
structure Fd where
  gl : Nat → Option (List Cell)
  w0 : World
  imm0 : Nat → Prop
  pw : Nat → Prop
  np : Nat
  val0 : Nat → Value

/-- The package's variables hold what is said, and nobody writes them. -/
def GlOk (gl : Nat → Option (List Cell)) (w : World) (S : St) : Prop :=
  ∀ g cs, gl g = some cs → S.imm g ∧ ∃ vs, RepL w ⟨fun _ => none, S.imm⟩ cs vs ∧ (∀ u ∈ vs, u.oneCell' = true) ∧ (∀ (j : Nat) u, vs[j]? = some u → w.cell? ⟨g, j, none⟩ = some u) ∧ ∃ t c, w.heap[g]? = some (.cells vs.toArray t c)
theorem GlOk.keep {gl : Nat → Option (List Cell)} {w w' : World} {S S' : St} (hS : S.le S') (hw : Keeps S.imm w w') (h : GlOk gl w S) : GlOk gl w' S' := fun g cs hg => by
  obtain ⟨h1, vs, h2, h3, h4⟩ := h g cs hg
  exact ⟨hS.imm g h1, vs, RepL.keep (S := ⟨fun _ => none, S.imm⟩) (S' := ⟨fun _ => none, S'.imm⟩) ⟨fun _ _ h => h, hS.imm⟩ hw h2, h3, fun j u hj => (cell?_of (hw g h1)).trans (h4.1 j u hj), by rw [hw g h1]; exact h4.2⟩

structure Inv (Fr : Fd) (nt : Nat) (S : St) (e : Env) (a : Act) (w : World) : Prop where
  defers : a.defers = []
  size : a.tmps.size = nt
  tmps : ∀ t v, e.t.get t = some v → ∃ u, a.tmps[t]? = some u ∧ RepA w S v u
  objs : ∀ n o, e.h.get n = some o → RepO w S n o
  news : ∀ n, e.h.get n = none → S.val n = none
  wr : ∀ n o v b, e.h.get n = some o → o.mut = true → S.val n = some v → blk v = some b → ¬ S.imm b ∧ (Fr.w0.heap.size ≤ b ∨ Fr.pw b)
  dis : ∀ n m o p v u b, n ≠ m → e.h.get n = some o → e.h.get m = some p → o.mut = true → p.mut = true → S.val n = some v → S.val m = some u → blk v = some b → blk u ≠ some b
  imm : ∀ b, S.imm b → b < w.heap.size ∧ (Fr.imm0 b ∨ Fr.w0.heap.size ≤ b ∨ Fr.pw b)
  imm0 : ∀ b, Fr.imm0 b → S.imm b
  own : ∀ j, j < Fr.np → S.val j = some (Fr.val0 j)
  frame : ∀ b, b < Fr.w0.heap.size → ¬ Fr.pw b → w.heap[b]? = Fr.w0.heap[b]?
  os : w.os = Fr.w0.os
  tape : w.tape = Fr.w0.tape
  output : w.output = Fr.w0.output
  grow : Fr.w0.heap.size ≤ w.heap.size
  glob : GlOk Fr.gl w S

end Go.Eng

namespace Go.Eng
/-! ### How the invariant is handed on -/
def St.bind (S : St) (n : Nat) (v : Value) : St := ⟨fun m => if m = n then some v else S.val m, S.imm⟩
theorem St.le_bind {S : St} {n : Nat} {v : Value} (h : S.val n = none ∨ S.val n = some v) : S.le (S.bind n v) :=
  ⟨fun m u hm => by
    simp only [St.bind]
    split
    · rename_i e; subst e
      rcases h with h | h <;> rw [h] at hm <;> cases hm
      rfl
    · exact hm, fun _ h => h⟩
def St.froze (S : St) (v : Value) : St := ⟨S.val, fun b => S.imm b ∨ blk v = some b⟩
theorem St.le_froze {S : St} {v : Value} : S.le (S.froze v) := ⟨fun _ _ h => h, fun _ h => .inl h⟩

section
variable {Fr : Fd} {nt : Nat} {S : St} {e : Env} {a : Act} {w : World}

theorem Inv.put (h : Inv Fr nt S e a w) {dst : Option Nat} {v : Option AVal} {u : Value} (hv : ∀ x, v = some x → RepA w S x u) (hd : dstOk nt dst = true) :
    Inv Fr nt S ⟨putV e.t dst v, e.h⟩ (a.put dst u) w := by
  cases dst with
  | none => exact h
  | some d =>
    have hlt : d < a.tmps.size := by
      rw [h.size]; simp only [dstOk, Nat.blt] at hd; exact Nat.le_of_ble_eq_true hd
    have hdf : (a.put (some d) u).defers = a.defers := rfl
    refine { h with defers := hdf.trans h.defers, size := by simp [Act.put, h.size], tmps := ?_ }
    intro t x ht
    by_cases htd : t = d
    · subst htd
      refine ⟨u, by simp [Act.put, hlt], hv x ?_⟩
      cases v with
      | none => simp [putV, AL.get_del] at ht
      | some y => simp [putV, AL.get_set] at ht; rw [ht]
    · have : e.t.get t = some x := by
        cases v with
        | none => simpa [putV, AL.get_del, htd] using ht
        | some y => simpa [putV, AL.get_set, htd] using ht
      obtain ⟨u', h1, h2⟩ := h.tmps t x this
      exact ⟨u', by simp [Act.put, Array.getElem?_setIfInBounds_ne (Ne.symm htd), h1], h2⟩

/-- The world turns where nobody looks. -/
theorem Inv.world (h : Inv Fr nt S e a w) {w' : World} (X : Nat → Prop) (hX : ∀ b, X b → ¬ S.imm b ∧ (Fr.w0.heap.size ≤ b ∨ Fr.pw b) ∧ ∀ n o v, e.h.get n = some o → o.mut = true → S.val n = some v → blk v ≠ some b)
    (hb : ∀ b, b < w.heap.size → ¬ X b → w'.heap[b]? = w.heap[b]?) (hs : w.heap.size ≤ w'.heap.size) (ho : w'.os = w.os) (ht : w'.tape = w.tape) (hout : w'.output = w.output) :
    Inv Fr nt S e a w' := by
  have hk : Keeps S.imm w w' := fun b hi => hb b (h.imm b hi).1 (fun hx => (hX b hx).1 hi)
  refine { h with tmps := fun t v htv => ?_, objs := fun n o hn => ?_, imm := fun b hi => ⟨Nat.lt_of_lt_of_le (h.imm b hi).1 hs, (h.imm b hi).2⟩, frame := fun b hlt hp => ?_, os := ho.trans h.os, tape := ht.trans h.tape, output := hout.trans h.output, grow := Nat.le_trans h.grow hs, glob := h.glob.keep (St.le.refl S) hk }
  · obtain ⟨u, h1, h2⟩ := h.tmps t v htv
    exact ⟨u, h1, h2.keep (St.le.refl S) hk⟩
  · have hr := h.objs n o hn
    refine hr.keep (St.le.refl S) hk fun v b hm hv hbv => ?_
    have hlt : b < w.heap.size := by
      cases o with
      | lst e k xs =>
        obtain ⟨v', flat, h1, h2, _⟩ := hr
        rw [hv] at h1; cases h1
        rcases h2.2 with ⟨rfl, _⟩ | ⟨g, cap, cur, rfl, _, hg, _⟩
        · simp [blk] at hbv
        · simp only [blk, Option.some.injEq] at hbv; subst hbv
          exact (Array.getElem?_eq_some_iff.1 hg).1
      | frz k xs => cases hm
      | box t cs =>
        obtain ⟨b', vs, h1, h2, _⟩ := hr
        rw [hv] at h1; cases h1
        simp only [blk, Option.some.injEq] at hbv; subst hbv
        exact (Array.getElem?_eq_some_iff.1 h2).1
      | dead => cases hm
      | map ka kk va vk es =>
        obtain ⟨b', en, clock, h1, h2, _⟩ := hr
        rw [hv] at h1; cases h1
        simp only [blk, Option.some.injEq] at hbv; subst hbv
        exact (Array.getElem?_eq_some_iff.1 h2).1
    exact hb b hlt fun hx => (hX b hx).2.2 n o v hn hm hv hbv
  · rw [hb b (Nat.lt_of_lt_of_le hlt h.grow) (fun hx => (hX b hx).2.1.elim (fun h1 => by omega) hp)]
    exact h.frame b hlt hp

theorem Inv.alloc (h : Inv Fr nt S e a w) (o : Go.Obj) : Inv Fr nt S e a (w.alloc o) :=
  h.world (fun _ => False) (fun _ hx => hx.elim) (fun b hb _ => heap_alloc_old w o b hb) (by simp) rfl rfl rfl
theorem Inv.drew (h : Inv Fr nt S e a w) : Inv Fr nt S e a { w with drawn := w.drawn + 1 } :=
  h.world (fun _ => False) (fun _ hx => hx.elim) (fun _ _ _ => rfl) (Nat.le_refl _) rfl rfl rfl

/-- More is known. -/
theorem Inv.more (h : Inv Fr nt S e a w) {S' : St} (hS : S.le S') {h' : AL Obj} (objs : ∀ n o, h'.get n = some o → RepO w S' n o) (news : ∀ n, h'.get n = none → S'.val n = none)
    (wr : ∀ n o v b, h'.get n = some o → o.mut = true → S'.val n = some v → blk v = some b → ¬ S'.imm b ∧ (Fr.w0.heap.size ≤ b ∨ Fr.pw b))
    (dis : ∀ n m o p v u b, n ≠ m → h'.get n = some o → h'.get m = some p → o.mut = true → p.mut = true → S'.val n = some v → S'.val m = some u → blk v = some b → blk u ≠ some b)
    (imm : ∀ b, S'.imm b → b < w.heap.size ∧ (Fr.imm0 b ∨ Fr.w0.heap.size ≤ b ∨ Fr.pw b)) : Inv Fr nt S' ⟨e.t, h'⟩ a w :=
  { h with tmps := fun t v ht => let ⟨u, h1, h2⟩ := h.tmps t v ht; ⟨u, h1, h2.keep hS (fun _ _ => rfl)⟩, objs := objs, news := news, wr := wr, dis := dis, imm := imm,
           imm0 := fun b hb => hS.imm b (h.imm0 b hb), own := fun j hj => hS.val _ _ (h.own j hj), glob := h.glob.keep hS (fun _ _ => rfl) }

/-- An object is laid under a name (a new one, or one that stood for nothing any more). -/
theorem Inv.set (h : Inv Fr nt S e a w) {n : Nat} {o : Obj} {v : Value} (hn : S.val n = none ∨ S.val n = some v) (ho : RepO w (S.bind n v) n o)
    (hm : ∀ b, o.mut = true → blk v = some b → ¬ S.imm b ∧ (Fr.w0.heap.size ≤ b ∨ Fr.pw b) ∧ ∀ m p u, m ≠ n → e.h.get m = some p → p.mut = true → S.val m = some u → blk u ≠ some b) :
    Inv Fr nt (S.bind n v) ⟨e.t, e.h.set n o⟩ a w := by
  have hle := St.le_bind hn
  have hv : (S.bind n v).val n = some v := by simp [St.bind]
  have hne : ∀ m, m ≠ n → (S.bind n v).val m = S.val m := fun m hmn => by simp [St.bind, hmn]
  refine h.more hle (fun m p hp => ?_) (fun m hp => ?_) (fun m p u b hp hmu hu hb => ?_) (fun m m' p p' u u' b hmm hp hp' hmu hmu' hu hu' hb => ?_) h.imm
  · rw [AL.get_set] at hp
    split at hp
    · rename_i hmn; subst hmn; cases hp; exact ho
    · exact (h.objs m p hp).keep hle (fun _ _ => rfl) (fun _ _ _ _ _ => rfl)
  · rw [AL.get_set] at hp
    split at hp
    · cases hp
    · rename_i hmn; rw [hne m hmn]; exact h.news m hp
  · rw [AL.get_set] at hp
    split at hp
    · rename_i hmn; subst hmn; cases hp
      rw [hv] at hu; cases hu
      exact ⟨(hm b hmu hb).1, (hm b hmu hb).2.1⟩
    · rename_i hmn; rw [hne m hmn] at hu
      exact h.wr m p u b hp hmu hu hb
  · rw [AL.get_set] at hp hp'
    split at hp
    · rename_i hmn; subst hmn; cases hp
      rw [hv] at hu; cases hu
      rw [if_neg (Ne.symm hmm)] at hp'
      rw [hne m' (Ne.symm hmm)] at hu'
      exact (hm b hmu hb).2.2 m' p' u' (Ne.symm hmm) hp' hmu' hu'
    · rename_i hmn
      rw [hne m hmn] at hu
      split at hp'
      · rename_i hmn'; subst hmn'; cases hp'
        rw [hv] at hu'; cases hu'
        intro hc
        exact (hm b hmu' hc).2.2 m p u hmn hp hmu hu hb
      · rename_i hmn'
        rw [hne m' hmn'] at hu'
        exact h.dis m m' p p' u u' b hmm hp hp' hmu hmu' hu hu' hb

theorem Inv.kill (h : Inv Fr nt S e a w) {n : Nat} {o : Obj} (hn : e.h.get n = some o) : Inv Fr nt S ⟨e.t, e.h.set n .dead⟩ a w := by
  obtain ⟨v, hv⟩ := (h.objs n o hn).val
  have := h.set (o := .dead) (v := v) (.inr hv) ⟨v, by simp [St.bind]⟩ (fun b hm => by cases hm)
  have hS : S.bind n v = S := by
    unfold St.bind; congr 1; funext m; split
    · rename_i e; rw [e, hv]
    · rfl
  rwa [hS] at this

theorem St.bind_same {n : Nat} {v : Value} (hv : S.val n = some v) : S.bind n v = S := by
  unfold St.bind; congr 1; funext m; split
  · rename_i e; rw [e, hv]
  · rfl

theorem RepO.frz_of_lst {n : Nat} {t : TypeId} {k : Kind} {xs : List k.den} (h : RepO w S n (.lst t k xs)) (hk : 0 < k.sz) : ∃ v, S.val n = some v ∧ SlV w (S.froze v).imm k xs v := by
  obtain ⟨v, flat, h1, h2, h3, h4⟩ := h
  refine ⟨v, h1, ?_⟩
  rcases h2.2 with ⟨rfl, h5⟩ | ⟨g, cap, cur, rfl, _, hg, hnc, _, hcs, htake⟩
  · exact ⟨none, 0, 0, rfl, h5.symm, Nat.le_refl _, fun _ => rfl, .inl (List.eq_nil_of_length_eq_zero h5)⟩
  · refine ⟨some ⟨g, 0, none⟩, xs.length, cap, rfl, rfl, hnc, (fun h => by cases h), .inr ⟨g, 0, rfl, .inr rfl, fun i x hx => ?_⟩⟩
    have hlt : i < xs.length := (List.getElem?_eq_some_iff.1 hx).1
    refine (h3 i x hx).keep (fun _ _ => rfl) (fun _ hb => .inl hb) (fun j hj => ?_)
    rw [cell_of_row w g _ cur t (0, 0) hg, ← htake, List.getElem?_take, if_pos (by
      have : (i + 1) * k.sz ≤ xs.length * k.sz := Nat.mul_le_mul_right _ hlt
      rw [Nat.add_mul, Nat.one_mul] at this; omega)]
    simp

theorem Inv.freeze (h : Inv Fr nt S e a w) {n : Nat} {t : TypeId} {k : Kind} {xs : List k.den} (hn : e.h.get n = some (.lst t k xs)) (hk : 0 < k.sz) :
    ∃ v, S.val n = some v ∧ Inv Fr nt (S.froze v) ⟨e.t, e.h.set n (.frz k xs)⟩ a w := by
  obtain ⟨v, hv, hs⟩ := (h.objs n _ hn).frz_of_lst hk
  have hdis : ∀ m p u, m ≠ n → e.h.get m = some p → p.mut = true → S.val m = some u → ∀ b, blk u = some b → blk v ≠ some b := fun m p u hmn hp hmu hu b hb => h.dis m n p (.lst t k xs) u v b hmn hp hn hmu rfl hu hv hb
  refine ⟨v, hv, h.more St.le_froze (fun m p hp => ?_) (fun m hp => ?_) (fun m p u b hp hmu hu hb => ?_) (fun m m' p p' u u' b hmm hp hp' hmu hmu' hu hu' hb => ?_) (fun b hb => ?_)⟩
  · rw [AL.get_set] at hp
    split at hp
    · rename_i hmn; subst hmn; cases hp; exact ⟨v, hv, hs⟩
    · exact (h.objs m p hp).keep St.le_froze (fun _ _ => rfl) (fun _ _ _ _ _ => rfl)
  · rw [AL.get_set] at hp
    split at hp
    · cases hp
    · exact h.news m hp
  · rw [AL.get_set] at hp
    split at hp
    · cases hp; cases hmu
    · rename_i hmn
      have := h.wr m p u b hp hmu hu hb
      exact ⟨fun hc => hc.elim this.1 (hdis m p u hmn hp hmu hu b hb), this.2⟩
  · rw [AL.get_set] at hp hp'
    split at hp
    · cases hp; cases hmu
    · split at hp'
      · cases hp'; cases hmu'
      · exact h.dis m m' p p' u u' b hmm hp hp' hmu hmu' hu hu' hb
  · rcases hb with hb | hb
    · exact h.imm b hb
    · have hw := h.wr n _ v b hn rfl hv hb
      refine ⟨?_, .inr hw.2⟩
      obtain ⟨v', flat, h1, h2, _⟩ := h.objs n _ hn
      rw [hv] at h1; cases h1
      rcases h2.2 with ⟨rfl, _⟩ | ⟨g, cap, cur, rfl, _, hg, _⟩
      · simp [blk] at hb
      · simp only [blk, Option.some.injEq] at hb; subst hb
        exact (Array.getElem?_eq_some_iff.1 hg).1
end
end Go.Eng

namespace Go.Eng

/-! ### What it means to have run -/
theorem RM.run_bind {α β : Type} {h : Nat → Option Obj} : ∀ {m : RM α} {f : α → RM β} {b : β} {F : List Nat}, (m.bind f).run h = some (b, F) →
    ∃ a F1 F2, m.run h = some (a, F1) ∧ (f a).run h = some (b, F2) ∧ F = F1 ++ F2
  | .ret a, f, b, F, H => ⟨a, [], F, rfl, H, rfl⟩
  | .fail, f, b, F, H => by simp [RM.bind, RM.run] at H
  | .look n k, f, b, F, H => by
    simp only [RM.bind, RM.run] at H
    cases hn : h n with
    | none => simp [hn] at H
    | some o =>
      simp only [hn] at H
      cases hk : ((k o).bind f).run h with
      | none => simp [hk] at H
      | some p =>
        obtain ⟨b', F'⟩ := p
        simp only [hk, Option.some.injEq, Prod.mk.injEq] at H
        obtain ⟨rfl, rfl⟩ := H
        obtain ⟨a, F1, F2, h1, h2, rfl⟩ := RM.run_bind hk
        exact ⟨a, n :: F1, F2, by simp [RM.run, hn, h1], h2, rfl⟩
  | .ite c t e, f, b, F, H => by
    simp only [RM.bind, RM.run] at H
    cases c with
    | true => obtain ⟨a, F1, F2, h1, h2, h3⟩ := RM.run_bind (by simpa using H); exact ⟨a, F1, F2, by simpa [RM.run] using h1, h2, h3⟩
    | false => obtain ⟨a, F1, F2, h1, h2, h3⟩ := RM.run_bind (by simpa using H); exact ⟨a, F1, F2, by simpa [RM.run] using h1, h2, h3⟩
  | .bnd o k, f, b, F, H => by
    cases o with
    | none => simp [RM.bind, RM.run] at H
    | some y =>
      simp only [RM.bind, RM.run] at H
      obtain ⟨a, F1, F2, h1, h2, h3⟩ := RM.run_bind H; exact ⟨a, F1, F2, by simpa [RM.run] using h1, h2, h3⟩
theorem RM.run_asks {α : Type} {h : Nat → Option Obj} {b : Bool} {m : RM α} {r : α × List Nat} (H : (RM.asks b m).run h = some r) : b = true ∧ m.run h = some r := by
  cases b <;> simp [RM.asks, RM.run] at H ⊢
  exact H
theorem RM.run_look {α : Type} {h : Nat → Option Obj} {n : Nat} {k : Obj → RM α} {a : α} {F : List Nat} (H : (RM.look n k).run h = some (a, F)) :
    ∃ o F', h n = some o ∧ (k o).run h = some (a, F') ∧ F = n :: F' := by
  simp only [RM.run] at H
  cases hn : h n with
  | none => simp [hn] at H
  | some o =>
    simp only [hn] at H
    cases hk : (k o).run h with
    | none => simp [hk] at H
    | some p =>
      simp only [hk, Option.some.injEq, Prod.mk.injEq] at H
      obtain ⟨rfl, rfl⟩ := H
      exact ⟨o, p.2, rfl, by rw [hk], rfl⟩
theorem RM.run_runK {α R : Type} {h : Nat → Option Obj} : ∀ {m : RM α} {F : List Nat} {K : α → List Nat → Option R} {r : R}, m.runK h F K = some r →
    ∃ a F', m.run h = some (a, F') ∧ K a (F'.reverse ++ F) = some r
  | .ret a, F, K, r, H => ⟨a, [], rfl, by simpa [RM.runK] using H⟩
  | .fail, F, K, r, H => by simp [RM.runK] at H
  | .look n k, F, K, r, H => by
    simp only [RM.runK] at H
    cases hn : h n with
    | none => simp [hn] at H
    | some o =>
      simp only [hn] at H
      obtain ⟨a, F', h1, h2⟩ := RM.run_runK H
      exact ⟨a, n :: F', by simp [RM.run, hn, h1], by simpa using h2⟩
  | .ite c t e, F, K, r, H => by
    simp only [RM.runK] at H
    cases c with
    | true => obtain ⟨a, F', h1, h2⟩ := RM.run_runK (by simpa using H); exact ⟨a, F', by simpa [RM.run] using h1, h2⟩
    | false => obtain ⟨a, F', h1, h2⟩ := RM.run_runK (by simpa using H); exact ⟨a, F', by simpa [RM.run] using h1, h2⟩
  | .bnd o k, F, K, r, H => by
    simp only [RM.runK] at H
    cases o with
    | none => simp at H
    | some y => obtain ⟨a, F', h1, h2⟩ := RM.run_runK (by simpa using H); exact ⟨a, F', by simpa [RM.run] using h1, h2⟩

/-! ### Cells of values -/
section
variable {w : World} {S : St}
theorem RepL.length : ∀ {cs : List Cell} {vs : List Value}, RepL w S cs vs → cs.length = vs.length
  | [], [], _ => rfl
  | _ :: _, _ :: _, h => by simp [RepL.length h.2]
theorem RepL.drop : ∀ (n : Nat) {cs : List Cell} {vs : List Value}, RepL w S cs vs → RepL w S (cs.drop n) (vs.drop n)
  | 0, _, _, h => h
  | _ + 1, [], [], _ => trivial
  | n + 1, _ :: _, _ :: _, h => RepL.drop n h.2
theorem RepL.take : ∀ (n : Nat) {cs : List Cell} {vs : List Value}, RepL w S cs vs → RepL w S (cs.take n) (vs.take n)
  | 0, _, _, _ => trivial
  | _ + 1, [], [], _ => trivial
  | n + 1, _ :: _, _ :: _, h => ⟨h.1, RepL.take n h.2⟩
theorem RepL.append : ∀ {cs ds : List Cell} {vs us : List Value}, RepL w S cs vs → RepL w S ds us → RepL w S (cs ++ ds) (vs ++ us)
  | [], _, [], _, _, h => h
  | _ :: _, _, _ :: _, _, h, k => ⟨h.1, RepL.append h.2 k⟩
theorem RepL.slice {cs : List Cell} {vs : List Value} (h : RepL w S cs vs) (o n : Nat) : RepL w S (sliceC cs o n) ((vs.drop o).take n) := RepL.take n (RepL.drop o h)
theorem RepL.put {cs new : List Cell} {vs us : List Value} (h : RepL w S cs vs) (k : RepL w S new us) (o : Nat) : RepL w S (putC cs o new) (vs.take o ++ (us ++ vs.drop (o + us.length))) := by
  unfold putC
  rw [k.length]
  exact (RepL.take o h).append (k.append (RepL.drop _ h))

theorem SlV.one {k : Kind} {xs : List k.den} {v : Value} (h : SlV w S.imm k xs v) : v.oneCell' = true := by
  obtain ⟨a, len, cap, h, _⟩ := h
  cases h; rfl
/-- A value of a kind, as cells. -/
theorem RepK.cells : ∀ {k : Kind} {x : k.den} {f : Nat → Option Value}, RepK w S.imm k x f →
    ∃ vs : List Value, vs.length = k.sz ∧ (∀ j, j < k.sz → f j = vs[j]?) ∧ RepL w S (emb k x) vs ∧ ∀ u ∈ vs, u.oneCell' = true
  | .int k, n, f, h => ⟨[.int k n], rfl, fun j hj => by (have : j = 0 := by simp [Kind.sz] at hj; exact hj); subst this; exact h, ⟨rfl, trivial⟩, fun u hu => by simp at hu; subst hu; rfl⟩
  | .bool, b, f, h => ⟨[.bool b], rfl, fun j hj => by (have : j = 0 := by simp [Kind.sz] at hj; exact hj); subst this; exact h, ⟨rfl, trivial⟩, fun u hu => by simp at hu; subst hu; rfl⟩
  | .str, s, f, h => ⟨[.string s], rfl, fun j hj => by (have : j = 0 := by simp [Kind.sz] at hj; exact hj); subst this; exact h, ⟨rfl, trivial⟩, fun u hu => by simp at hu; subst hu; rfl⟩
  | .flt, n, f, h => by
    obtain ⟨b, h1, h2⟩ := h
    exact ⟨[.float .f64 b], rfl, fun j hj => by (have : j = 0 := by simp [Kind.sz] at hj; exact hj); subst this; exact h1, ⟨⟨b, rfl, h2⟩, trivial⟩, fun u hu => by simp at hu; subst hu; rfl⟩
  | .sl k, xs, f, h => by
    obtain ⟨a, len, cap, h1, h2⟩ := h
    exact ⟨[.slice a len cap], rfl, fun j hj => by (have : j = 0 := by simp [Kind.sz] at hj; exact hj); subst this; exact h1, ⟨⟨a, len, cap, rfl, h2⟩, trivial⟩, fun u hu => by simp at hu; subst hu; rfl⟩
  | .pair a b, x, f, h => by
    obtain ⟨us, u1, u2, u3, u4⟩ := RepK.cells h.1
    obtain ⟨vs, v1, v2, v3, v4⟩ := RepK.cells h.2
    refine ⟨us ++ vs, by simp [Kind.sz, u1, v1], fun j hj => ?_, u3.append v3, fun u hu => ?_⟩
    · by_cases hlt : j < a.sz
      · rw [u2 j hlt, List.getElem?_append_left (by omega)]
      · have := v2 (j - a.sz) (by simp only [Kind.sz] at hj; omega)
        rw [show a.sz + (j - a.sz) = j by omega] at this
        rw [this, List.getElem?_append_right (by omega), u1]
    · rw [List.mem_append] at hu
      exact hu.elim (u4 u) (v4 u)
/-- Back. -/
theorem RepL.proj : ∀ {k : Kind} {cs : List Cell} {vs : List Value} {x : k.den} {r : List Cell}, RepL w S cs vs → Eng.proj k cs = some (x, r) →
    RepK w S.imm k x (fun j => vs[j]?) ∧ RepL w S r (vs.drop k.sz) ∧ k.sz ≤ vs.length
  | .int k, c :: cs, v :: vs, x, r, h, hp => by
    cases c <;> simp only [Eng.proj] at hp <;> try cases hp
    rename_i k' n
    cases hk : sameI k k' with
    | false => simp [hk] at hp
    | true =>
      simp only [hk, cond_true, Option.some.injEq, Prod.mk.injEq] at hp
      obtain ⟨rfl, rfl⟩ := hp
      have hkk : k = k' := by cases k <;> cases k' <;> first | rfl | cases hk
      subst hkk
      exact ⟨by simp only [RepK]; exact congrArg some h.1, h.2, by simp [Kind.sz]⟩
  | .bool, c :: cs, v :: vs, x, r, h, hp => by
    cases c <;> simp only [Eng.proj] at hp <;> cases hp
    exact ⟨by simp only [RepK]; exact congrArg some h.1, h.2, by simp [Kind.sz]⟩
  | .str, c :: cs, v :: vs, x, r, h, hp => by
    cases c <;> simp only [Eng.proj] at hp <;> cases hp
    exact ⟨by simp only [RepK]; exact congrArg some h.1, h.2, by simp [Kind.sz]⟩
  | .flt, c :: cs, v :: vs, x, r, h, hp => by
    cases c <;> simp only [Eng.proj] at hp <;> cases hp
    obtain ⟨b, hb, hc⟩ := h.1
    exact ⟨⟨b, by simp [hb], hc⟩, h.2, by simp [Kind.sz]⟩
  | .sl k, c :: cs, v :: vs, x, r, h, hp => by
    cases c <;> simp only [Eng.proj] at hp <;> try cases hp
    · rename_i k' xs
      split at hp
      · rename_i hk
        subst hk
        cases hp
        exact ⟨h.1, h.2, by simp [Kind.sz]⟩
      · cases hp
    · have h1 : v = .slice none 0 0 := h.1
      subst h1
      exact ⟨⟨none, 0, 0, rfl, rfl, Nat.le_refl _, fun _ => rfl, .inl rfl⟩, h.2, by simp [Kind.sz]⟩
  | .pair a b, cs, vs, x, r, h, hp => by
    simp only [Eng.proj] at hp
    cases ha : Eng.proj a cs with
    | none => simp [ha] at hp
    | some p =>
      obtain ⟨y, r1⟩ := p
      simp only [ha] at hp
      cases hb : Eng.proj b r1 with
      | none => simp [hb] at hp
      | some q =>
        obtain ⟨z, r2⟩ := q
        simp only [hb, Option.some.injEq, Prod.mk.injEq] at hp
        obtain ⟨rfl, rfl⟩ := hp
        obtain ⟨h1, h2, h3⟩ := RepL.proj h ha
        obtain ⟨k1, k2, k3⟩ := RepL.proj h2 hb
        refine ⟨⟨h1, ?_⟩, by rw [List.drop_drop] at k2; exact k2, by simp at k3; simp only [Kind.sz]; omega⟩
        refine k1.keep (fun _ _ => rfl) (fun _ h => h) (fun j _ => ?_)
        simp
  | .int _, [], _, _, _, _, hp => by simp [Eng.proj] at hp
  | .bool, [], _, _, _, _, hp => by simp [Eng.proj] at hp
  | .str, [], _, _, _, _, hp => by simp [Eng.proj] at hp
  | .flt, [], _, _, _, _, hp => by simp [Eng.proj] at hp
  | .sl _, [], _, _, _, _, hp => by simp [Eng.proj] at hp
theorem RepL.proj1 {k : Kind} {cs : List Cell} {vs : List Value} {x : k.den} (h : RepL w S cs vs) (hp : Eng.proj1 k cs = some x) : RepK w S.imm k x (fun j => vs[j]?) ∧ vs.length = k.sz := by
  unfold Eng.proj1 at hp
  cases hq : Eng.proj k cs with
  | none => simp [hq] at hp
  | some p =>
    obtain ⟨y, r⟩ := p
    cases r with
    | cons c r => simp [hq] at hp
    | nil =>
      simp only [hq, Option.some.injEq] at hp
      subst hp
      obtain ⟨h1, h2, h3⟩ := h.proj hq
      refine ⟨h1, ?_⟩
      have := h2.length
      simp at this; omega
end

/-! ### Cells that name nothing -/
def Cell.plain : Cell → Bool
  | .int .. | .bool .. | .str .. | .flt .. | .sl .. => true
  | _ => false
def Cell.free : Cell → Bool
  | .sl .. | .vptr .. => false
  | _ => true
section
variable {w : World} {S S' : St}
theorem emb_plain : ∀ (k : Kind) (x : k.den), ∀ c ∈ emb k x, c.plain = true ∧ (k.slfree = true → c.free = true)
  | .int _, _, c, h => by simp only [emb, List.mem_singleton] at h; subst h; exact ⟨rfl, fun _ => rfl⟩
  | .bool, _, c, h => by simp only [emb, List.mem_singleton] at h; subst h; exact ⟨rfl, fun _ => rfl⟩
  | .str, _, c, h => by simp only [emb, List.mem_singleton] at h; subst h; exact ⟨rfl, fun _ => rfl⟩
  | .flt, _, c, h => by simp only [emb, List.mem_singleton] at h; subst h; exact ⟨rfl, fun _ => rfl⟩
  | .sl _, _, c, h => by simp only [emb, List.mem_singleton] at h; subst h; exact ⟨rfl, fun hk => by cases hk⟩
  | .pair a b, x, c, h => by
    simp only [emb, List.mem_append] at h
    rcases h with h | h
    · exact ⟨(emb_plain a x.1 c h).1, fun hk => (emb_plain a x.1 c h).2 (by simp only [Kind.slfree, Bool.and_eq_true] at hk; exact hk.1)⟩
    · exact ⟨(emb_plain b x.2 c h).1, fun hk => (emb_plain b x.2 c h).2 (by simp only [Kind.slfree, Bool.and_eq_true] at hk; exact hk.2)⟩
theorem RepC.plain {c : Cell} {v : Value} (hp : c.plain = true) (hi : (∀ b, S.imm b → S'.imm b) ∨ c.free = true) (h : RepC w S c v) : RepC w S' c v := by
  cases c with
  | sl k xs => rcases hi with hi | hi; exact SlV.keep (fun _ _ => rfl) hi h; cases hi
  | int => exact h
  | bool => exact h
  | str => exact h
  | flt => exact h
  | _ => cases hp
theorem RepL.plain : ∀ {cs : List Cell} {vs : List Value}, (∀ c ∈ cs, c.plain = true ∧ ((∀ b, S.imm b → S'.imm b) ∨ c.free = true)) → RepL w S cs vs → RepL w S' cs vs
  | [], [], _, _ => trivial
  | c :: cs, _ :: _, hi, h => ⟨h.1.plain (hi c (by simp)).1 (hi c (by simp)).2, RepL.plain (fun d hd => hi d (by simp [hd])) h.2⟩
theorem RepB.plain {p : Bool × List Cell} {v : Value} (hi : ∀ c ∈ p.2, c.plain = true ∧ ((∀ b, S.imm b → S'.imm b) ∨ c.free = true)) (h : RepB w S p v) : RepB w S' p v := by
  match p, h with
  | (true, cs), ⟨vs, h1, h2⟩ => exact ⟨vs, h1, h2.plain hi⟩
  | (false, [c]), h => exact ⟨h.1.plain (hi c (by simp)).1 (hi c (by simp)).2, h.2⟩
  | (false, []), h => exact h.elim
  | (false, _ :: _ :: _), h => exact h.elim
theorem RepB.emb_imm (hi : ∀ b, S.imm b → S'.imm b) {ag : Bool} {k : Kind} {x : k.den} {v : Value} (h : RepB w S (ag, emb k x) v) : RepB w S' (ag, emb k x) v :=
  h.plain fun c hc => ⟨(emb_plain k x c hc).1, .inl hi⟩
theorem RepB.emb_free {ag : Bool} {k : Kind} (hk : k.slfree = true) {x : k.den} {v : Value} (h : RepB w S (ag, emb k x) v) : RepB w S' (ag, emb k x) v :=
  h.plain fun c hc => ⟨(emb_plain k x c hc).1, .inr ((emb_plain k x c hc).2 hk)⟩
end

/-! ### Types -/
structure Ctx.Ok (C : Ctx) (P : Program) : Prop where
  ty : ∀ t i, C.ty t = some i → tiOf P t = some i
  mixed : P.follows .mixedOrders = true

/-- What a row of the table says. -/
structure TiOk (P : Program) (t : TypeId) (i : TI) : Prop where
  get : ∃ info d z, P.info? t = some info ∧ P.underlying t = some d ∧ info.zero = some z ∧ i.u = UD.of d ∧ i.size = info.size ∧ i.bytes = info.bytes ∧ i.agg = UD.isAgg (UD.of d) ∧
    i.zero = z.cells.toList.map ofValue ∧ (∀ v ∈ z.cells.toList, v.oneCell' = true) ∧ z.cells.size = info.size ∧
    i.fields = (match d with
      | .struct fs => fs.toList.map fun f => (f.type, f.offset, P.cellsOf f.type)
      | .array n e => (List.range n).map fun j => (e, j * P.cellsOf e, P.cellsOf e)
      | _ => []) ∧ partsIn P d = true
theorem tiOk {P : Program} {t : TypeId} {i : TI} (h : tiOf P t = some i) : TiOk P t i := by
  unfold tiOf at h
  cases h1 : P.info? t with
  | none => simp [h1] at h
  | some info =>
    cases h2 : P.underlying t with
    | none => simp [h1, h2] at h
    | some d =>
      simp only [h1, h2] at h
      cases h3 : info.zero with
      | none => simp [h3] at h
      | some z =>
        simp only [h3] at h
        cases h4 : ((z.cells.toList.all (·.oneCell') && Nat.beq z.cells.size info.size) && (partsIn P d && zOk z d)) with
        | false => rw [h4] at h; cases h
        | true =>
          rw [h4] at h
          simp only [cond_true, Option.some.injEq] at h
          simp only [Bool.and_eq_true, List.all_eq_true] at h4
          subst h
          exact ⟨info, d, z, h1, h2, h3, rfl, rfl, rfl, rfl, rfl, h4.1.1, beq_iff.1 h4.1.2, rfl, h4.2.1⟩

theorem ofValue_rep {w : World} {S : St} (v : Value) (h : v.oneCell' = true) : RepC w S (ofValue v) v := by
  cases v with
  | bool b => rfl
  | int k n => rfl
  | float k b =>
    cases k with
    | f32 => exact ⟨.inl rfl, rfl⟩
    | f64 =>
      simp only [ofValue]
      cases hn : (FloatKind.f64.decode b).isNaN with
      | true => exact ⟨.inl rfl, rfl⟩
      | false => exact ⟨b, rfl, by simp [canonF, hn]⟩
  | string s => rfl
  | slice a n c =>
    cases a with
    | some a => exact ⟨.inl rfl, rfl⟩
    | none =>
      cases n with
      | succ n => exact ⟨.inl rfl, rfl⟩
      | zero => cases c with
        | zero => rfl
        | succ c => exact ⟨.inl rfl, rfl⟩
  | agg cs => cases h
  | tuple cs => cases h
  | _ => exact ⟨.inl rfl, rfl⟩
theorem ofValues_rep {w : World} {S : St} : ∀ (vs : List Value), (∀ v ∈ vs, v.oneCell' = true) → RepL w S (vs.map ofValue) vs
  | [], _ => trivial
  | v :: vs, h => ⟨ofValue_rep v (h v (by simp)), ofValues_rep vs fun u hu => h u (by simp [hu])⟩

theorem evalA_rep {Fr : Fd} {nt : Nat} {S : St} {e : Env} {a : Act} {w : World} (h : Inv Fr nt S e a w) {x : Operand} {v : AVal} (hx : evalA e.t.get x = some v) : RepA w S v (a.eval x) := by
  cases x with
  | tmp t =>
    obtain ⟨u, h1, h2⟩ := h.tmps t v hx
    have : a.eval (.tmp t) = u := by simp [Act.eval, h1]
    rw [this]; exact h2
  | const c =>
    simp only [evalA] at hx
    cases c with
    | agg cs =>
      simp only [constA] at hx
      cases hc : cs.toList.all (·.oneCell') with
      | false => rw [hc] at hx; cases hx
      | true =>
        rw [hc] at hx
        simp only [cond_true, Option.some.injEq] at hx
        subst hx
        exact ⟨cs.toList, by simp [Act.eval], ofValues_rep _ (List.all_eq_true.1 hc)⟩
    | tuple cs => cases hx
    | _ => simp only [constA, Option.some.injEq] at hx; subst hx; exact ⟨ofValue_rep _ rfl, rfl⟩
  | global g => simp only [evalA, Option.some.injEq] at hx; subst hx; exact ⟨rfl, rfl⟩
  | func f => simp only [evalA, Option.some.injEq] at hx; subst hx; exact ⟨⟨[], rfl, rfl, fun i n hi => by simp at hi⟩, rfl⟩

theorem AVal.cells_rep {w : World} {S : St} {v : AVal} {u : Value} {b : Bool} {cs : List Cell} (h : RepA w S v u) (hc : v.cells = some (b, cs)) :
    RepL w S cs u.cells.toList ∧ RepB w S (b, cs) u := by
  cases v with
  | c x =>
    simp only [AVal.cells, Option.some.injEq, Prod.mk.injEq] at hc
    obtain ⟨rfl, rfl⟩ := hc
    have : u.cells = #[u] := by
      have := h.2
      cases u <;> first | rfl | cases this
    rw [this]
    exact ⟨⟨h.1, trivial⟩, h⟩
  | agg ds =>
    simp only [AVal.cells, Option.some.injEq, Prod.mk.injEq] at hc
    obtain ⟨rfl, rfl⟩ := hc
    obtain ⟨vs, rfl, h2⟩ := h
    exact ⟨by simpa [Value.cells] using h2, vs, rfl, h2⟩
  | tup l => cases hc

/-- Cells of one's own are single cells, if the struct's are. -/
theorem RepC.one {w : World} {S : St} {c : Cell} {v : Value} (h : RepC w S c v) : v.oneCell' = true := by
  cases c with
  | sl k xs => exact SlV.one h
  | ref n => exact h.2
  | flt n => obtain ⟨b, rfl, _⟩ := h; rfl
  | ptr n o => obtain ⟨b, _, rfl⟩ := h; rfl
  | eptr n sz i o => obtain ⟨b, len, cap, _, _, rfl⟩ := h; rfl
  | vptr k xs i o => obtain ⟨b, p, rfl, _⟩ := h; rfl
  | fn f caps => obtain ⟨vs, rfl, _⟩ := h; rfl
  | opq u => exact h.2
  | int k n => have h1 : v = .int k n := h; subst h1; rfl
  | bool b => have h1 : v = .bool b := h; subst h1; rfl
  | str s => have h1 : v = .string s := h; subst h1; rfl
  | nil => have h1 : v = .slice none 0 0 := h; subst h1; rfl
  | gptr g o => have h1 : v = .pointer (some ⟨g, o, none⟩) := h; subst h1; rfl

theorem RepL.ones {w : World} {S : St} : ∀ {cs : List Cell} {vs : List Value}, RepL w S cs vs → ∀ u ∈ vs, u.oneCell' = true
  | [], [], _, u, hu => by cases hu
  | _ :: _, v :: vs, h, u, hu => by
    rcases List.mem_cons.1 hu with rfl | hu
    · exact h.1.one
    · exact RepL.ones h.2 u hu

/-! ### Loads -/
section
variable {P : Program} {w : World} {S : St}
theorem run_isAgg {t : TypeId} {i : TI} (h : TiOk P t i) : (isAgg t).run P w = .ok i.agg w := by
  obtain ⟨info, d, z, h1, h2, h3, h4, h5, h6, h7, _⟩ := h.get
  rw [h7]
  unfold isAgg
  rw [Sem.run_bind, run_underlying h2 w]
  cases d with
  | float k => cases k <;> rfl
  | _ => rfl
theorem run_size {t : TypeId} {i : TI} (h : TiOk P t i) : (sizeOf t).run P w = .ok i.size w := by
  obtain ⟨info, d, z, h1, h2, h3, h4, h5, _⟩ := h.get
  simp [sizeOf, typeInfo, h1, h5]
/-- What lies at a place is read as what it is. -/
theorem load_at {t : TypeId} {i : TI} (h : TiOk P t i) {b o : Nat} {cs : List Cell} {vs : List Value} {x : AVal} {hp : Nat → Option Obj} {F : List Nat} (hr : RepL w S cs vs) (hn : vs.length = i.size)
    (hc : ∀ (j : Nat) u, vs[j]? = some u → w.cell? ⟨b, o + j, none⟩ = some u) (hx : (aggOr i.agg cs).run hp = some (x, F)) :
    ∃ u, (loadVar t ⟨b, o, none⟩).run P w = .ok u w ∧ RepA w S x u := by
  have hag := run_isAgg (P := P) (w := w) h
  have hsz := run_size (P := P) (w := w) h
  unfold loadVar
  rw [Sem.run_bind, hag]
  simp only [Result.andThen_ok]
  cases ha : i.agg with
  | true =>
    simp only [aggOr, ha, cond_true, RM.run, Option.some.injEq, Prod.mk.injEq] at hx
    obtain ⟨rfl, rfl⟩ := hx
    have hl : (loadCells ⟨b, o, none⟩ vs.length).run P w = .ok vs.toArray w :=
      run_loadCells_list (P := P) w ⟨b, o, none⟩ vs (fun j v hv => by rw [Addr.add_mid]; exact hc j v hv)
    refine ⟨.agg vs.toArray, ?_, vs, rfl, hr⟩
    simp [hsz, ← hn, hl]
  | false =>
    simp only [aggOr, ha, cond_false] at hx
    match cs, vs, hr, hx with
    | [c], [v], hr, hx =>
      simp only [RM.run, Option.some.injEq, Prod.mk.injEq] at hx
      obtain ⟨rfl, rfl⟩ := hx
      refine ⟨v, ?_, hr.1, hr.1.one⟩
      have := hc 0 v rfl
      simp only [Nat.add_zero] at this
      simp [this]
    | [], _, _, hx => simp [RM.run] at hx
    | _ :: _ :: _, _, _, hx => simp [RM.run] at hx

theorem sliceC_len {cs : List Cell} {o n : Nat} (h : o + n ≤ cs.length) : (sliceC cs o n).length = n := by simp [sliceC]; omega

/-- Cells of an element that lies somewhere. -/
theorem load_elem {t : TypeId} {i : TI} (h : TiOk P t i) {k : Kind} {x : k.den} {b p o : Nat} {v : AVal} {hp : Nat → Option Obj} {F : List Nat} {f : Nat → Option Value}
    (hk : RepK w S.imm k x f) (hf : ∀ j, j < k.sz → w.cell? ⟨b, p + j, none⟩ = f j) (ho : o + i.size ≤ k.sz)
    (hx : (aggOr i.agg (sliceC (emb k x) o i.size)).run hp = some (v, F)) : ∃ u, (loadVar t ⟨b, p + o, none⟩).run P w = .ok u w ∧ RepA w S v u := by
  obtain ⟨vs, h1, h2, h3, h4⟩ := hk.cells
  refine load_at h (h3.slice o i.size) (by simp; omega) (fun j u hj => ?_) hx
  have hlt : j < i.size := by
    have := (List.getElem?_eq_some_iff.1 hj).1
    simp at this; omega
  rw [Nat.add_assoc, hf (o + j) (by omega), h2 (o + j) (by omega)]
  rw [List.getElem?_take, if_pos hlt, List.getElem?_drop] at hj
  exact hj

theorem load_ok {C : Ctx} (hC : C.Ok P) {Fr : Fd} (hgl : Fr.gl = C.gl) {nt : Nat} {e : Env} {a : Act} (hI : Inv Fr nt S e a w) {t : TypeId} {p x : AVal} {v : Value} {F : List Nat}
    (hp : RepA w S p v) (hx : (loadA C t p).run e.h.get = some (x, F)) : ∃ u, (Instr.loadAt t v).run P w = .ok u w ∧ RepA w S x u := by
  unfold loadA at hx
  cases hti : C.ty t with
  | none => simp [hti, RM.run] at hx
  | some i =>
    have hok := tiOk (hC.ty t i hti)
    simp only [hti] at hx
    have key : ∀ b o, v = .pointer (some ⟨b, o, none⟩) → ∀ u, (loadVar t ⟨b, o, none⟩).run P w = .ok u w → (Instr.loadAt t v).run P w = .ok u w := by
      rintro b o rfl u hu
      simp [Instr.loadAt, Instr.sureAddr, hu]
    match p, hp, hx with
    | .c (.ptr n o), hp, hx =>
      obtain ⟨b, hv, rfl⟩ := hp.1
      obtain ⟨ob, F', hn, hx, _⟩ := RM.run_look hx
      cases ob with
      | box t' cs =>
        simp only at hx
        obtain ⟨b', vs, h1, h2, h3, _⟩ := hI.objs n _ hn
        rw [hv] at h1; cases h1
        cases hle : Nat.ble (o + i.size) cs.length with
        | false => simp [hle, RM.run] at hx
        | true =>
          simp only [hle, cond_true] at hx
          have hle' := Nat.le_of_ble_eq_true hle
          have hlen := h3.length
          obtain ⟨u, hu, hr⟩ := load_at (b := b) (o := o) hok (h3.slice o i.size) (by simp; omega) (fun j u hj => by
            have hlt : j < i.size := by
              have := (List.getElem?_eq_some_iff.1 hj).1
              simp at this; omega
            rw [List.getElem?_take, if_pos hlt, List.getElem?_drop] at hj
            rw [cell_of_row w b _ _ _ _ h2]
            simpa using hj) hx
          exact ⟨u, key b o rfl u hu, hr⟩
      | _ => simp [RM.run] at hx
    | .c (.eptr n sz j o), hp, hx =>
      obtain ⟨b, len, cap, hv, hj0, rfl⟩ := hp.1
      obtain ⟨ob, F', hn, hy, _⟩ := RM.run_look hx
      cases ob with
      | lst e' k xs =>
        simp only at hy
        cases hc : (Nat.beq k.sz sz && Nat.ble (o + i.size) sz) with
        | false => simp [hc, RM.run] at hy
        | true =>
          simp only [hc, cond_true] at hy
          obtain ⟨hd, hz⟩ := RM.run_asks hy
          simp only [Bool.and_eq_true] at hc
          have hsz := beq_iff.1 hc.1
          subst hsz
          have hle := Nat.le_of_ble_eq_true hc.2
          have hlt : j.toNat < xs.length := by have := of_decide_eq_true hd; omega
          obtain ⟨v', flat, h1, h2, h3, _⟩ := hI.objs n _ hn
          rw [hv] at h1; cases h1
          have hrd : xs[j.toNat]? = some (rd k xs j) := by simp [rd, List.getD, List.getElem?_eq_getElem hlt]
          have hcell : ∀ c, c < k.sz → w.cell? ⟨b, j.toNat * k.sz + c, none⟩ = flat[j.toNat * k.sz + c]? := fun c hc => by
            rcases h2.2 with ⟨h, _⟩ | ⟨g, cap', cur, h, _, hg, _, _, _, htake⟩
            · cases h
            · cases h
              rw [cell_of_row w b _ cur e' (0, 0) hg, ← htake, List.getElem?_take, if_pos (by
                have : (j.toNat + 1) * k.sz ≤ xs.length * k.sz := Nat.mul_le_mul_right _ hlt
                rw [Nat.add_mul, Nat.one_mul] at this; omega)]
              simp
          obtain ⟨u, hu, hr⟩ := load_elem (b := b) (p := j.toNat * k.sz) hok (h3 _ _ hrd) hcell hle hz
          exact ⟨u, key _ _ rfl u hu, hr⟩
      | _ => simp [RM.run] at hy
    | .c (.vptr k xs j o), hp, hx =>
      obtain ⟨b, q, rfl, him, hj0, hlt, h5⟩ := hp.1
      cases hle : Nat.ble (o + i.size) k.sz with
      | false => simp [hle, RM.run] at hx
      | true =>
        simp only [hle, cond_true] at hx
        have hrd : xs[j.toNat]? = some (rd k xs j) := by simp [rd, List.getD, List.getElem?_eq_getElem hlt]
        obtain ⟨u, hu, hr⟩ := load_elem (b := b) (p := q + j.toNat * k.sz) hok (h5 _ _ hrd) (fun _ _ => rfl) (Nat.le_of_ble_eq_true hle) hx
        exact ⟨u, key _ _ rfl u hu, hr⟩
    | .c (.gptr g o), hp, hx =>
      have hv : v = .pointer (some ⟨g, o, none⟩) := hp.1
      subst hv
      cases hg : C.gl g with
      | none => simp [hg, RM.run] at hx
      | some cs =>
        simp only [hg] at hx
        cases hle : Nat.ble (o + i.size) cs.length with
        | false => simp [hle, RM.run] at hx
        | true =>
          simp only [hle, cond_true] at hx
          obtain ⟨_, vs, h3', _, h5, _⟩ := hI.glob g cs (by rw [hgl]; exact hg)
          have h3 : RepL w S cs vs := RepL.keep (S := ⟨fun _ => none, S.imm⟩) (S' := S) ⟨(fun _ _ h => nomatch h), fun _ h => h⟩ (fun _ _ => rfl) h3'
          have hlen := h3.length
          have hle' := Nat.le_of_ble_eq_true hle
          obtain ⟨u, hu, hr⟩ := load_at (b := g) (o := o) hok (h3.slice o i.size) (by simp; omega) (fun j u hj => by
            have hlt : j < i.size := by
              have := (List.getElem?_eq_some_iff.1 hj).1
              simp at this; omega
            rw [List.getElem?_take, if_pos hlt, List.getElem?_drop] at hj
            exact h5 _ _ hj) hx
          exact ⟨u, key _ _ rfl u hu, hr⟩
    | .c (.int ..), _, hx | .c (.bool _), _, hx | .c (.str _), _, hx | .c (.flt _), _, hx | .c (.sl ..), _, hx | .c .nil, _, hx | .c (.ref _), _, hx | .c (.fn ..), _, hx | .c (.opq _), _, hx | .agg _, _, hx | .tup _, _, hx =>
      simp [RM.run] at hx
end

end Go.Eng

namespace Go.Eng

/-! ### Lists of one's own -/
section
variable {P : Program} {w : World}
/-- append, with where the row lies then. -/
theorem run_append (t ty e : TypeId) (i : TypeInfo) (z : Value) (size bytes : Nat) (ht : P.underlying t = some (.slice e)) (hi : P.info? e = some i) (hz : i.zero = some z)
    (hsize : i.size = size) (hby : i.bytes = bytes) (hzs : z.cells.size = size) (hsz : 0 < size)
    (v : Value) (n : Nat) (xs : List Value) (hown : w.ownsRow 0 e size v n xs) (x : Value) (m : Nat) (news : List Value)
    (hx : (x = .slice none 0 0 ∧ m = 0 ∧ news = []) ∨ ∃ a c, x = .slice (some a) m c ∧ news.length = m * size ∧ ∀ (j : Nat) u, news[j]? = some u → w.cell? (a.add j) = some u)
    (h1 : ∀ u ∈ news, u.oneCell' = true) (h63 : n + m ≤ maxLen) (hbytes : (n + m) * bytes ≤ 140737488355328) :
    ∃ v' w', (Builtin.append_ #[t, t] ty #[v, x]).run P w = .ok v' w' ∧ w'.ownsRow 0 e size v' (n + m) (xs ++ news) ∧ w.grownBy w' v.ownBlock ∧ ∀ b, blk v' = some b → blk v = some b ∨ w.heap.size ≤ b := by
  rcases hx with ⟨rfl, rfl, rfl⟩ | ⟨a, c, rfl, hl, hnews⟩
  · refine ⟨v, w, run_append_owned_none w 0 t ty e i size ht hi v n xs hown, by simpa using hown, ⟨rfl, rfl, rfl, Nat.le_refl _, fun _ _ _ => rfl⟩, fun b hb => .inl hb⟩
  · obtain ⟨v', w', hr, h2, h3, h4⟩ := run_append_own (P := P) w 0 t ty e i z size bytes ht hi hz hsize hby hzs hsz v n xs hown a m c news hl hnews h1 h63 hbytes (Nat.zero_le _)
    refine ⟨v', w', hr, h2, h3, fun b hb => ?_⟩
    subst hsize
    rcases hown.2 with ⟨rfl, rfl⟩ | ⟨g, cap, cur, rfl, hbg, hg, hnc, hcm, hcs, htake⟩
    · by_cases hm : m = 0
      · rw [(h4.2 ⟨rfl, hm⟩)] at hb; simp [blk] at hb
      · have hr' := run_append_nil (P := P) w t ty e i z ht hi hz a m c news hl hnews (by omega) (by simp only [maxLen] at h63; omega) (by rw [hby]; have hb := hbytes; simp only [Nat.zero_add] at hb; omega)
        rw [hr] at hr'
        injection hr' with e1 e2
        subst e1
        simp only [blk, Option.some.injEq] at hb
        exact .inr (by omega)
    · by_cases hroom : n + m ≤ cap
      · have hfit : n * i.size + news.length ≤ cur.size := by rw [hl, hcs, ← Nat.add_mul]; exact Nat.mul_le_mul_right _ hroom
        have hr' := run_append_room (P := P) w t ty e i ht hi g n cap cur hg a m c news hl hnews h1 hroom hfit
        rw [hr] at hr'
        injection hr' with e1 e2
        subst e1
        exact .inl hb
      · have holds : ∀ (j : Nat) u, xs[j]? = some u → w.cell? ((⟨g, 0, none⟩ : Addr).add j) = some u := hown.cells (g := g) rfl
        have hr' := run_append_grow (P := P) w t ty e i z ht hi hz ⟨g, 0, none⟩ n cap xs hown.1 holds a m c news hl hnews (by omega) (by simp only [maxLen] at h63; omega) (by rw [hby]; exact growslice_fits (by omega) hbytes)
        rw [hr] at hr'
        injection hr' with e1 e2
        subst e1
        simp only [blk, Option.some.injEq] at hb
        exact .inr (by omega)

theorem splice_get {α : Type} (l us : List α) (o : Nat) (ho : o ≤ l.length) (j : Nat) :
    (l.take o ++ (us ++ l.drop (o + us.length)))[j]? = if j < o then l[j]? else if j < o + us.length then us[j - o]? else l[j]? := by
  have e : (l.take o).length = o := by simp; omega
  by_cases h1 : j < o
  · rw [if_pos h1, List.getElem?_append_left (by omega), List.getElem?_take, if_pos h1]
  · rw [if_neg h1, List.getElem?_append_right (by omega), e]
    by_cases h2 : j < o + us.length
    · rw [if_pos h2, List.getElem?_append_left (by omega)]
    · rw [if_neg h2, List.getElem?_append_right (by omega), List.getElem?_drop]
      congr 1; omega

/-- A list's cells, written in a stretch. -/
theorem ownsRow_setRow {e : TypeId} {size n cap g : Nat} {xs : List Value} {cur : Array Value} (h : w.ownsRow 0 e size (.slice (some ⟨g, 0, none⟩) n cap) n xs) (hg : w.heap[g]? = some (.cells cur e (0, 0)))
    (o : Nat) (us : List Value) (ho : o + us.length ≤ n * size) :
    (w.setRow g (cur.toList.take o ++ us ++ cur.toList.drop (o + us.length)).toArray).ownsRow 0 e size (.slice (some ⟨g, 0, none⟩) n cap) n (xs.take o ++ (us ++ xs.drop (o + us.length))) := by
  rcases h.2 with ⟨h', _⟩ | ⟨g', cap', cur', h', hb, hg', hnc, hcm, hcs, htake⟩
  · cases h'
  · cases h'
    rw [hg] at hg'; cases hg'
    have hle : n * size ≤ cur.size := by rw [hcs]; exact Nat.mul_le_mul_right _ hnc
    have hl := h.1
    refine ⟨by simp [hl]; omega, .inr ⟨g, cap, _, rfl, hb, setRow_heap w g cur _ e _ hg, hnc, hcm, ?_, ?_⟩⟩
    · simp; omega
    · simp only
      apply List.ext_getElem?
      intro j
      rw [List.getElem?_take, List.append_assoc, splice_get _ _ _ (by simp; omega), splice_get _ _ _ (by omega)]
      by_cases hj : j < n * size
      · have hx : xs[j]? = cur.toList[j]? := by rw [← htake, List.getElem?_take, if_pos hj]
        rw [if_pos hj, hx]
      · have hx : xs[j]? = none := List.getElem?_eq_none (by omega)
        rw [if_neg hj, hx, if_neg (by omega), if_neg (by omega)]
end

/-! ### The invariant across writes -/
section
variable {Fr : Fd} {nt : Nat} {S : St} {e : Env} {a : Act} {w : World}
theorem Inv.congr (h : Inv Fr nt S e a w) {h' : AL Obj} (hh : ∀ n, h'.get n = e.h.get n) : Inv Fr nt S ⟨e.t, h'⟩ a w :=
  { h with objs := fun n o hn => h.objs n o (by rw [← hh]; exact hn), news := fun n hn => h.news n (by rw [← hh]; exact hn),
           wr := fun n o v b hn => h.wr n o v b (by rw [← hh]; exact hn), dis := fun n m o p v u b hne hn hm => h.dis n m o p v u b hne (by rw [← hh]; exact hn) (by rw [← hh]; exact hm) }
/-- An object's own block is written: the world elsewhere is as it was. -/
theorem Inv.rewrite (h : Inv Fr nt S e a w) {n : Nat} {o o' : Obj} {v : Value} {b : Nat} (hn : e.h.get n = some o) (hm : o.mut = true) (hv : S.val n = some v) (hbv : blk v = some b) {w' : World}
    (hb : ∀ k, k ≠ b → w'.heap[k]? = w.heap[k]?) (hs : w'.heap.size = w.heap.size) (ho : w'.os = w.os) (ht : w'.tape = w.tape) (hout : w'.output = w.output)
    (hr : RepO w' S n o') : Inv Fr nt S ⟨e.t, e.h.set n o'⟩ a w' := by
  have hw := h.wr n o v b hn hm hv hbv
  have hd : ∀ m p u, m ≠ n → e.h.get m = some p → p.mut = true → S.val m = some u → blk u ≠ some b := fun m p u hmn hp hpm hu hc => h.dis m n p o u v b hmn hp hn hpm hm hu hv hc hbv
  have h1 := h.kill hn
  have h2 := h1.world (w' := w') (fun k => k = b) (fun k hk => by
    subst hk
    refine ⟨hw.1, hw.2, fun m p u hp hpm hu => ?_⟩
    rw [AL.get_set] at hp
    split at hp
    · cases hp; cases hpm
    · rename_i hmn; exact hd m p u hmn hp hpm hu) (fun k _ hk => hb k hk) (by omega) ho ht hout
  have h3 := h2.set (n := n) (o := o') (v := v) (.inr hv) (by rw [St.bind_same hv]; exact hr) (fun k _ hk => by
    rw [hbv] at hk; cases hk
    refine ⟨hw.1, hw.2, fun m p u hmn hp hpm hu => ?_⟩
    rw [AL.get_set, if_neg hmn] at hp
    exact hd m p u hmn hp hpm hu)
  rw [St.bind_same hv] at h3
  refine h3.congr fun m => ?_
  simp only [AL.get_set]
  split <;> rfl

/-- A new object in a new block. -/
theorem Inv.new (h : Inv Fr nt S e a w) {n : Nat} (hn : e.h.get n = none) {o : Obj} {v : Value} {obj : Go.Obj} (hb : blk v = some w.heap.size) (ho : RepO (w.alloc obj) (S.bind n v) n o) :
    Inv Fr nt (S.bind n v) ⟨e.t, e.h.set n o⟩ a (w.alloc obj) := by
  refine (h.alloc obj).set (.inl (h.news n hn)) ho fun b _ hbv => ?_
  rw [hb] at hbv; cases hbv
  refine ⟨fun hi => Nat.lt_irrefl _ (h.imm _ hi).1, .inl h.grow, fun m p u _ hp hm hu hc => ?_⟩
  have hr := h.objs m p hp
  cases p with
  | lst t k xs =>
    obtain ⟨v', flat, h1, h2, _⟩ := hr
    rw [hu] at h1; cases h1
    rcases h2.2 with ⟨rfl, _⟩ | ⟨g, cap, cur, rfl, _, hg, _⟩
    · simp [blk] at hc
    · simp only [blk, Option.some.injEq] at hc
      have := (Array.getElem?_eq_some_iff.1 hg).1; omega
  | box t cs =>
    obtain ⟨b', vs, h1, h2, _⟩ := hr
    rw [hu] at h1; cases h1
    simp only [blk, Option.some.injEq] at hc
    have := (Array.getElem?_eq_some_iff.1 h2).1; omega
  | map ka kk va vk es =>
    obtain ⟨b', en, clock, h1, h2, _⟩ := hr
    rw [hu] at h1; cases h1
    simp only [blk, Option.some.injEq] at hc
    have := (Array.getElem?_eq_some_iff.1 h2).1; omega
  | _ => cases hm
end

/-! ### What an operation has to do -/
def Did (P : Program) (Fr : Fd) (nt : Nat) (o : Oper) (e : Env) (a : Act) (w : World) (r : Res) : Prop :=
  ∀ (K : Act → World → Prop) (Q : Exit → Act → World → Prop), (∀ u w' S', (∀ x, r.v = some x → RepA w' S' x u) → Inv Fr nt S' ⟨e.t, setAll r.news (setAll r.ups e.h)⟩ a w' → K (a.put o.dst u) w') → o.wp P a w K Q

section
variable {P : Program} {Fr : Fd} {nt : Nat} {S : St} {o : Oper} {e : Env} {a : Act} {w : World} {r : Res}
theorem did_value {v : Value} {w' : World} {S' : St} (hr : (execOp a.eval o).run P w = .ok (.value v) w') (hv : ∀ x, r.v = some x → RepA w' S' x v)
    (hI : Inv Fr nt S' ⟨e.t, setAll r.news (setAll r.ups e.h)⟩ a w') : Did P Fr nt o e a w r := fun K Q hK => by
  unfold Oper.wp; rw [hr]; exact hK v w' S' hv hI
theorem did_skip {w' : World} {S' : St} (hr : (execOp a.eval o).run P w = .ok .skip w') (hv : r.v = none)
    (hI : Inv Fr nt S' ⟨e.t, setAll r.news (setAll r.ups e.h)⟩ a w') : Did P Fr nt o e a w r := fun K Q hK => by
  unfold Oper.wp; rw [hr]; exact hK undef w' S' (fun x hx => by rw [hv] at hx; cases hx) hI
/-- It only answers. -/
theorem did_pure (hI : Inv Fr nt S e a w) {v : Value} {x : AVal} (hr : (execOp a.eval o).run P w = .ok (.value v) w) (hx : RepA w S x v) : Did P Fr nt o e a w ⟨some x, [], []⟩ :=
  did_value hr (fun y hy => by cases hy; exact hx) hI
end

/-! ### Freezing -/
section
variable {Fr : Fd} {nt : Nat} {S : St} {e : Env} {a : Act} {w : World}
theorem Kind.sz_pos : ∀ (k : Kind), 0 < k.sz
  | .pair a b => by have := Kind.sz_pos a; simp only [Kind.sz]; omega
  | .int _ | .bool | .str | .flt | .sl _ => by simp [Kind.sz]
/-- Some lists of e0 are frozen in h. -/
def Fz (h0 h : AL Obj) : Prop := ∀ n, h.get n = h0.get n ∨ ∃ t k xs, h0.get n = some (.lst t k xs) ∧ h.get n = some (.frz k xs)
theorem Inv.fz1 {h0 : AL Obj} (hI : Inv Fr nt S e a w) (hf : Fz h0 e.h) {n : Nat} {t : TypeId} {k : Kind} {xs : List k.den} (hn : h0.get n = some (.lst t k xs)) :
    ∃ S', S.le S' ∧ Inv Fr nt S' ⟨e.t, e.h.set n (.frz k xs)⟩ a w ∧ Fz h0 (e.h.set n (.frz k xs)) := by
  have hz : Fz h0 (e.h.set n (.frz k xs)) := fun m => by
    rw [AL.get_set]
    split
    · rename_i hm; subst hm; exact .inr ⟨t, k, xs, hn, rfl⟩
    · exact hf m
  rcases hf n with h1 | ⟨t', k', xs', h1, h2⟩
  · rw [hn] at h1
    obtain ⟨v, _, h3⟩ := hI.freeze h1 k.sz_pos
    exact ⟨_, St.le_froze, h3, hz⟩
  · rw [hn] at h1; cases h1
    exact ⟨S, St.le.refl S, hI.congr (fun m => by rw [AL.get_set]; split; rename_i hm; subst hm; exact h2.symm; rfl), hz⟩

theorem valL_rep {h0 : AL Obj} : ∀ {cs ds : List Cell} {vs : List Value} {ups : List (Nat × Obj)} {F : List Nat} {S : St} {h : AL Obj}, Inv Fr nt S ⟨e.t, h⟩ a w → Fz h0 h → RepL w S cs vs → (valL cs).run h0.get = some ((ds, ups), F) →
    ∃ S', S.le S' ∧ Inv Fr nt S' ⟨e.t, setAll ups h⟩ a w ∧ Fz h0 (setAll ups h) ∧ RepL w S' ds vs
  | [], ds, vs, ups, F, S, h, hI, hf, hr, hx => by
    simp only [valL, RM.run, Option.some.injEq, Prod.mk.injEq] at hx
    obtain ⟨⟨rfl, rfl⟩, _⟩ := hx
    exact ⟨S, St.le.refl S, hI, hf, hr⟩
  | c :: cs, ds, v :: vs, ups, F, S, h, hI, hf, hr, hx => by
    simp only [valL] at hx
    obtain ⟨⟨c', u1⟩, F1, F2, h1, h2, _⟩ := RM.run_bind hx
    obtain ⟨⟨ds', u2⟩, F3, F4, h3, h4, _⟩ := RM.run_bind h2
    simp only [RM.run, Option.some.injEq, Prod.mk.injEq] at h4
    obtain ⟨⟨rfl, rfl⟩, _⟩ := h4
    have hset : ∀ (u1 u2 : List (Nat × Obj)) (h : AL Obj), setAll (u1 ++ u2) h = setAll u2 (setAll u1 h) := fun u1 => by
      induction u1 with
      | nil => intro u2 h; rfl
      | cons p u1 ih => intro u2 h; obtain ⟨n, o⟩ := p; simp [setAll, ih]
    have hone : ∃ S', S.le S' ∧ Inv Fr nt S' ⟨e.t, setAll u1 h⟩ a w ∧ Fz h0 (setAll u1 h) ∧ RepC w S' c' v := by
      have same : (c', u1) = (c, []) → ∃ S', S.le S' ∧ Inv Fr nt S' ⟨e.t, setAll u1 h⟩ a w ∧ Fz h0 (setAll u1 h) ∧ RepC w S' c' v := fun hc => by
        cases hc; exact ⟨S, St.le.refl S, hI, hf, hr.1⟩
      cases c with
      | ref n =>
        simp only [valC] at h1
        obtain ⟨ob, F', hn, h1, _⟩ := RM.run_look h1
        cases ob with
        | lst t k xs =>
          simp only [RM.run, Option.some.injEq, Prod.mk.injEq] at h1
          obtain ⟨⟨rfl, rfl⟩, _⟩ := h1
          obtain ⟨S', hle, hI', hf'⟩ := hI.fz1 hf hn
          refine ⟨S', hle, hI', hf', ?_⟩
          obtain ⟨v', hv', hs⟩ := hI'.objs n (.frz k xs) (by simp [AL.get_set])
          have : S'.val n = some v := hle.val _ _ hr.1.1
          rw [hv'] at this; cases this
          exact hs
        | frz k xs =>
          simp only [RM.run, Option.some.injEq, Prod.mk.injEq] at h1
          obtain ⟨⟨rfl, rfl⟩, _⟩ := h1
          refine ⟨S, St.le.refl S, hI, hf, ?_⟩
          rcases hf n with hq | ⟨t, k', xs', hq, _⟩
          · obtain ⟨v', hv', hs⟩ := hI.objs n (.frz k xs) (hq.trans hn)
            rw [hr.1.1] at hv'; cases hv'
            exact hs
          · rw [hn] at hq; cases hq
        | _ => simp [RM.run] at h1
      | _ => simp only [valC, RM.run, Option.some.injEq, Prod.mk.injEq] at h1; exact same (by rw [h1.1.1, h1.1.2])
    obtain ⟨S1, l1, I1, f1, r1⟩ := hone
    obtain ⟨S2, l2, I2, f2, r2⟩ := valL_rep I1 f1 (hr.2.keep l1 (fun _ _ => rfl)) h3
    refine ⟨S2, l1.trans l2, by rw [hset]; exact I2, by rw [hset]; exact f2, r1.keep l2 (fun _ _ => rfl), r2⟩
theorem Fz.refl (h : AL Obj) : Fz h h := fun _ => .inl rfl
theorem setAll_append (u1 u2 : List (Nat × Obj)) (h : AL Obj) : setAll (u1 ++ u2) h = setAll u2 (setAll u1 h) := by
  induction u1 generalizing h with
  | nil => rfl
  | cons p u1 ih => obtain ⟨n, o⟩ := p; simp [setAll, ih]
end
end Go.Eng
