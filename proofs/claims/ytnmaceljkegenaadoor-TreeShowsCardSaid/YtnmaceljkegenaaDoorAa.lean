/-
  A plain machine for Go code: data without addresses, memory by names, one order. The evaluator.
-/
import Derived.Calls
import Derived.Still
import Derived.Orders
import Derived.Laws.Sem
namespace Go.Proofs.YtnmaceljkegenaaDoor
set_option linter.unusedVariables false

/-- the types of plain data -/
inductive Ty where
  | unit
  | bool
  | int (k : IntKind)
  | str
  | list (t : Ty)
  | pair (a b : Ty)
  deriving DecidableEq

@[reducible] def Ty.den : Ty → Type
  | .unit => Unit
  | .bool => Bool
  | .int _ => Int
  | .str => List UInt8
  | .list t => List t.den
  | .pair a b => a.den × b.den

def Ty.dflt : (t : Ty) → t.den
  | .unit => ()
  | .bool => false
  | .int _ => 0
  | .str => []
  | .list _ => []
  | .pair a b => (a.dflt, b.dflt)

/-- cells -/
def Ty.size : Ty → Nat
  | .unit => 0
  | .pair a b => a.size + b.size
  | _ => 1

def Ty.isAgg : Ty → Bool
  | .unit => true
  | .pair _ _ => true
  | _ => false

def castTy {t' : Ty} (t : Ty) (x : t'.den) : Option t.den := if h : t' = t then some (cast (congrArg Ty.den h) x) else none

/-- are two data the same? (lists are not compared) -/
def Ty.same : (t : Ty) → t.den → t.den → Bool
  | .unit, _, _ => true
  | .bool, x, y => x == y
  | .int _, x, y => x == y
  | .str, x, y => x == y
  | .list _, _, _ => false
  | .pair a b, x, y => a.same x.1 y.1 && b.same x.2 y.2

def Ty.comparable : Ty → Bool
  | .list _ => false
  | .pair a b => a.comparable && b.comparable
  | _ => true

/-- part of a text or row -/
def sub {α : Type} (l : List α) (lo hi : Int) : List α := (l.take hi.toNat).drop lo.toNat

inductive AVal where
  | undef
  | val (t : Ty) (x : t.den)
  | nils
  | nilp
  | nilfn
  | tup (l : List AVal)
  | agg (l : List AVal)
  /-- an address in memory that is never written, and what stands there -/
  | cellp (t : Ty) (x : t.den)
  /-- an address in a block of our own -/
  | ptr (id off : Nat)
  /-- a slice of our own -/
  | slc (id ver : Nat) (view : Option (Int × Int))
  /-- the address of an element of a slice of our own -/
  | ep (id ver : Nat) (i : Nat) (off : Nat)
  | fn (f : FuncId) (caps : List AVal)
  /-- a method with its receiver -/
  | mfn (f : FuncId) (fst : List AVal)
  /-- a table of our own -/
  | mpv (id : Nat)
  /-- the rest of a range over a function -/
  | yld (id : Nat)
  /-- an empty slice without room -/
  | emp
  /-- a list, and whether it is nil -/
  | lst (t : Ty) (x : List t.den) (nil : Bool)
  /-- nil, or the address of a block of our own -/
  | slf (id : Nat)
  /-- the address of a slice's first element; of an empty slice: whatever -/
  | sd (id ver : Nat)

/-- how a piece of code is left -/
inductive Ex where
  | normal
  | exit (id : Nat)
  | goto (l : Nat)
  | ret

inductive AObj where
  | box (t : TypeId) (cells : List AVal)
  | arr (t : Ty) (ver : Nat) (xs : List t.den)
  /-- a range over a function: the frame's slots, the variables, the round's text and its name, if it is known by one; 0: it goes on, 1: stopped, by an exit; 2: within a round -/
  | lp (f : FuncId) (fr : List AVal) (ps : List Nat) (asg bd : Code) (key : Option Nat) (state : Nat) (pend : Option Ex)
  | dead
  /-- a table of numbers by numbers -/
  | mp (kk vk : IntKind) (es : List (Int × Int))

abbrev Heap := List (Nat × AObj)

def hget : Heap → Nat → Option AObj
  | [], _ => none
  | (k, o) :: h, i => bif k == i then some o else hget h i

def hset : Heap → Nat → AObj → Heap
  | [], _, _ => []
  | (k, o) :: h, i, o' => bif k == i then (k, o') :: h else (k, o) :: hset h i o'

structure St where
  fr : List AVal
  stk : List (List AVal)
  hp : Heap
  nxt : Nat

/-- what is known of a type of the program -/
inductive TK where
  | bool | str | other
  | int (k : IntKind)
  | slice (e : TypeId)
  | struct (fs : List (Nat × TypeId))
  | fn
  | ptr (e : TypeId)
  | map (k e : TypeId)
structure TI where
  known : Bool
  k : TK
  size : Nat
  bytes : Nat
  ty : Option Ty
  zero : List AVal
  /-- may be held against one another, part by part -/
  eq : Bool
  /-- a builder of texts -/
  bld : Bool := false
  /-- are nil lists in it to stay nil? (else a struct with such becomes a datum) -/
  keep : Bool := false

instance : Inhabited TI := ⟨⟨false, .other, 0, 0, none, [], false, false, false⟩⟩

/-- the table of the types -/
inductive TT where
  | nil
  | node (k : Nat) (i : TI) (l r : TT)

def TT.at : TT → TypeId → TI
  | .nil, _ => default
  | .node k i l r, t => bif Nat.beq k t then i else bif Nat.blt t k then l.at t else r.at t

def TI.isAgg (i : TI) : Bool := match i.k with | .struct _ => true | _ => false

/-- the cells of a datum -/
def flat : (t : Ty) → t.den → List AVal
  | .unit, _ => []
  | .pair a b, x => flat a x.1 ++ flat b x.2
  | .bool, x => [.val .bool x]
  | .int k, x => [.val (.int k) x]
  | .str, x => [.val .str x]
  | .list t, x => [.val (.list t) x]

/-- a value as cells -/
def AVal.cells : AVal → Option (List AVal)
  | .val t x => some (flat t x)
  | .agg l => some l
  | .undef => none
  | .tup _ => none
  | v => some [v]

/-- a leaf of a datum out of its cell -/
def leaf (t : Ty) : AVal → Option t.den
  | .val t' x => castTy t x
  | .nils => match t with | .list _ => some [] | _ => none
  | _ => none

/-- a datum out of cells -/
def mk : (t : Ty) → List AVal → Option (t.den × List AVal)
  | .unit, l => some ((), l)
  | .pair a b, l =>
    match mk a l with
    | some (x, l1) => match mk b l1 with
      | some (y, l2) => some ((x, y), l2)
      | none => none
    | none => none
  | .bool, c :: l => match leaf .bool c with | some x => some (x, l) | none => none
  | .int k, c :: l => match leaf (.int k) c with | some x => some (x, l) | none => none
  | .str, c :: l => match leaf .str c with | some x => some (x, l) | none => none
  | .list t, c :: l => match leaf (.list t) c with | some x => some (x, l) | none => none
  | _, [] => none

def mkAll (t : Ty) (l : List AVal) : Option t.den :=
  match mk t l with
  | some (x, []) => some x
  | _ => none

def AVal.isNils : AVal → Bool
  | .nils => true
  | _ => false

/-- the value of cells, at a type -/
def norm (i : TI) (l : List AVal) : AVal :=
  match i.k with
  | .struct _ => match i.ty with
    | some t => match mkAll t l with
      | some x => bif i.keep && l.any AVal.isNils then .agg l else .val t x
      | none => .agg l
    | none => .agg l
  | _ => match l with
    | [v] => v
    | _ => .undef

def viewOf {α : Type} (xs : List α) : Option (Int × Int) → List α
  | none => xs
  | some (lo, hi) => sub xs lo hi

/-- the content of a slice of our own -/
def content (hp : Heap) (t : Ty) (id ver : Nat) (vw : Option (Int × Int)) : Option (List t.den) :=
  match hget hp id with
  | some (.arr t' v xs) => bif v == ver then (match castTy (.list t) (t' := .list t') xs with | some ys => some (viewOf ys vw) | none => none) else none
  | _ => none

/-- a value as a datum -/
def AVal.as (hp : Heap) (t : Ty) : AVal → Option t.den
  | .val t' x => castTy t x
  | .nils => match t with | .list _ => some [] | _ => none
  | .emp => match t with | .list _ => some [] | _ => none
  | .lst e xs _ => castTy (t' := .list e) t xs
  | .slc id ver vw => match t with | .list e => content hp e id ver vw | _ => none
  | .agg l => bif t.isAgg then mkAll t l else none
  | _ => none

/-- the field of a datum -/
def fieldOf : (t : Ty) → t.den → Nat → AVal
  | .pair a _, x, 0 => .val a x.1
  | .pair _ b, x, n + 1 => fieldOf b x.2 n
  | _, _, _ => .undef

def fieldPtr : (t : Ty) → t.den → Nat → AVal
  | .pair a _, x, 0 => .cellp a x.1
  | .pair _ b, x, n + 1 => fieldPtr b x.2 n
  | _, _, _ => .undef

def constC : Value → AVal
  | .bool b => .val .bool b
  | .int k n => .val (.int k) n
  | .string s => .val .str s.data.toList
  | .slice none 0 0 => .nils
  | .pointer none => .nilp
  | .nilFunc => .nilfn
  | _ => .undef

def constV : Value → AVal
  | .agg cs => bif cs.toList.all Value.oneCell' then .agg (cs.toList.map constC) else .undef
  | .tuple _ => .undef
  | v => constC v

def evalO (fr : List AVal) : Operand → AVal
  | .tmp t => fr.getD t .undef
  | .const v => constV v
  | .global _ => .undef
  | .func f => .fn f []

def roomN : Nat := 140737488355328

def addK (k : IntKind) (a b : Int) : Int := k.wrap (a + b)
def subK (k : IntKind) (a b : Int) : Int := k.wrap (a - b)
def mulK (k : IntKind) (a b : Int) : Int := k.wrap (a * b)
def divK (k : IntKind) (a b : Int) : Int := k.wrap (a.tdiv b)
def bitK (op : BinOp) (k : IntKind) (a b : Int) : Int :=
  let x := BitVec.ofInt k.bits a
  let y := BitVec.ofInt k.bits b
  match op with
  | .and => k.wrap (x &&& y).toNat
  | .or => k.wrap (x ||| y).toNat
  | .xor => k.wrap (x ^^^ y).toNat
  | _ => k.wrap (x &&& ~~~y).toNat
def shlK (k : IntKind) (a b : Int) : Int := k.wrap (a * 2 ^ (min b.toNat k.bits))
def shrK (k : IntKind) (a b : Int) : Int := a.fdiv (2 ^ (min b.toNat k.bits))
def ltI (a b : Int) : Bool := decide (a < b)
def leI (a b : Int) : Bool := decide (a ≤ b)
def eqI (a b : Int) : Bool := a == b
def lenI {α : Type} (l : List α) : Int := (l.length : Int)
def ltN (a b : Nat) : Bool := decide (a < b)
def eqN (a b : Nat) : Bool := Nat.beq a b
def leN (a b : Nat) : Bool := decide (a ≤ b)
def minI (a b : Int) : Int := if b < a then b else a
def maxI (a b : Int) : Int := if b > a then b else a
def byteAt (s : List UInt8) (i : Int) : Int := ((s.getD i.toNat 0).toNat : Int)
def getI {α : Type} (l : List α) (d : α) (i : Int) : α := l.getD i.toNat d
def eqS (a b : List UInt8) : Bool := a == b
def ltS (a b : List UInt8) : Bool := Op.bytesLess a b
def toBytes (l : List UInt8) : List Int := l.map fun b => (b.toNat : Int)
def ofBytes (l : List Int) : List UInt8 := l.map fun n => UInt8.ofNat n.toNat
def fitB (l : List UInt8) : Bool := decide (l.length ≤ roomN)
def fitI {α : Type} (l : List α) (bytes : Nat) : Bool := decide (l.length * bytes ≤ roomN)
def inI {α : Type} (l : List α) (i : Int) : Bool := decide (0 ≤ i) && decide (i < (l.length : Int))
/-- is lo ≤ hi ≤ n a part of so many? -/
def partI (n lo hi : Int) : Bool := decide (0 ≤ lo) && (decide (lo ≤ hi) && decide (hi ≤ n))
def setI {α : Type} (l : List α) (i : Nat) (x : α) : List α := l.set i x

def binOpI (op : BinOp) (k : IntKind) (a b : Int) : AVal :=
  match op with
  | .add => .val (.int k) (addK k a b)
  | .sub => .val (.int k) (subK k a b)
  | .mul => .val (.int k) (mulK k a b)
  | .eql => .val .bool (eqI a b)
  | .neq => .val .bool (!eqI a b)
  | .lss => .val .bool (ltI a b)
  | .leq => .val .bool (leI a b)
  | .gtr => .val .bool (ltI b a)
  | .geq => .val .bool (leI b a)
  | _ => .undef

def binOpS (op : BinOp) (a b : List UInt8) : AVal :=
  match op with
  | .eql => .val .bool (eqS a b)
  | .neq => .val .bool (!eqS a b)
  | .lss => .val .bool (ltS a b)
  | .leq => .val .bool (ltS a b || eqS a b)
  | .gtr => .val .bool (!(ltS a b || eqS a b))
  | .geq => .val .bool (!ltS a b)
  | _ => .undef

/-- may values of a type be held against one another, part by part? -/
def TT.eqOk (T : TT) : Nat → TypeId → Bool
  | 0, _ => false
  | n + 1, t => (T.at t).known && (match (T.at t).k with
    | .bool | .int _ | .str => true
    | .struct fs => (T.at t).eq && fs.all fun f => T.eqOk n f.2
    | _ => false)

section
variable {R : Type}

/-- go on if it holds -/
def need (b : Bool) (k : Option R) : Option R := bif b then k else none

def evBin (T : TT) (op : BinOp) (t : TypeId) (x y : AVal) (K : AVal → Option R) : Option R :=
  match x, y with
  | .val (.int k) a, .val (.int k') b =>
    if k = k' then
      match op with
      | .quo => need (!eqI b 0) (K (.val (.int k) (divK k a b)))
      | .rem => need (!eqI b 0) (K (.val (.int k) (a.tmod b)))
      | .add | .sub | .mul | .eql | .neq | .lss | .leq | .gtr | .geq => K (binOpI op k a b)
      | .and | .or | .xor | .andNot => K (.val (.int k) (bitK op k a b))
      | .shl => need (leI 0 b) (K (.val (.int k) (shlK k a b)))
      | .shr => need (leI 0 b) (K (.val (.int k) (shrK k a b)))
    else
      match op with
      | .shl => need (leI 0 b) (K (.val (.int k) (shlK k a b)))
      | .shr => need (leI 0 b) (K (.val (.int k) (shrK k a b)))
      | _ => none
  | .val .bool a, .val .bool b =>
    bif (T.at t).known then
      match (T.at t).k, op with
      | .bool, .eql => K (.val .bool (a == b))
      | .bool, .neq => K (.val .bool (!(a == b)))
      | _, _ => none
    else none
  | .val .str a, .val .str b =>
    match op with
    | .add => need (decide (a.length + b.length ≤ roomN)) (K (.val .str (a ++ b)))
    | .eql | .neq | .lss | .leq | .gtr | .geq => K (binOpS op a b)
    | _ => none
  | .lst _ _ b, .nils => bif (T.at t).known then (match (T.at t).k, op with
    | .slice _, .eql => K (.val .bool b)
    | .slice _, .neq => K (.val .bool (!b))
    | _, _ => none) else none
  | x, y =>
    bif !T.eqOk 6 t then none else
    match (T.at t).k, (T.at t).ty with
    | .struct _, some ty =>
      match x.as [] ty, y.as [] ty, op with
      | some a, some b, .eql => K (.val .bool (ty.same a b))
      | some a, some b, .neq => K (.val .bool (!ty.same a b))
      | _, _, _ => none
    | _, _ => none

/-! tables -/

def mpGet : List (Int × Int) → Int → Option Int
  | [], _ => none
  | (k, v) :: l, a => bif eqI a k then some v else mpGet l a
def mpVal (l : List (Int × Int)) (a : Int) : Int := match mpGet l a with
  | some v => v
  | none => 0
def mpHas (l : List (Int × Int)) (a : Int) : Bool := match mpGet l a with
  | some _ => true
  | none => false
def mpPut : List (Int × Int) → Int → Int → List (Int × Int)
  | [], a, b => [(a, b)]
  | (k, v) :: l, a, b => bif eqI a k then (k, b) :: l else (k, v) :: mpPut l a b

/-- the kinds of a table's numbers -/
def TT.mapOf (T : TT) (t : TypeId) : Option (IntKind × IntKind) := bif (T.at t).known then (match (T.at t).k with
  | .map k e => bif (T.at k).known && (T.at e).known then (match (T.at k).k, (T.at e).k with
    | .int a, .int b => some (a, b)
    | _, _ => none) else none
  | _ => none) else none

/-- is a slice of our own, with something in it, held against nil? -/
def slcNil (hp : Heap) (x y : AVal) : Bool := match x with
  | .slc id ver _ => (match y with
    | .nils => (match hget hp id with
      | some (.arr _ v ys) => v == ver && ltN 0 ys.length
      | _ => false)
    | _ => false)
  | _ => false

/-- is the address of a box of our own held against nil? -/
def ptrNil (hp : Heap) (x y : AVal) : Bool := match x with
  | .ptr id _ => (match y with
    | .nilp => (match hget hp id with
      | some (.box _ _) => true
      | _ => false)
    | _ => false)
  | _ => false

def evBinH (T : TT) (hp : Heap) (op : BinOp) (t : TypeId) (x y : AVal) (K : AVal → Option R) : Option R :=
  bif slcNil hp x y then (bif (T.at t).known then (match (T.at t).k, op with
    | .slice _, .eql => K (.val .bool false)
    | .slice _, .neq => K (.val .bool true)
    | _, _ => none) else none) else bif ptrNil hp x y then (bif (T.at t).known then (match (T.at t).k, op with
    | .ptr _, .eql => K (.val .bool false)
    | .ptr _, .neq => K (.val .bool true)
    | _, _ => none) else none) else evBin T op t x y K

def evUn (op : UnOp) (x : AVal) (K : AVal → Option R) : Option R :=
  match op, x with
  | .not, .val .bool b => K (.val .bool (!b))
  | .neg, .val (.int k) a => K (.val (.int k) (subK k 0 a))
  | _, _ => none

/-- the name of what is made: by its place in the text, or by number -/
def newId (cl : Bool) (st : St) (dst : Option Nat) : Nat := bif cl then st.nxt else 1000000 * st.stk.length + dst.getD 0

/-- a new thing in memory -/
def alloc (cl : Bool) (dst : Option Nat) (o : AObj) (st : St) (K : Nat → St → Option R) : Option R :=
  match hget st.hp (newId cl st dst) with
  | some _ => none
  | none => bif st.nxt.ble (newId cl st dst) then K (newId cl st dst) { st with hp := (newId cl st dst, o) :: st.hp, nxt := bif cl then newId cl st dst + 1 else st.nxt } else none

/-- cells n to n + k of a block -/
def cellsAt (cs : List AVal) (off k : Nat) : Option (List AVal) := bif (off + k).ble cs.length then some ((cs.drop off).take k) else none

def putCells (cs : List AVal) (off : Nat) (vs : List AVal) : Option (List AVal) :=
  bif (off + vs.length).ble cs.length then some (cs.take off ++ vs ++ cs.drop (off + vs.length)) else none

def evLoad (T : TT) (hp : Heap) (t : TypeId) (a : AVal) (K : AVal → Option R) : Option R :=
  bif !(T.at t).known then none else
  match a with
  | .cellp u x => match (T.at t).ty with
    | some u' => match castTy u' x with
      | some y => K (.val u' y)
      | none => none
    | none => none
  | .ptr id off => match hget hp id with
    | some (.box _ cs) => match cellsAt cs off (T.at t).size with
      | some l => K (norm (T.at t) l)
      | none => none
    | _ => none
  | .ep id ver i off => match hget hp id with
    | some (.arr u v xs) => bif v == ver then
        (bif ltN i xs.length then
          (match cellsAt (flat u (xs.getD i u.dflt)) off (T.at t).size with
          | some l => K (norm (T.at t) l)
          | none => none) else none) else none
    | _ => none
  | _ => none

def evStore (T : TT) (st : St) (t : TypeId) (a v : AVal) (K : St → Option R) : Option R :=
  match v.cells with
  | none => none
  | some vs =>
    bif (T.at t).known && vs.length == (T.at t).size then
      match a with
      | .ptr id off => match hget st.hp id with
        | some (.box bt cs) => match putCells cs off vs with
          | some cs' => K { st with hp := hset st.hp id (.box bt cs') }
          | none => none
        | _ => none
      | .ep id ver i off => match hget st.hp id with
        | some (.arr u w xs) => bif w == ver then
            (bif ltN i xs.length then
              (match putCells (flat u (xs.getD i u.dflt)) off vs with
              | some cs => match mkAll u cs with
                | some x => K { st with hp := hset st.hp id (.arr u w (setI xs i x)) }
                | none => none
              | none => none) else none) else none
        | _ => none
      | _ => none
    else none

/-- a slice of our own whose cell is given its own front: it is cut short -/
def evCut (old : Heap) (st : St) (a v : AVal) (K : St → Option R) : Option R :=
  match a, v with
  | .ptr id off, .slc i _ (some _) => match hget old id with
    | some (.box _ cs0) => match cs0.getD off .undef with
      | .slc i0 _ none => bif Nat.beq i0 i && !Nat.beq i id then
          (match hget st.hp id, hget st.hp i with
          | some (.box bt cs), some (.arr e w xs) => match cs.getD off .undef with
            | .slc i1 w1 (some (lo, hi)) => bif Nat.beq i1 i && (w1 == w && lo == 0) then
                K { st with hp := hset (hset st.hp i (.arr e (w + 1) (xs.take hi.toNat))) id (.box bt (cs.set off (.slc i (w + 1) none))) } else K st
            | _ => K st
          | _, _ => K st) else K st
      | _ => K st
    | _ => K st
  | _, _ => K st

def evBuild (T : TT) (fs : List (Nat × TypeId)) (cs : List AVal) : List (Nat × AVal) → Option (List AVal)
  | [] => some cs
  | (i, v) :: rest => match fs[i]?, v.cells with
    | some (off, ft), some vs => bif (T.at ft).known && vs.length == (T.at ft).size then
        (match putCells cs off vs with
        | some cs' => evBuild T fs cs' rest
        | none => none) else none
    | _, _ => none

def evParts (e : Ty) (xs : List e.den) : List (Nat × AVal) → Option (List e.den)
  | [] => some xs
  | (i, v) :: rest => match v.as [] e with
    | some x => bif ltN i xs.length then evParts e (xs.set i x) rest else none
    | none => none

def intOf : AVal → Option Int
  | .val (.int _) n => some n
  | _ => none

/-- an optional bound of a slice -/
def bound (d : Int) : Option AVal → Option Int
  | none => some d
  | some v => intOf v

/-- is a type a row of elements of such a size? -/
def TT.rowOf (T : TT) (t : TypeId) (size : Nat) : Bool :=
  match (T.at t).k with
  | .slice e => (T.at t).known && ((T.at e).known && ((T.at e).size == size && (ltN 0 size && ltN 0 (T.at e).bytes)))
  | _ => false

/-- is a type an address? -/
def TT.isPtr (T : TT) (t : TypeId) : Bool :=
  match (T.at t).k with
  | .ptr _ => (T.at t).known
  | _ => false

/-- is a type the address of a byte? -/
def TT.isBytes (T : TT) (t : TypeId) : Bool :=
  match (T.at t).k with
  | .ptr e => (T.at t).known && ((T.at e).known && (match (T.at e).ty with | some (.int .u8) => Nat.beq (T.at e).size 1 | _ => false))
  | _ => false

def TT.isStr (T : TT) (t : TypeId) : Bool :=
  match (T.at t).k with
  | .str => (T.at t).known
  | _ => false

def evSlice (T : TT) (hp : Heap) (t : TypeId) (x : AVal) (lo hi mx : Option AVal) (K : AVal → Option R) : Option R :=
  match x, mx with
  | .val .str s, none => match bound 0 lo, bound (lenI s) hi with
    | some l, some h => need (T.isStr t && partI (lenI s) l h) (K (.val .str (sub s l h)))
    | _, _ => none
  | .val (.list e) xs, none => match bound 0 lo, bound (lenI xs) hi with
    | some l, some h => need (T.rowOf t e.size && partI (lenI xs) l h) (K (.val (.list e) (sub xs l h)))
    | _, _ => none
  | .val (.list e) xs, some m => match bound 0 lo, hi.bind intOf, intOf m with
    | some l, some h, some k => need (T.rowOf t e.size && (l == 0 && (h == 0 && k == 0))) (K .emp)
    | _, _, _ => none
  | .nils, none => match bound 0 lo, bound 0 hi with
    | some l, some h => need (T.rowOf t (T.at (match (T.at t).k with | .slice e => e | _ => 0)).size && (eqI l 0 && eqI h 0)) (K .nils)
    | _, _ => none
  | .slc id ver none, none => match hget hp id with
    | some (.arr e v xs) => bif v == ver then
        (match bound 0 lo, bound (lenI xs) hi with
        | some l, some h => need (T.rowOf t e.size && partI (lenI xs) l h) (K (.slc id ver (some (l, h))))
        | _, _ => none) else none
    | _ => none
  | _, _ => none

/-- a field of a struct: where it lies, and its type -/
def TT.fieldAt (T : TT) (t : TypeId) (f : Nat) : Option (Nat × TypeId) :=
  match (T.at t).k with
  | .struct fs => bif (T.at t).known then
      (match fs[f]? with
      | some (off, ft) => bif (T.at ft).known && ltN 0 (T.at ft).size then some (off, ft) else none
      | none => none) else none
  | _ => none

def evFieldAddr (T : TT) (hp : Heap) (t : TypeId) (x : AVal) (f : Nat) (K : AVal → Option R) : Option R :=
  match T.fieldAt t f with
  | some (off, _) => match x with
    | .cellp u x => match (T.at t).ty with
      | some u' => match castTy u' x with
        | some y => K (fieldPtr u' y f)
        | none => none
      | none => none
    | .ptr id o => match hget hp id with
      | some (.box _ _) => K (.ptr id (o + off))
      | _ => none
    | .ep id ver i o => match hget hp id with
      | some (.arr _ v _) => bif v == ver then K (.ep id ver i (o + off)) else none
      | _ => none
    | _ => none
  | none => none

def evField (T : TT) (t : TypeId) (x : AVal) (f : Nat) (K : AVal → Option R) : Option R :=
  match T.fieldAt t f with
  | some (off, ft) => match x with
    | .val u x => match (T.at t).ty with
      | some u' => match castTy u' x with
        | some y => K (fieldOf u' y f)
        | none => none
      | none => none
    | .agg l => match cellsAt l off (T.at ft).size with
      | some cs => K (norm (T.at ft) cs)
      | none => none
    | _ => none
  | none => none

def evIndexAddr (T : TT) (hp : Heap) (t : TypeId) (x i : AVal) (K : AVal → Option R) : Option R :=
  match intOf i with
  | none => none
  | some i => match x with
    | .val (.list e) xs => need (T.rowOf t e.size && inI xs i) (K (.cellp e (getI xs e.dflt i)))
    | .slc id ver vw => match hget hp id with
      | some (.arr e v xs) => bif v == ver then
          (match vw with
          | none => need (T.rowOf t e.size && inI xs i) (K (.ep id ver i.toNat 0))
          | some (lo, hi) => need (T.rowOf t e.size && (decide (0 ≤ i) && ltI (lo + i) hi)) (K (.ep id ver (lo + i).toNat 0))) else none
      | _ => none
    | _ => none

def evLen (T : TT) (hp : Heap) (t : TypeId) (x : AVal) (K : AVal → Option R) : Option R :=
  match x with
  | .val .str s => need (T.isStr t) (K (.val (.int .i64) (lenI s)))
  | .val (.list e) xs => need (T.rowOf t e.size) (K (.val (.int .i64) (lenI xs)))
  | .nils => need (T.rowOf t (T.at (match (T.at t).k with | .slice e => e | _ => 0)).size) (K (.val (.int .i64) 0))
  | .slc id ver vw => match hget hp id with
    | some (.arr e v xs) => bif v == ver then
        need (T.rowOf t e.size) (match vw with
        | none => K (.val (.int .i64) (lenI xs))
        | some (lo, hi) => K (.val (.int .i64) (hi - lo))) else none
    | _ => none
  | _ => none

def evAppend (T : TT) (cl : Bool) (dst : Option Nat) (t : TypeId) (s x : AVal) (st : St) (K : AVal → St → Option R) : Option R :=
  match (T.at t).k with
  | .slice et => match (T.at et).ty with
    | some e => match x.as st.hp (.list e) with
      | none => none
      | some ys => match s with
        | .nils => need (T.rowOf t e.size && fitI ys (T.at et).bytes) (alloc cl dst (.arr e 0 ys) st fun id st => K (.slc id 0 none) st)
        | .emp => need (T.rowOf t e.size && fitI ys (T.at et).bytes) (bif ltN 0 ys.length then alloc cl dst (.arr e 0 ys) st fun id st => K (.slc id 0 none) st else K .emp st)
        | .slc id ver vw => match hget st.hp id with
          | some (.arr e' v xs) => bif v == ver then
              (match castTy (t' := .list e') (.list e) xs with
              | some xs => match vw with
                | none => need (T.rowOf t e.size && fitI (xs ++ ys) (T.at et).bytes) (K (.slc id (ver + 1) none) { st with hp := hset st.hp id (.arr e (ver + 1) (xs ++ ys)) })
                | some (lo, hi) => need (T.rowOf t e.size && (eqI lo 0 && fitI (xs.take hi.toNat ++ ys) (T.at et).bytes))
                    (K (.slc id (ver + 1) none) { st with hp := hset st.hp id (.arr e (ver + 1) (xs.take hi.toNat ++ ys)) })
              | none => none) else none
          | _ => none
        | _ => none
    | none => none
  | _ => none

/-- a text onto a slice of bytes -/
def evAppendS (T : TT) (cl : Bool) (dst : Option Nat) (t t' : TypeId) (s x : AVal) (st : St) (K : AVal → St → Option R) : Option R :=
  match (T.at t).k, x with
  | .slice et, .val .str y => match (T.at et).ty with
    | some (.int .u8) => bif T.isStr t' && T.rowOf t 1 && Nat.beq (T.at et).bytes 1 then
        (match s with
        | .nils => need (fitB y) (alloc cl dst (.arr (.int .u8) 0 (toBytes y)) st fun id st => K (.slc id 0 none) st)
        | .slc id ver vw => match hget st.hp id with
          | some (.arr (.int .u8) v xs) => bif v == ver then
              (match vw with
              | none => need (fitI (xs ++ toBytes y) 1) (K (.slc id (ver + 1) none) { st with hp := hset st.hp id (.arr (.int .u8) (ver + 1) (xs ++ toBytes y)) })
              | some _ => none) else none
          | _ => none
        | _ => none) else none
    | _ => none
  | _, _ => none

def evConvert (T : TT) (s d : TypeId) (x : AVal) (hp : Heap) (K : AVal → Option R) : Option R :=
  bif !((T.at s).known && (T.at d).known) then none else
  match (T.at s).k, (T.at d).k, x with
  | .int _, .int k, .val (.int _) n => K (.val (.int k) (k.wrap n))
  | .str, .str, .val .str s => K (.val .str s)
  | .slice e, .str, x => match (T.at e).k with
    | .int .u8 => match x.as hp (.list (.int .u8)) with
      | some xs => need (T.at e).known (K (.val .str (ofBytes xs)))
      | none => none
    | _ => none
  | _, _, _ => none

abbrev CallFn (R : Type) := AVal → List AVal → Option Nat → St → (AVal → St → Option R) → Option R

def allInts (k : IntKind) : List AVal → Option (List Int)
  | [] => some []
  | .val (.int k') a :: l => if k = k' then match allInts k l with
      | some l => some (a :: l)
      | none => none
    else none
  | _ => none

def evBuiltin (T : TT) (cl : Bool) (o : Oper) (b : Builtin) (ts : List TypeId) (args : List AVal) (st : St) (K : AVal → St → Option R) : Option R :=
  match b, args with
  | .len, [x] => match ts with
    | [t] => evLen T st.hp t x fun v => K v st
    | _ => none
  | .min, .val (.int k) a :: l => match allInts k l with
    | some l => K (.val (.int k) (l.foldl minI a)) st
    | none => none
  | .max, .val (.int k) a :: l => match allInts k l with
    | some l => K (.val (.int k) (l.foldl maxI a)) st
    | none => none
  | .append, [s, x] => match ts with
    | [t, t'] => bif t == t' then evAppend T cl o.dst t s x st K else evAppendS T cl o.dst t t' s x st K
    | _ => none
  | .unsafeSliceData, [.slc id ver none] => match ts with
    | [t] => match hget st.hp id with
      | some (.arr e v _) => bif v == ver && (T.rowOf t e.size && T.isPtr o.type) then K (.sd id ver) st else none
      | _ => none
    | _ => none
  | .unsafeString, [.sd id ver, .val (.int .i64) n] => match ts with
    | [pt, _] => match hget st.hp id with
      | some (.arr (.int .u8) v xs) => bif v == ver && T.isBytes pt then need (eqI n (lenI xs)) (K (.val .str (ofBytes xs)) { st with hp := hset st.hp id .dead }) else none
      | _ => none
    | _ => none
  | _, _ => none

def evalOp (T : TT) (cl : Bool) (call : CallFn R) (o : Oper) (st : St) (K : AVal → St → Option R) : Option R :=
  match o.op with
  | .move x | .assign x => K (evalO st.fr x) st
  | .pick c a b => match evalO st.fr c with
    | .val .bool t => bif t then K (evalO st.fr a) st else K (evalO st.fr b) st
    | _ => none
  | .alloc t => bif (T.at t).known then
      (match (T.at t).k, (T.at t).zero with
      | .slice et, [.nils] => match (T.at et).ty with
        | some e => bif ltN 0 e.size then alloc cl (some (o.dst.getD 0 + 500000)) (.arr e 0 []) st fun i st => alloc cl o.dst (.box t [.slc i 0 none]) st fun id st => K (.ptr id 0) st
          else none
        | none => alloc cl o.dst (.box t (T.at t).zero) st fun id st => K (.ptr id 0) st
      | .struct _, [.nilp, .nils] => bif (T.at t).bld then
          alloc cl (some (o.dst.getD 0 + 500000)) (.arr (.int .u8) 0 []) st fun i st => alloc cl o.dst (.box t [.slf (newId cl st o.dst), .slc i 0 none]) st fun id st => K (.ptr id 0) st
        else alloc cl o.dst (.box t (T.at t).zero) st fun id st => K (.ptr id 0) st
      | _, z => alloc cl o.dst (.box t z) st fun id st => K (.ptr id 0) st) else none
  | .box t x => match (evalO st.fr x).cells with
    | some vs => bif (T.at t).known && vs.length == (T.at t).size then alloc cl o.dst (.box t vs) st fun id st => K (.ptr id 0) st else none
    | none => none
  | .build t parts => bif !(T.at t).known then none else
    match (T.at t).k with
    | .struct fs => match evBuild T fs (T.at t).zero (parts.toList.map fun p => (p.1, evalO st.fr p.2)) with
      | some cs => K (norm (T.at t) cs) st
      | none => none
    | _ => none
  | .buildSlice t n parts => match (T.at t).k with
    | .slice et => match (T.at et).ty with
      | some e => match mkAll e (T.at et).zero with
        | some d => bif T.rowOf t e.size && leN (n * e.size) 1000000 then
            (match evParts e (List.replicate n d) (parts.toList.map fun p => (p.1, evalO st.fr p.2)) with
            | some xs => alloc cl o.dst (.arr e 0 xs) st fun id st => K (.slc id 0 none) st
            | none => none) else none
        | none => none
      | none => none
    | _ => none
  | .load t a => evLoad T st.hp t (evalO st.fr a) fun v => K v st
  | .store t a v => evStore T st t (evalO st.fr a) (evalO st.fr v) fun st' => evCut st.hp st' (evalO st.fr a) (evalO st.fr v) fun st => K .undef st
  | .nilCheck x => match evalO st.fr x with
    | .ptr id off => match hget st.hp id with
      | some (.box _ _) => K (.ptr id off) st
      | _ => none
    | .cellp t x => K (.cellp t x) st
    | .ep id ver i off => match hget st.hp id with
      | some (.arr _ v _) => bif v == ver then K (.ep id ver i off) st else none
      | _ => none
    | _ => none
  | .binOp op t x y _ => evBinH T st.hp op t (evalO st.fr x) (evalO st.fr y) fun v => K v st
  | .unOp op _ x => evUn op (evalO st.fr x) fun v => K v st
  | .makeMap t r => match r, T.mapOf t with
    | none, some (kk, vk) => alloc cl o.dst (.mp kk vk []) st fun id st => K (.mpv id) st
    | _, _ => none
  | .mapUpdate t m k x => match T.mapOf t, evalO st.fr m with
    | some (kk, vk), .mpv id => match hget st.hp id, evalO st.fr k, evalO st.fr x with
      | some (.mp kk' vk' es), .val (.int kk'') a, .val (.int vk'') b =>
        bif decide (kk' = kk) && (decide (kk'' = kk) && (decide (vk' = vk) && decide (vk'' = vk))) then K .undef { st with hp := hset st.hp id (.mp kk vk (mpPut es a b)) } else none
      | _, _, _ => none
    | _, _ => none
  | .lookup t m k ok => match T.mapOf t, evalO st.fr m with
    | some (kk, vk), .mpv id => match hget st.hp id, evalO st.fr k with
      | some (.mp kk' vk' es), .val (.int kk'') a =>
        bif decide (kk' = kk) && (decide (kk'' = kk) && decide (vk' = vk)) then
          K (bif ok then .tup [.val (.int vk) (mpVal es a), .val .bool (mpHas es a)] else .val (.int vk) (mpVal es a)) st else none
      | _, _ => none
    | _, _ => none
  | .convert s d x => evConvert T s d (evalO st.fr x) st.hp fun v => K v st
  | .makeFunc f first caps => match f, first.toList with
    | .func f, [] => K (.fn f (caps.toList.map (evalO st.fr))) st
    | .func f, l => bif caps.toList.isEmpty then K (.mfn f (l.map (evalO st.fr))) st else none
    | _, _ => none
  | .makeSlice t l c => match (T.at t).k with
    | .slice et => match (T.at et).ty, intOf (evalO st.fr l), intOf (evalO st.fr c) with
      | some e, some l, some c => match mkAll e (T.at et).zero with
        | some d => need (T.rowOf t e.size && (decide (0 ≤ l) && (decide (l ≤ c) && decide (c.toNat * (T.at et).bytes ≤ roomN))))
            (alloc cl o.dst (.arr e 0 (List.replicate l.toNat d)) st fun id st => K (.slc id 0 none) st)
        | none => none
      | _, _, _ => none
    | _ => none
  | .slice t x lo hi mx => evSlice T st.hp t (evalO st.fr x) (lo.map (evalO st.fr)) (hi.map (evalO st.fr)) (mx.map (evalO st.fr)) fun v => K v st
  | .fieldAddr t x f => evFieldAddr T st.hp t (evalO st.fr x) f fun v => K v st
  | .field t x f => evField T t (evalO st.fr x) f fun v => K v st
  | .indexAddr t x i => evIndexAddr T st.hp t (evalO st.fr x) (evalO st.fr i) fun v => K v st
  | .index t x i => match evalO st.fr x, intOf (evalO st.fr i) with
    | .val .str s, some i => need (T.isStr t && inI s i) (K (.val (.int .u8) (byteAt s i)) st)
    | _, _ => none
  | .extract x n => match evalO st.fr x with
    | .tup l => match l[n]? with
      | some v => K v st
      | none => none
    | _ => none
  | .call c => match c.callee with
    | .builtin b => evBuiltin T cl o b c.argTypes.toList (c.args.toList.map (evalO st.fr)) st K
    | .value f => call (evalO st.fr f) (c.args.toList.map (evalO st.fr)) o.dst st K
    | _ => none
  | _ => none

/-- the slot of an operation -/
def St.put (st : St) (dst : Option Nat) (v : AVal) : St :=
  match dst with
  | some d => { st with fr := st.fr.set d v }
  | none => st

/-- the operations of a region, one behind the other -/
def evalOps (T : TT) (cl : Bool) (call : CallFn R) (ops : Array Oper) (K : St → Option R) : List Oper → St → Option R
  | [], st => K st
  | o :: rest, st =>
    match o.guard with
    | none => evalOp T cl call o st fun v st => evalOps T cl call ops K rest (st.put o.dst v)
    | some (j, want) => match (ops[j]?).bind (·.dst) with
      | none => none
      | some d => match st.fr.getD d .undef with
        | .val .bool b =>
          bif b then
            (bif want then evalOp T cl call o (st.put (some d) (.val .bool true)) fun v st => evalOps T cl call ops K rest (st.put o.dst v)
            else evalOps T cl call ops K rest ((st.put (some d) (.val .bool true)).put o.dst (.tup [])))
          else
            (bif want then evalOps T cl call ops K rest ((st.put (some d) (.val .bool false)).put o.dst (.tup []))
            else evalOp T cl call o (st.put (some d) (.val .bool false)) fun v st => evalOps T cl call ops K rest (st.put o.dst v))
        | .tup [] => evalOps T cl call ops K rest (st.put o.dst (.tup []))
        | _ => none

/-! ### names that are used -/

mutual
def refs : AVal → List Nat
  | .ptr id _ => [id]
  | .slc id _ _ => [id]
  | .ep id _ _ _ => [id]
  | .slf id => [id]
  | .sd id _ => [id]
  | .yld id => [id]
  | .tup l => refsL l
  | .agg l => refsL l
  | .fn _ l => refsL l
  | .mfn _ l => refsL l
  | .mpv id => [id]
  | _ => []
def refsL : List AVal → List Nat
  | [] => []
  | v :: l => refs v ++ refsL l
end

def refsLL : List (List AVal) → List Nat
  | [] => []
  | l :: ls => refsL l ++ refsLL ls

def AObj.refs : AObj → List Nat
  | .box _ cs => refsL cs
  | .lp _ fr _ _ _ _ _ _ => refsL fr
  | _ => []

def refsH : Heap → List Nat
  | [] => []
  | (_, o) :: h => o.refs ++ refsH h

def memN (l : List Nat) (i : Nat) : Bool := l.any (Nat.beq i)

/-- the names that are reached from some, in so many steps -/
def reach (h : Heap) : Nat → List Nat → List Nat
  | 0, l => l
  | n + 1, l => reach h n (l ++ refsH (h.filter fun e => memN l e.1))

def noneOf (d : List Nat) (l : List Nat) : Bool := l.all fun i => !memN d i

/-- what isn't used any more is forgotten, from a name on -/
def gc (mark : Nat) (v : AVal) (st : St) : Option St :=
  let old := st.hp.filter fun e => Nat.blt e.1 mark
  let new := st.hp.filter fun e => !Nat.blt e.1 mark
  let live := reach new 3 (refs v ++ refsL st.fr ++ refsLL st.stk ++ refsH old)
  let kept := st.hp.filter fun e => Nat.blt e.1 mark || memN live e.1
  let gone := ((st.hp.filter fun e => !(Nat.blt e.1 mark || memN live e.1)).map (·.1))
  bif noneOf gone (refs v ++ refsL st.fr ++ refsLL st.stk ++ refsH kept) then some { st with hp := kept } else none

/-- the versions of slices are counted anew -/
def verOf (h : Heap) (id : Nat) : Option Nat :=
  match hget h id with
  | some (.arr _ v _) => some v
  | _ => none

def fresh1 (h : Heap) (id ver : Nat) : Bool := match verOf h id with
  | some v => v == ver
  | none => false

mutual
def anew (h : Heap) : AVal → AVal
  | .slc id ver vw => bif fresh1 h id ver then .slc id 0 vw else .undef
  | .ep id ver i off => bif fresh1 h id ver then .ep id 0 i off else .undef
  | .sd id ver => bif fresh1 h id ver then .sd id 0 else .undef
  | .tup l => .tup (anewL h l)
  | .agg l => .agg (anewL h l)
  | .fn f l => .fn f (anewL h l)
  | .mfn f l => .mfn f (anewL h l)
  | v => v
def anewL (h : Heap) : List AVal → List AVal
  | [] => []
  | v :: l => anew h v :: anewL h l
end

def AObj.anew (h : Heap) : AObj → AObj
  | .box t cs => .box t (anewL h cs)
  | .lp f fr ps a b k n p => .lp f (anewL h fr) ps a b k n p
  | .arr t _ xs => .arr t 0 xs
  | o => o

def anewSt (st : St) : St :=
  { st with fr := anewL st.hp st.fr, stk := st.stk.map (anewL st.hp), hp := st.hp.map fun e => (e.1, e.2.anew st.hp) }

/-- what stays at a loop's head and behind it: slots, and slots with slices that are to be our own (with their elements' types; marked by a pair with nothing: that are to be given away) -/
structure Keep where
  slots : List Nat
  owns : List (Nat × Ty)
  after : List Nat
  aowns : List (Nat × Ty)
  rets : List Nat
  /-- slots whose slices of our own are given away at a return: they become data -/
  give : List (Nat × Ty)

def keepL (l : List Nat) : Nat → List AVal → List AVal
  | _, [] => []
  | i, v :: r => (bif memN l i then v else .undef) :: keepL l (i + 1) r

/-- a slice in a slot becomes one of our own, whole, with the slot's name -/
def ownSlot (s : Nat) (t : Ty) (st : St) : Option St :=
  match st.fr.getD s .undef with
  | .nils => match hget st.hp (1000000 * st.stk.length + 800000 + s) with
    | some _ => none
    | none => bif st.nxt.ble (1000000 * st.stk.length + 800000 + s) && Nat.blt 0 t.size then
        some { st with fr := st.fr.set s (.slc (1000000 * st.stk.length + 800000 + s) 0 none), hp := (1000000 * st.stk.length + 800000 + s, .arr t 0 []) :: st.hp } else none
  | .slc id ver vw => match hget st.hp id with
    | some (.arr u w xs) => bif w == ver then
        (match vw with
        | none => some st
        | some (lo, hi) => bif lo == 0 then
            some { st with fr := st.fr.set s (.slc id (ver + 1) none), hp := hset st.hp id (.arr u (ver + 1) (xs.take hi.toNat)) } else none) else none
    | _ => none
  | _ => none

/-! ### the memory's names in order -/

def hins (k : Nat) (o : AObj) : Heap → Heap
  | [] => [(k, o)]
  | (j, p) :: h => bif Nat.ble j k then (k, o) :: (j, p) :: h else (j, p) :: hins k o h

def sortH : Heap → Heap
  | [] => []
  | (k, o) :: h => hins k o (sortH h)

/-- a nil slice in a block's cell becomes one of our own; behind a .pair .unit: a datum -/
def ownCell0 (id off : Nat) (t : Ty) (st : St) : Option St :=
  match hget st.hp id with
  | some (.box bt cs) => match cs.getD off .undef with
    | .nils => match t with
      | .pair .unit t' => some { st with hp := hset st.hp id (.box bt (cs.set off (.val (.list t') []))) }
      | t => match hget st.hp (id + 500000 + 2000 * off) with
        | some _ => none
        | none => bif st.nxt.ble (id + 500000 + 2000 * off) && Nat.blt 0 t.size then
            some { st with hp := hset ((id + 500000 + 2000 * off, .arr t 0 []) :: st.hp) id (.box bt (cs.set off (.slc (id + 500000 + 2000 * off) 0 none))) } else none
    | _ => some st
  | _ => some st
/-- .. and the memory's names come in order -/
def ownCell (id off : Nat) (t : Ty) (st : St) : Option St :=
  match ownCell0 id off t st with
  | some st => some { st with hp := sortH st.hp }
  | none => none

/-- a slice of our own in a slot is given away: it becomes a datum -/
def giveSlot (s : Nat) (t : Ty) (st : St) : Option St :=
  match st.fr.getD s .undef with
  | .nils => some { st with fr := st.fr.set s (.val (.list t) []) }
  | .emp => some { st with fr := st.fr.set s (.val (.list t) []) }
  | .slc id ver none => match hget st.hp id with
    | some (.arr u w xs) => bif w == ver && noneOf ((st.hp.filter fun e => !(!Nat.beq e.1 id)).map (·.1)) (refsL (st.fr.set s .undef) ++ refsLL st.stk ++ refsH (st.hp.filter fun e => !Nat.beq e.1 id)) then
        some { st with fr := st.fr.set s (.val (.list u) xs), hp := st.hp.filter fun e => !Nat.beq e.1 id } else none
    | _ => none
  | .slc _ _ (some _) => none
  | _ => some st

/-- a slice of our own in a slot takes the slot's name; the memory's names in order -/
def renSlot (s : Nat) (t : Ty) (st : St) : Option St :=
  match st.fr.getD s .undef with
  | .slc id ver none => bif Nat.beq id (1000000 * st.stk.length + 800000 + s) then some { st with hp := sortH st.hp } else
    match hget st.hp id with
    | some (.arr u w xs) => bif st.nxt.ble (1000000 * st.stk.length + 800000 + s) && noneOf [id, 1000000 * st.stk.length + 800000 + s] (refsL (st.fr.set s .undef) ++ refsLL st.stk ++ refsH (st.hp.filter fun e => !(Nat.beq e.1 id || Nat.beq e.1 (1000000 * st.stk.length + 800000 + s)))) then
        some { st with fr := st.fr.set s (.slc (1000000 * st.stk.length + 800000 + s) ver none), hp := sortH ((1000000 * st.stk.length + 800000 + s, .arr u w xs) :: st.hp.filter fun e => !(Nat.beq e.1 id || Nat.beq e.1 (1000000 * st.stk.length + 800000 + s))) } else none
    | _ => none
  | _ => match ownSlot s t st with
    | some st => some { st with hp := sortH st.hp }
    | none => none

def giveSlots : List (Nat × Ty) → St → Option St
  | [], st => some st
  | (s, t) :: l, st => match giveSlot s t st with
    | some st => giveSlots l st
    | none => none

def ownSlots : List (Nat × Ty) → St → Option St
  | [], st => some st
  | (s, .pair .unit t) :: l, st => match giveSlot s t st with
    | some st => ownSlots l st
    | none => none
  | (s, .pair (.list .unit) t) :: l, st => match ownCell (s / 100) (s % 100) t st with
    | some st => ownSlots l st
    | none => none
  | (s, .pair (.list .bool) t) :: l, st => match renSlot s t st with
    | some st => ownSlots l st
    | none => none
  | (s, t) :: l, st => match ownSlot s t st with
    | some st => ownSlots l st
    | none => none

def trim (slots : List Nat) (owns : List (Nat × Ty)) (st : St) : Option St :=
  match (match owns with
    | [] => some { st with fr := keepL slots 0 st.fr }
    | _ => gc (1000000 * st.stk.length) .undef { st with fr := keepL slots 0 st.fr }) with
  | some st => match ownSlots owns st with
    | some st => match gc (1000000 * st.stk.length) .undef st with
      | some st => some (anewSt st)
      | none => none
    | none => none
  | none => none

def trimR (k : Keep) (st : St) : Option St :=
  match giveSlots k.give { st with fr := keepL k.rets 0 st.fr } with
  | some st => match gc (1000000 * st.stk.length) .undef st with
    | some st => some (anewSt st)
    | none => none
  | none => none

/-! ### code -/

/-- the rounds of a loop -/
def iter (kp : Option Keep) (F : St → (Ex → St → Option R) → Option R) : Nat → St → (Ex → St → Option R) → Option R
  | 0, _, _ => none
  | n + 1, st, K => F st fun ex st => match ex with
    | .normal => match kp with
      | none => iter kp F n st K
      | some k => match trim k.slots k.owns st with
        | some st => iter kp F n st K
        | none => none
    | .ret => match kp with
      | none => K .ret st
      | some k => match trimR k st with
        | some st => K .ret st
        | none => none
    | ex => match kp with
      | none => K ex st
      | some k => match trim k.after k.aowns st with
        | some st => K ex st
        | none => none

def firstRegion : Code → Nat
  | .region id _ _ => id
  | .seq a _ => firstRegion a
  | .block _ c => firstRegion c
  | .loop c => firstRegion c
  | .scope c => firstRegion c
  | .cond _ a _ => firstRegion a
  | _ => 0

def fuelN : Nat := 10000000000000000000000000000000000000000

/-- a value that has one form only -/
def Ty.rigid : Ty → Bool
  | .list _ => false
  | .pair a b => a.rigid && b.rigid
  | _ => true

/-- what is known of a function: from data to data; a list of a result may be new memory -/
structure Sum where
  ps : List Ty
  rs : List (Ty × Bool)
  f : (ps.foldr Ty.pair Ty.unit).den → Option ((rs.map (·.1)).foldr Ty.pair Ty.unit).den

def asAll (hp : Heap) : (ps : List Ty) → List AVal → Option (ps.foldr Ty.pair Ty.unit).den
  | [], [] => some ()
  | t :: ts, v :: vs => match v.as hp t with
    | some x => match asAll hp ts vs with
      | some y => some (x, y)
      | none => none
    | none => none
  | _, _ => none

def Ty.elem : Ty → Ty
  | .list t => t
  | t => t

/-- the results of a call, as values; new memory has a name -/
def vals (id : Nat) : (rs : List (Ty × Bool)) → ((rs.map (·.1)).foldr Ty.pair Ty.unit).den → List AVal
  | [], _ => []
  | (t, false) :: rs, y => .val t y.1 :: vals id rs y.2
  | (_, true) :: rs, y => .slc id 0 none :: vals id rs y.2

/-- what new memory holds -/
def newOf : (rs : List (Ty × Bool)) → ((rs.map (·.1)).foldr Ty.pair Ty.unit).den → Option (Σ e : Ty, List e.den)
  | [], _ => none
  | (_, false) :: rs, y => newOf rs y.2
  | (.list e, true) :: _, y => some ⟨e, y.1⟩
  | (_, true) :: _, _ => none

def ownArg : AVal → Bool
  | .slc _ _ _ => true
  | .agg _ => true
  | _ => false

def resA : List AVal → AVal
  | [v] => v
  | vs => .tup vs

/-- how many results are new memory -/
def news : List (Ty × Bool) → Nat
  | [] => 0
  | (_, false) :: rs => news rs
  | (_, true) :: rs => news rs + 1

/-- go on with what is there -/
def obind {α β : Type} (o : Option α) (k : α → Option β) : Option β :=
  match o with
  | some x => k x
  | none => none

def Sum.call (s : Sum) (cl : Bool) (args : List AVal) (dst : Option Nat) (st : St) (K : AVal → St → Option R) : Option R :=
  bif s.rs.all (fun r => r.1.rigid || (r.2 && r.1.elem.rigid)) || !args.any ownArg then
    match asAll st.hp s.ps args with
    | some x => obind (s.f x) fun y => match newOf s.rs y with
      | none => bif Nat.beq (news s.rs) 0 then K (resA (vals 0 s.rs y)) st else none
      | some ⟨e, xs⟩ => bif Nat.beq (news s.rs) 1 then alloc cl (some (dst.getD 0 + 100000)) (.arr e 0 xs) st fun id st => K (resA (vals id s.rs y)) st else none
    | none => none
  else none

/-- what is known of a function whose first argument is the address of a block: from what the block's cells hold (a list may be memory of its own) and the other arguments, to what they hold then, and the results -/
structure SumB where
  bt : TypeId
  cs : List (Ty × Bool)
  ps : List Ty
  rs : List Ty
  f : ((cs.map (·.1)).foldr Ty.pair Ty.unit).den → (ps.foldr Ty.pair Ty.unit).den → Option (((cs.map (·.1)).foldr Ty.pair Ty.unit).den × (rs.foldr Ty.pair Ty.unit).den)

def dvals : (ps : List Ty) → (ps.foldr Ty.pair Ty.unit).den → List AVal
  | [], _ => []
  | t :: ps, x => .val t x.1 :: dvals ps x.2

/-- the names and versions of the cells' own memory -/
def ownP : List (Ty × Bool) → List AVal → List (Nat × Nat)
  | (_, true) :: cs, .slc id ver _ :: vs => (id, ver) :: ownP cs vs
  | _ :: cs, _ :: vs => ownP cs vs
  | _, _ => []

/-- the names that the other cells use -/
def dataRefs : List (Ty × Bool) → List AVal → List Nat
  | (_, false) :: cs, v :: vs => refs v ++ dataRefs cs vs
  | _ :: cs, _ :: vs => dataRefs cs vs
  | _, _ => []

/-- what cells hold -/
def readC (hp : Heap) (strict : Bool) : (cs : List (Ty × Bool)) → List AVal → Option ((cs.map (·.1)).foldr Ty.pair Ty.unit).den
  | [], [] => some ()
  | (t, false) :: cs, v :: vs => bif strict && (ownArg v && !t.rigid) then none else match v.as hp t with
    | some x => match readC hp strict cs vs with
      | some y => some (x, y)
      | none => none
    | none => none
  | (.list e, true) :: cs, .slc id ver none :: vs => match hget hp id with
    | some (.arr t v xs) => bif v == ver then (match castTy (.list e) (t' := .list t) xs with
      | some x => match readC hp strict cs vs with
        | some y => some (x, y)
        | none => none
      | none => none) else none
    | _ => none
  | _, _ => none

/-- such cells, their own memory by names and versions -/
def celC : (cs : List (Ty × Bool)) → List (Nat × Nat) → ((cs.map (·.1)).foldr Ty.pair Ty.unit).den → List AVal
  | [], _, _ => []
  | (t, false) :: cs, l, y => .val t y.1 :: celC cs l y.2
  | (_, true) :: cs, (i, v) :: l, y => .slc i v none :: celC cs l y.2
  | (_, true) :: cs, [], y => .undef :: celC cs [] y.2

/-- .. and that memory -/
def arrH : (cs : List (Ty × Bool)) → List (Nat × Nat) → ((cs.map (·.1)).foldr Ty.pair Ty.unit).den → Heap
  | [], _, _ => []
  | (_, false) :: cs, l, y => arrH cs l y.2
  | (.list e, true) :: cs, (i, v) :: l, y => (i, .arr e v y.1) :: arrH cs l y.2
  | (_, true) :: cs, l, y => arrH cs l y.2

def hsets : Heap → Heap → Heap
  | [], h => h
  | (i, o) :: l, h => hsets l (hset h i o)

def firstP : List (Ty × Bool) → Nat → List (Nat × Nat)
  | [], _ => []
  | (_, true) :: cs, n => (n, 0) :: firstP cs (n + 1)
  | (_, false) :: cs, n => firstP cs n

def nodupN : List Nat → Bool
  | [] => true
  | i :: l => !memN l i && nodupN l

def SumB.rigid (s : SumB) : Bool := s.cs.all (fun c => c.1.rigid || (c.2 && c.1.elem.rigid)) && s.rs.all Ty.rigid

/-- nil slices become memory of our own -/
def fixNils (cl : Bool) : Nat → List (Ty × Bool) → List AVal → St → (List AVal → St → Option R) → Option R
  | n, (.list e, true) :: cs, .nils :: vs, st, K => bif ltN 0 e.size then alloc cl (some n) (.arr e 0 []) st fun id st => fixNils cl (n + 1) cs vs st fun l st => K (.slc id 0 none :: l) st else none
  | n, _ :: cs, v :: vs, st, K => fixNils cl (n + 1) cs vs st fun l st => K (v :: l) st
  | _, _, l, st, K => K l st

def SumB.go (s : SumB) (id : Nat) (as : List AVal) (st : St) (K : AVal → St → Option R) : Option R :=
  match hget st.hp id with
  | some (.box t cells) =>
    bif Nat.beq t s.bt && ((nodupN ((ownP s.cs cells).map (·.1)) && noneOf (id :: (ownP s.cs cells).map (·.1)) (refsL as ++ dataRefs s.cs cells)) && (s.rigid || !as.any ownArg)) then
      match readC st.hp (!s.rigid) s.cs cells with
      | some x => match asAll st.hp s.ps as with
        | some y => obind (s.f x y) fun z => K (resA (dvals s.rs z.2))
            { st with hp := hset (hsets (arrH s.cs ((ownP s.cs cells).map fun p => (p.1, p.2 + 1)) z.1) st.hp) id (.box t (celC s.cs ((ownP s.cs cells).map fun p => (p.1, p.2 + 1)) z.1)) }
        | none => none
      | none => none
    else none
  | _ => none

def SumB.call (s : SumB) (cl : Bool) (args : List AVal) (st : St) (K : AVal → St → Option R) : Option R :=
  match args with
  | .ptr id 0 :: as => match hget st.hp id with
    | some (.box t cells) => bif cells.any (fun v => match v with | .nils => true | _ => false) then
        fixNils cl (200000 + 20 * (id % 5000)) s.cs cells st fun cells st => s.go id as { st with hp := hset st.hp id (.box t cells) } K
      else s.go id as st K
    | _ => none
  | _ => none

inductive Job where
  | call (f : FuncId) (args : List AVal)
  | yield (id : Nat) (args : List AVal)

/-- what is known of a loop: the data at its head, and how it is left: by an exit, or by a return -/
structure LoopSum where
  V : Type
  A : V → Type
  B : V → Type
  get : St → Option V
  spec : (v : V) → Option (A v ⊕ B v)
  exA : V → Ex
  stA : St → (v : V) → A v → St
  stB : St → (v : V) → B v → St
  /-- how deep the calls of its rounds may go -/
  dep : Nat := 0
  /-- how the second way out is taken -/
  exB : V → Ex := fun _ => .ret

def osum {α β γ : Type} (o : α ⊕ β) (f : α → γ) (g : β → γ) : γ :=
  match o with
  | .inl a => f a
  | .inr b => g b

structure Env where
  P : Program
  T : TT
  cl : Bool
  kp : FuncId → Nat → Option Keep
  sg : FuncId → Option Sum
  lp : FuncId → Nat → Option LoopSum
  /-- is the text of a range over a function known by its name? -/
  rf : FuncId → Nat → Bool := fun _ _ => false
  /-- is a function the check of builders of texts? -/
  bf : FuncId → Bool := fun _ => false
  /-- how deep the calls may go still -/
  dp : Nat := 0
  /-- what is known of functions that are given the address of a block -/
  sb : FuncId → Option SumB := fun _ => none

def Env.at (E : Env) (n : Nat) : Env := { E with dp := n }

/-- the check of builders of texts: nothing turns, but that a builder may know its place now -/
def bldCheck (T : TT) (args : List AVal) (st : St) (K : AVal → St → Option R) : Option R :=
  match args with
  | [.ptr id 0] => match hget st.hp id with
    | some (.box t (.slf i :: .slc _ _ _ :: [])) => bif Nat.beq i id && ((T.at t).known && (T.at t).bld) then K (.tup []) st else none
    | _ => none
  | _ => none

abbrev ExecFn (R : Type) := Job → St → (AVal → St → Option R) → Option R

/-- calls whose end is wanted ahead of what comes behind them: a value, a state -/
structure Side where
  q : Job → St → Option AVal
  s : ExecFn St
  u : ExecFn Unit

def callV (E : Env) (ex : ExecFn R) : CallFn R := fun fv args dst st K =>
  match fv with
  | .fn g caps => match E.sg g with
    | some s => s.call E.cl (args ++ caps) dst st K
    | none => match E.sb g with
      | some s => s.call E.cl (args ++ caps) st K
      | none => bif E.bf g then bldCheck E.T (args ++ caps) st K else ex (.call g (args ++ caps)) st K
  | .mfn g fst => match E.sb g with
    | some s => s.call E.cl (fst ++ args) st K
    | none => ex (.call g (fst ++ args)) st K
  | .yld id => ex (.yield id args) st K
  | _ => none

/-- a value that has one form only -/
def AVal.rigid : AVal → Bool
  | .val t _ => t.rigid
  | _ => false

def AVal.rigidR : AVal → Bool
  | .tup l => l.all AVal.rigid
  | v => v.rigid

/-- a value that needs no memory of ours: the slices of our own as what they hold -/
def asVal (hp : Heap) : AVal → Option AVal
  | .val t x => some (.val t x)
  | .nils => some .nils
  | .slc id ver vw => match hget hp id with
    | some (.arr t v xs) => bif v == ver then some (.val (.list t) (viewOf xs vw)) else none
    | _ => none
  | _ => none

def asVals (hp : Heap) : List AVal → Option (List AVal)
  | [] => some []
  | v :: l => match asVal hp v with
    | some v => match asVals hp l with
      | some l => some (v :: l)
      | none => none
    | none => none

/-- calls whose results have one form only, and that see nothing of our memory -/
def callQ (E : Env) (exd : Job → St → Option AVal) : CallFn R := fun fv args dst st K =>
  match fv with
  | .fn g [] => match E.sg g with
    | some s => bif s.rs.all (fun r => !r.2 && r.1.rigid) then s.call E.cl args dst st K else none
    | none => match asVals st.hp args with
      | some args => match exd (.call g args) ⟨[], [], [], st.nxt⟩ with
        | some v => bif v.rigidR then K v st else none
        | none => none
      | none => none
  | _ => none

/-- operations that make nothing and write nothing -/
def quietOp : Op → Bool
  | .move _ | .assign _ | .pick _ _ _ | .load _ _ | .nilCheck _ | .binOp _ _ _ _ _ | .unOp _ _ _ | .slice _ _ _ _ _ | .fieldAddr _ _ _ | .field _ _ _ | .indexAddr _ _ _ | .index _ _ _ | .extract _ _ | .build _ _ | .convert _ _ _ => true
  | .call c => match c.callee with
    | .builtin .len => true
    | .builtin .min => true
    | .builtin .max => true
    | .value _ => true
    | _ => false
  | _ => false

/-- quiet operations that are no calls of functions -/
def quietOwn : Op → Bool
  | .call c => match c.callee with
    | .builtin .len => true
    | .builtin .min => true
    | .builtin .max => true
    | _ => false
  | o => quietOp o

/-- operations whose value hangs on their operands alone -/
def pureOp : Op → Bool
  | .move _ | .assign _ | .pick _ _ _ | .nilCheck _ | .binOp _ _ _ _ _ | .unOp _ _ _ | .slice _ _ _ _ _ | .fieldAddr _ _ _ | .field _ _ _ | .indexAddr _ _ _ | .index _ _ _ | .extract _ _ => true
  | .call c => match c.callee with
    | .builtin .len => true
    | .builtin .min => true
    | .builtin .max => true
    | _ => false
  | _ => false

/-- operations that leave what is there as it is, whatever their operands are -/
def keepsOp : Op → Bool
  | .move _ | .assign _ | .pick _ _ _ | .load _ _ | .index _ _ _ | .extract _ _ | .alloc _ | .box _ _ => true
  | .call c => match c.callee with
    | .builtin .len => true
    | .builtin .unsafeSliceData => true
    | _ => false
  | _ => false

def noDefer (ops : Array Oper) : Bool := ops.toList.all fun o => match o.op with | .defer _ => false | .select _ _ => false | _ => true

def memN' (l : List Nat) (i : Nat) : Bool := l.any (Nat.beq i)

def waitsAny (ops : Array Oper) (j : Nat) (D : List Nat) : Bool := match ops[j]? with
  | some oj => oj.after.any fun e => Region.binds .any e && memN' D e.on
  | none => false

/-- those that wait for some, directly or through others -/
def growD (ops : Array Oper) (listed : Array Bool) (n : Nat) (D : List Nat) : List Nat :=
  (List.range n).foldl (fun D j => bif !listed.getD j true && (!memN' D j && waitsAny ops j D) then j :: D else D) D

/-- may an operation be taken first? -/
def takeOk (ops : Array Oper) (listed : Array Bool) (i : Nat) (pure : Bool) : Bool := match ops[i]? with
  | some oi => let D := growD ops listed ops.size [i]
    memN' D i && (D.all (fun j => !listed.getD j true && (Nat.beq j i || waitsAny ops j D)) && (List.range ops.size).all fun j => listed.getD j true || (memN' D j || (match ops[j]? with
      | some oj => oi.apart ops oj && (pure || keepsOp oj.op)
      | none => true)))
  | none => false

def opIs (ops : Array Oper) (f : Op → Bool) (i : Nat) : Bool := match ops[i]? with
  | some o => f o.op
  | none => false

/-! ### are two states one? -/

def eqList {α : Type} (f : α → α → Bool) : List α → List α → Bool
  | [], [] => true
  | x :: l, y :: m => f x y && eqList f l m
  | _, _ => false

def eqD : (t : Ty) → t.den → t.den → Bool
  | .unit, _, _ => true
  | .bool, x, y => x == y
  | .int _, x, y => eqI x y
  | .str, x, y => eqS x y
  | .list t, x, y => eqList (eqD t) x y
  | .pair a b, x, y => eqD a x.1 y.1 && eqD b x.2 y.2

def eqView : Option (Int × Int) → Option (Int × Int) → Bool
  | none, none => true
  | some a, some b => eqI a.1 b.1 && eqI a.2 b.2
  | _, _ => false

mutual
def eqV (a b : AVal) : Bool :=
  match a with
  | .undef => match b with | .undef => true | _ => false
  | .val t x => match b with
    | .val u y => (match castTy t y with | some y => eqD t x y | none => false)
    | _ => false
  | .nils => match b with | .nils => true | _ => false
  | .nilp => match b with | .nilp => true | _ => false
  | .nilfn => match b with | .nilfn => true | _ => false
  | .emp => match b with | .emp => true | _ => false
  | .tup l => match b with | .tup m => eqVs l m | _ => false
  | .agg l => match b with | .agg m => eqVs l m | _ => false
  | .cellp t x => match b with
    | .cellp u y => (match castTy t y with | some y => eqD t x y | none => false)
    | _ => false
  | .lst t x n => match b with
    | .lst u y m => n == m && (match castTy (.list t) (t' := .list u) y with | some y => eqD (.list t) x y | none => false)
    | _ => false
  | .ptr i o => match b with | .ptr j p => Nat.beq i j && Nat.beq o p | _ => false
  | .slc i v w => match b with | .slc j u x => Nat.beq i j && (Nat.beq v u && eqView w x) | _ => false
  | .ep i v n o => match b with | .ep j u m p => Nat.beq i j && (Nat.beq v u && (eqN n m && Nat.beq o p)) | _ => false
  | .fn f l => match b with | .fn g m => Nat.beq f g && eqVs l m | _ => false
  | .mfn f l => match b with | .mfn g m => Nat.beq f g && eqVs l m | _ => false
  | .mpv i => match b with | .mpv j => Nat.beq i j | _ => false
  | .yld i => match b with | .yld j => Nat.beq i j | _ => false
  | .slf i => match b with | .slf j => Nat.beq i j | _ => false
  | .sd i v => match b with | .sd j u => Nat.beq i j && Nat.beq v u | _ => false
def eqVs : List AVal → List AVal → Bool
  | [], m => match m with | [] => true | _ => false
  | a :: l, m => match m with | b :: m => eqV a b && eqVs l m | _ => false
end

def eqEx (a b : Ex) : Bool := match a with
  | .normal => match b with | .normal => true | _ => false
  | .exit i => match b with | .exit j => Nat.beq i j | _ => false
  | .goto i => match b with | .goto j => Nat.beq i j | _ => false
  | .ret => match b with | .ret => true | _ => false

def eqOEx : Option Ex → Option Ex → Bool
  | none, none => true
  | some a, some b => eqEx a b
  | _, _ => false

/-- are two things one, but for the texts of named ranges? -/
def eqO (a b : AObj) : Bool :=
  match a with
  | .box t l => match b with | .box u m => Nat.beq t u && eqVs l m | _ => false
  | .arr t v x => match b with
    | .arr u w y => Nat.beq v w && (match castTy (.list t) (t' := .list u) y with | some y => eqD (.list t) x y | none => false)
    | _ => false
  | .lp f fr ps _ _ k n p => match b with
    | .lp g fs qs _ _ h m q => Nat.beq f g && (eqVs fr fs && (eqList Nat.beq ps qs && ((match k, h with | some k, some h => Nat.beq k h | _, _ => false) && (Nat.beq n m && eqOEx p q))))
    | _ => false
  | .dead => match b with | .dead => true | _ => false
  | .mp k v l => match b with
    | .mp k' v' m => decide (k = k') && (decide (v = v') && decide (l = m))
    | _ => false

def eqH : Heap → Heap → Bool
  | [], h => match h with | [] => true | _ => false
  | (i, a) :: h, g => match g with
    | (j, b) :: g => Nat.beq i j && (eqO a b && eqH h g)
    | [] => false

def eqSt (a b : St) : Bool := eqVs a.fr b.fr && (eqList eqVs a.stk b.stk && (eqH a.hp b.hp && Nat.beq a.nxt b.nxt))

/-- the texts of named ranges, as an older memory has them -/
def textO (old : Heap) (i : Nat) (a : AObj) : Option AObj := match a with
  | .lp f fr ps _ _ (some k) n p => match hget old i with
    | some (.lp g _ _ asg bd (some h) _ _) => bif Nat.beq f g && Nat.beq k h then some (.lp f fr ps asg bd (some k) n p) else none
    | _ => none
  | .lp _ _ _ _ _ none _ _ => none
  | a => some a

def textH (old : Heap) : Heap → Option Heap
  | [] => some []
  | (i, a) :: h => match textO old i a with
    | some a => match textH old h with
      | some h => some ((i, a) :: h)
      | none => none
    | none => none

def noTwice : Heap → Bool
  | [] => true
  | (k, _) :: h => !h.any (fun e => Nat.beq e.1 k) && noTwice h

/-- the one state to which all ways come -/
def mergeAll (old : Heap) : List (Option St) → Option St
  | some a :: l => bif (some a :: l).all (fun b => match b with | some b => eqSt a b && noTwice b.hp | none => false) then
      (match textH old a.hp with | some h => some { a with hp := h } | none => none) else none
  | _ => none

/-- so that states to which several ways come are alike; where names are by number they are so already -/
def tidy (cl : Bool) (st : St) : St := bif cl then st else { st with hp := sortH st.hp }

/-! ### regions that draw their order: what is quiet goes ahead, of the others all orders are tried -/

def waitsOn (ops : Array Oper) (i k : Nat) : Bool := match ops[i]? with
  | some oi => oi.after.any fun e => Region.binds .any e && Nat.beq e.on k
  | none => false

/-- an operation doesn't look at what one behind it makes -/
def halfApart (ops : Array Oper) (x y : Oper) : Bool := match y.dst with
  | some d => !(x.looksAt ops).contains d && x.dst != some d
  | none => true

/-- those that an operation doesn't wait for keep clear of it -/
def okLate (ops : Array Oper) (log : List Nat) (i : Nat) : Bool := match ops[i]? with
  | some oi => halfApart ops { oi with dst := none } oi && log.all fun k => match ops[k]? with
    | some ok => halfApart ops ok oi && (waitsOn ops i k || ok.apart ops oi)
    | none => false
  | none => false

/-- .. of an operation that doesn't go ahead: those that it waits for are done then -/
def okStep (ops : Array Oper) (log : List Nat) (i : Nat) : Bool := match ops[i]? with
  | some oi => log.all fun k => match ops[k]? with
    | some ok => waitsOn ops i k || ok.apart ops oi
    | none => false
  | none => false

def blankL (ops : Array Oper) : List Nat → List AVal → List AVal
  | [], fr => fr
  | i :: l, fr => match (ops[i]?).bind (·.dst) with
    | some d => (blankL ops l fr).set d .undef
    | none => blankL ops l fr

def sameAt (dst : Option Nat) (z : AVal) (st : St) : Bool := match dst with
  | some d => eqV z (st.fr.getD d .undef)
  | none => true

def rigidSum (s : Sum) : Bool := s.rs.all fun r => !r.2 && r.1.rigid

/-- calls of which all is known, with data that have one form only -/
def sumQ (sg : FuncId → Option Sum) (cl : Bool) : CallFn R := fun fv args dst st K => match fv with
  | .fn g [] => match sg g with
    | some s => bif rigidSum s && args.all AVal.rigid then s.call cl args dst st K else none
    | none => none
  | _ => none

/-- no call, but of a builtin or of a function of which all is known -/
def plainOp (sg : FuncId → Option Sum) (o : Op) : Bool := match o with
  | .call c => match c.callee with
    | .builtin _ => true
    | .value (.func g) => match sg g with
      | some s => rigidSum s
      | none => false
    | _ => false
  | _ => true

def unitAll : List (Option Unit) → Option R → Option R
  | [], k => k
  | o :: l, k => obind o fun _ => unitAll l k

/-- a state whose texts of named ranges are as an older memory has them -/
def settle (old : Heap) (a : St) : Option St := match textH old a.hp with
  | some h => some { a with hp := h }
  | none => none

/-- what a call looks at -/
def callArgs (o : Oper) (fr : List AVal) : List AVal := match o.op with
  | .call c => match c.callee with
    | .value v => evalO fr v :: c.args.toList.map (evalO fr)
    | _ => []
  | _ => []

/-- may a call go ahead? -/
def isRigid (sg : FuncId → Option Sum) (ops : Array Oper) (fr : List AVal) (i : Nat) : Bool := match ops[i]? with
  | some o => match callArgs o fr with
    | .fn g [] :: args => match sg g with
      | some s => (rigidSum s && args.all AVal.rigid) && (match o.dst with | some d => ltN d fr.length | none => true)
      | none => false
    | _ => false
  | none => false

def slotAt (dst : Option Nat) (fr : List AVal) : List AVal := match dst with
  | some d => [fr.getD d .undef]
  | none => []

/-- what went ahead comes to the same value still; the oldest first -/
def recheck (T : TT) (cl : Bool) (call : CallFn R) (ops : Array Oper) (old : List AVal) : List Nat → St → (St → Option R) → Option R
  | [], st, K => K st
  | i :: l, st, K => match ops[i]? with
    | some oi => bif quietOwn oi.op then (evalOp T cl call oi st fun z _ => bif sameAt oi.dst z st then recheck T cl call ops old l st K else none)
      else bif eqVs (callArgs oi old) (callArgs oi st.fr) && eqVs (slotAt oi.dst old) (slotAt oi.dst st.fr) then recheck T cl call ops old l st K else none
    | none => none

/-- an operation that isn't quiet; others may not have gone ahead of it yet -/
def lateStep (T : TT) (cl : Bool) (call : CallFn R) (ops : Array Oper) (j : Nat) (log : List Nat) (st : St) (K : St → Option R) : Option R :=
  match ops[j]? with
  | some oj => bif oj.guard.isNone && okStep ops log j then
      evalOp T cl call oj { st with fr := blankL ops (log.filter fun i => !waitsOn ops j i) st.fr, stk := st.fr :: st.stk } fun z st1 => match st1.stk with
        | fr :: stk => recheck T cl call ops st.fr (log.filter fun i => !waitsOn ops j i).reverse ({ st1 with fr := fr, stk := stk }.put oj.dst z) K
        | [] => none
    else none
  | none => none

def evalAny (T : TT) (cl : Bool) (sg : FuncId → Option Sum) (callS : CallFn St) (callU : CallFn Unit) (ops : Array Oper) : Nat → {R : Type} → CallFn R → Array Bool → List Nat → St → (St → Option R) → Option R
  | 0, _, _, _, _, _, _ => none
  | n + 1, _, call, listed, log, st, K => match Region.ready .any ops listed with
    | [] => K st
    | k :: rs => match (k :: rs).find? fun i => opIs ops quietOwn i && okLate ops log i with
      | some i => match ops[i]? with
        | some oi => bif oi.guard.isNone && okLate ops log i then
            evalOp T cl call oi st fun z st => evalAny T cl sg callS callU ops n call (listed.setIfInBounds i true) (i :: log) (st.put oi.dst z) K else none
        | none => none
      | none => match (k :: rs).find? fun i => isRigid sg ops st.fr i with
       | some i => match ops[i]? with
        | some oi => bif oi.guard.isNone && okLate ops log i then
            evalOp T cl (sumQ sg cl) oi st fun z st => evalAny T cl sg callS callU ops n call (listed.setIfInBounds i true) (i :: log) (st.put oi.dst z) K else none
        | none => none
       | none => match rs with
        | [] => lateStep T cl call ops k log st fun st => evalAny T cl sg callS callU ops n call (listed.setIfInBounds k true) log st K
        | _ => bif cl || !ops.toList.all (fun o => plainOp sg o.op) then (match mergeAll st.hp ((k :: rs).map fun j => lateStep T cl callS ops j log st fun st => evalAny T cl sg callS callU ops n callS (listed.setIfInBounds j true) log st fun st => some (tidy cl st)) with
          | some st => K st
          | none => none) else
          lateStep T cl call ops k log st fun st' => evalAny T cl sg callS callU ops n call (listed.setIfInBounds k true) log st' fun st1 =>
            bif noTwice (tidy cl st1).hp then (match settle st.hp (tidy cl st1) with
              | some m => unitAll (rs.map fun j => lateStep T cl callU ops j log st fun st' => evalAny T cl sg callS callU ops n callU (listed.setIfInBounds j true) log st' fun b =>
                  bif eqSt (tidy cl st1) (tidy cl b) && noTwice (tidy cl b).hp then some () else none) (K m)
              | none => none) else none

/-- an order of a region's operations to which all that are allowed come -/
def planFrom (ops : Array Oper) : Nat → Array Bool → Option (List Nat)
  | 0, listed => bif (Region.ready .any ops listed).isEmpty then some [] else none
  | n + 1, listed => match Region.ready .any ops listed with
    | [] => some []
    | k :: rs => match (k :: rs).find? fun i => opIs ops pureOp i && takeOk ops listed i true with
      | some i => match planFrom ops n (listed.setIfInBounds i true) with
        | some l => some (i :: l)
        | none => none
      | none => match (k :: rs).find? fun i => opIs ops quietOwn i && takeOk ops listed i false with
        | some i => match planFrom ops n (listed.setIfInBounds i true) with
          | some l => some (i :: l)
          | none => none
        | none => match rs with
          | [] => match planFrom ops n (listed.setIfInBounds k true) with
            | some l => some (k :: l)
            | none => none
          | _ => none

def planOf (ops : Array Oper) : Option (List Oper) := bif noDefer ops then (match planFrom ops ops.size (Array.replicate ops.size false) with
  | some l => some (l.filterMap fun i => ops[i]?)
  | none => none) else none

/-- no call of a function that is known by the block whose address it takes -/
def plainB (sb : FuncId → Option SumB) (o : Op) : Bool := match o with
  | .call c => match c.callee with
    | .value (.func g) => (sb g).isNone
    | _ => true
  | _ => true

def regionOk (ops : Array Oper) : Bool := ops.toList.all (fun o => quietOp o.op) && Region.lexB .any ops

def kSeq (rb : St → (Ex → St → Option R) → Option R) (K : Ex → St → Option R) : Ex → St → Option R := fun e st => match e with
  | .normal => rb st K
  | e => K e st

def kBlock (id : Nat) (K : Ex → St → Option R) : Ex → St → Option R := fun e st => match e with
  | .exit i => bif i == id then K .normal st else K (.exit i) st
  | e => K e st

/-- a piece of code that is taken by itself: its end is an exit -/
def cutF (F : St → (Ex → St → Option R) → Option R) : St → (Ex → St → Option R) → Option R := fun st K => F st fun e st => match e with
  | .normal => K (.exit 999999) st
  | .exit i => bif Nat.beq i 999999 then none else K (.exit i) st
  | e => K e st

/-- such a piece: by what is known of it, or in one round -/
def cutAt (E : Env) (f : FuncId) (k : Nat) (F : St → (Ex → St → Option R) → Option R) (st : St) (K : Ex → St → Option R) : Option R :=
  match E.lp f k with
  | some L => bif L.dep.ble E.dp then (match L.get st with
    | some v => obind (L.spec v) fun o => osum o (fun a => kBlock 999999 K (L.exA v) (L.stA st v a)) fun b => kBlock 999999 K (L.exB v) (L.stB st v b)
    | none => none) else none
  | none => match E.kp f k with
    | none => F st K
    | some kp => match trim kp.slots kp.owns st with
      | some st => iter (some kp) (cutF F) fuelN st (kBlock 999999 K)
      | none => none

def kScope (K : Ex → St → Option R) : Ex → St → Option R := fun e st => match e with
  | .goto _ => none
  | e => K e st

/-- what stays at a range over a function -/
def rangeTrim (k : Option Keep) (st : St) : St := match k with
  | some k => { st with fr := keepL k.slots 0 st.fr }
  | none => st

def run (E : Env) (ex : ExecFn R) (exd : Side) (f : FuncId) : Code → St → (Ex → St → Option R) → Option R
  | .skip, st, K => K .normal st
  | .label _, st, K => K .normal st
  | .region id ops draw, st, K =>
    let st := rangeTrim (E.kp f (600000 + id)) st
    bif draw then (bif regionOk ops && ops.toList.all (fun o => quietOwn o.op) then evalOps E.T E.cl (callQ E exd.q) ops (K .normal) ops.toList st else match planOf ops with
      | some l => evalOps E.T E.cl (callV E ex) ops (K .normal) l st
      | none => bif regionOk ops && ops.toList.all (fun o => plainB E.sb o.op) then evalOps E.T E.cl (callQ E exd.q) ops (K .normal) ops.toList st else bif noDefer ops then evalAny E.T E.cl E.sg (callV E exd.s) (callV E exd.u) ops (ops.size + 1) (callV E ex) (Array.replicate ops.size false) [] st (K .normal) else none)
    else evalOps E.T E.cl (callV E ex) ops (K .normal) ops.toList st
  | .seq a b, st, K => run E ex exd f a st (kSeq (cutAt E f (800000 + firstRegion b) (run E ex exd f b)) K)
  | .cond c x y, st, K => match evalO st.fr c with
    | .val .bool b => bif b then run E ex exd f x st K else run E ex exd f y st K
    | _ => none
  | .block id c, st, K => run E ex exd f c st (kBlock id K)
  | .loop c, st, K => match E.lp f (firstRegion c) with
    | some L => bif L.dep.ble E.dp then (match L.get st with
      | some v => obind (L.spec v) fun o => osum o (fun a => K (L.exA v) (L.stA st v a)) fun b => K (L.exB v) (L.stB st v b)
      | none => none) else none
    | none => match E.kp f (firstRegion c) with
      | none => iter none (run E ex exd f c) fuelN st K
      | some k => match trim k.slots k.owns st with
        | some st => iter (some k) (run E ex exd f c) fuelN st K
        | none => none
  | .exit id, st, K => K (.exit id) st
  | .goto l, st, K => K (.goto l) st
  | .ret, st, K => K .ret st
  | .scope c, st, K => run E ex exd f c st (kScope K)
  | .rangeFunc fv ps asg bd, st, K => match evalO st.fr fv with
    | .fn g caps =>
      let st := rangeTrim (E.kp f (500000 + firstRegion bd)) st
      alloc E.cl (some (700000 + ps.toList.headD 0)) (.lp f st.fr ps.toList asg bd (bif E.rf f (firstRegion bd) then some (firstRegion bd) else none) 0 none) st fun id st =>
        ex (.call g (.yld id :: caps)) { st with stk := [.yld id] :: st.stk } fun _ st => match st.stk with
          | [.yld id] :: stk => match hget st.hp id with
            | some (.lp _ _ _ _ _ _ 0 none) => K .normal { st with stk := stk, hp := hset st.hp id .dead }
            | some (.lp _ _ _ _ _ _ 1 (some e)) => K e { st with stk := stk, hp := hset st.hp id .dead }
            | _ => none
          | _ => none
    | _ => none
  | .refuse _, _, _ => none

/-- a function's results -/
def resultsOf (T : TT) (st : St) : List ResultVar → (List AVal → Option R) → Option R
  | [], K => K []
  | .tmp t :: l, K => resultsOf T st l fun vs => K (st.fr.getD t .undef :: vs)
  | .cell a t :: l, K => evLoad T st.hp t (st.fr.getD a .undef) fun v => resultsOf T st l fun vs => K (v :: vs)

def setParams (fr : List AVal) : List Nat → List AVal → List AVal
  | p :: ps, v :: vs => setParams (fr.set p v) ps vs
  | _, _ => fr

/-- the frame above comes back -/
def pop (st : St) (K : St → Option R) : Option R :=
  match st.stk with
  | fr :: stk => K { st with fr := fr, stk := stk }
  | [] => none

/-- within a range over a function nothing is known of loops, unless the range has a name -/
def Env.keyed (E : Env) : Option Nat → Env
  | some _ => E
  | none => { E with lp := fun _ _ => none, rf := fun _ _ => false }

def exec (E : Env) : Nat → {R : Type} → ExecFn R
  | 0, _, _, _, _ => none
  | n + 1, R, .call f args, st, K => match E.P.funcs[f]? with
    | none => none
    | some fn => match fn.body with
      | none => none
      | some c => bif args.length.ble fn.ntmps then
          (run (E.at n) (exec E n) ⟨fun j st => exec E n (R := AVal) j st fun v _ => some v, exec E n, exec E n⟩ f c { fr := args ++ List.replicate (fn.ntmps - args.length) (.tup []), stk := st.fr :: st.stk, hp := st.hp, nxt := st.nxt } fun e st1 =>
            match e with
            | .normal | .ret => resultsOf E.T st1 fn.results.toList fun vs =>
              let v := match vs with
                | [v] => v
                | vs => .tup vs
              match gc (bif E.cl then st.nxt else 1000000 * st1.stk.length) v { st1 with fr := [] } with
              | some st2 => pop st2 (K v)
              | none => none
            | _ => none) else none
  | n + 1, R, .yield id args, st, K => match hget st.hp id with
    | some (.lp f fr0 ps asg bd ky 0 none) => bif args.length == ps.length then
        (run ((E.at n).keyed ky) (exec E n) ⟨fun j st => exec E n (R := AVal) j st fun v _ => some v, exec E n, exec E n⟩ f asg { fr := setParams fr0 ps args, stk := [.yld id] :: st.fr :: st.stk, hp := st.hp, nxt := st.nxt } fun e st1 => match e, st1.stk with
          | .normal, [.yld id] :: _ => match hget st1.hp id with
            | some (.lp f1 fr1 ps1 asg1 bd1 ky1 0 none) => run ((E.at n).keyed ky) (exec E n) ⟨fun j st => exec E n (R := AVal) j st fun v _ => some v, exec E n, exec E n⟩ f bd { st1 with hp := hset st1.hp id (.lp f1 fr1 ps1 asg1 bd1 ky1 2 none) } fun e st2 => match st2.stk with
              | [.yld id] :: stk => match hget st2.hp id with
                | some (.lp f2 fr2 ps2 asg2 bd2 ky2 2 none) =>
                  match gc (bif E.cl then st.nxt else 1000000 * st2.stk.length) .undef { st2 with fr := [], stk := stk, hp := hset st2.hp id (match e with | .normal => .lp f2 fr2 ps2 asg2 bd2 ky2 0 none | e => .lp f2 fr2 ps2 asg2 bd2 ky2 1 (some e)) } with
                  | some st3 => pop st3 (K (.val .bool (match e with | .normal => true | _ => false)))
                  | none => none
                | _ => none
              | _ => none
            | _ => none
          | _, _ => none) else none
    | _ => none
end
end Go.Proofs.YtnmaceljkegenaaDoor
