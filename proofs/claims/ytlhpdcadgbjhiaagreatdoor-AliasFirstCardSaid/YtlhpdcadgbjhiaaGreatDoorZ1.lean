/- Parts of the proof, joined and shortened by a program: the plain machine, the functions as it prints them, and the mathematics over them. -/
import Derived.Calls
import Derived.Still
import Derived.Orders
import Derived.Laws.Sem
import Derived.Test.YtlhpdcadgbjhiaaGreatDoorProg
import Derived.WalkKit
import Derived.WalkSmall
import Derived.Below
import Derived.Laws.AppendOwn
import Derived.Lib.LaidTab
import Derived.Lib.ItoaNum
import Derived.KernelRfl
import Derived.Laws.StructEq
import Derived.Laws.Slices
import Derived.Laws.Cells
import Derived.Laws.Strings
import Derived.Laws.MakeOwn
import Derived.Laws.BytesString
import Derived.Maps.AppendAt
import Derived.Lib.AppendStr
import Derived.Lib.UnsafeStr
import Derived.MapKept
import Derived.TacticsIn
import Derived.RangeFuncIn
import Derived.RangeFuncLeaves
import Derived.Sort.QuietThIn
set_option linter.unusedVariables false
set_option linter.unusedSimpArgs false
set_option maxRecDepth 100000
set_option maxHeartbeats 4000000
namespace Go.Proofs.YtlhpdcadgbjhiaaGreatDoor
section
open Option renaming some → a6, none → a7
theorem aa.{u} {d:Sort u} (a b:d):cond true a b=a:=rfl
theorem ac.{u} {d:Sort u} (a b:d):cond false a b=b:=rfl
theorem am.{u} {c:Prop} {h:Decidable c} (d:c) {f:Sort u} {t e:f}:ite c t e=t:=if_pos d
theorem aq.{u} {c:Prop} {h:Decidable c} (d:¬c) {f:Sort u} {t e:f}:ite c t e=e:=if_neg d
inductive Ty where
 |unit
 |bool
 |int (k:IntKind)
 |str
 |list (t:Ty)
 |pair (a b:Ty)
 deriving DecidableEq
@[reducible] def Ty.den:Ty->Type
 |.unit=>Unit
 |.bool=>Bool
 |.int _=>Int
 |.str=>List UInt8
 |.list t=>List t.den
 |.pair a b=>a.den×b.den
def Ty.dflt:(t:Ty)->t.den
 |.unit=>()
 |.bool=>false
 |.int _=>0
 |.str=>[]
 |.list _=>[]
 |.pair a b=>(a.dflt,b.dflt)
def Ty.size:Ty->Nat
 |.unit=>0
 |.pair a b=>a.size+b.size
 |_=>1
def Ty.isAgg:Ty->Bool
 |.unit=>true
 |.pair _ _=>true
 |_=>false
def jE {t':Ty} (t:Ty) (x:t'.den):Option t.den:=if h:t'=t then a6 (cast (congrArg Ty.den h) x)else a7
def Ty.same:(t:Ty)->t.den->t.den->Bool
 |.unit,_,_=>true
 |.bool,x,y=>x==y
 |.int _,x,y=>x==y
 |.str,x,y=>x==y
 |.list _,_,_=>false
 |.pair a b,x,y=>a.same x.1 y.1&&b.same x.2 y.2
def Ty.comparable:Ty->Bool
 |.list _=>false
 |.pair a b=>a.comparable&&b.comparable
 |_=>true
def sub {d:Type} (l:List d) (lo hi:Int):List d:=(l.take hi.toNat).drop lo.toNat
inductive bU where
 |undef
 |val (t:Ty) (x:t.den)
 |nils
 |nilp
 |nilfn
 |tup (l:List bU)
 |agg (l:List bU)
 |cellp (t:Ty) (x:t.den)
 |ptr (id off:Nat)
 |slc (id ver:Nat) (view:Option (Int×Int))
 |ep (id ver:Nat) (i:Nat) (off:Nat)
 |fn (f:FuncId) (caps:List bU)
 |mfn (f:FuncId) (fst:List bU)
 |mpv (id:Nat)
 |yld (id:Nat)
 |emp
 |lst (t:Ty) (x:List t.den) (nil:Bool)
 |slf (id:Nat)
 |sd (id ver:Nat)
inductive Ex where
 |normal
 |exit (id:Nat)
 |goto (l:Nat)
 |ret
inductive dM where
 |box (t:TypeId) (cells:List bU)
 |arr (t:Ty) (ver:Nat) (xs:List t.den)
 |lp (f:FuncId) (fr:List bU) (ps:List Nat) (asg bd:Code) (key:Option Nat) (state:Nat) (pend:Option Ex)
 |dead
 |mp (kk vk:IntKind) (es:List (Int×Int))
abbrev gQ:=List (Nat×dM)
def dQ:gQ->Nat->Option dM
 |[],_=>a7
 |(k,o)::h,i=>bif k==i then a6 o else dQ h i
def iU:gQ->Nat->dM->gQ
 |[],_,_=>[]
 |(k,o)::h,i,d=>bif k==i then(k,d)::h else(k,o)::iU h i d
structure St where
 fr:List bU
 stk:List (List bU)
 hp:gQ
 nxt:Nat
inductive TK where
 |bool|str|other
 |int (k:IntKind)
 |slice (e:TypeId)
 |struct (fs:List (Nat×TypeId))
 |fn
 |ptr (e:TypeId)
 |map (k e:TypeId)
structure TI where
 known:Bool
 k:TK
 size:Nat
 bytes:Nat
 ty:Option Ty
 zero:List bU
 eq:Bool
 bld:Bool:=false
 keep:Bool:=false
instance:Inhabited TI:=⟨⟨false,.other,0,0,a7,[],false,false,false⟩⟩
inductive TT where
 |nil
 |node (k:Nat) (i:TI) (l r:TT)
def TT.at:TT->TypeId->TI
 |.nil,_=>default
 |.node k i l r,t=>bif Nat.beq k t then i else bif Nat.blt t k then l.at t else r.at t
def TI.isAgg (i:TI):Bool:=match i.k with|.struct _=>true|_=>false
def flat:(t:Ty)->t.den->List bU
 |.unit,_=>[]
 |.pair a b,x=>flat a x.1++flat b x.2
 |.bool,x=>[.val .bool x]
 |.int k,x=>[.val (.int k) x]
 |.str,x=>[.val .str x]
 |.list t,x=>[.val (.list t) x]
def bU.cells:bU->Option (List bU)
 |.val t x=>a6 (flat t x)
 |.agg l=>a6 l
 |.undef=>a7
 |.tup _=>a7
 |v=>a6 [v]
def leaf (t:Ty):bU->Option t.den
 |.val t' x=>jE t x
 |.nils=>match t with|.list _=>a6 []|_=>a7
 |_=>a7
def mk:(t:Ty)->List bU->Option (t.den×List bU)
 |.unit,l=>a6 ((),l)
 |.pair a b,l=>
  match mk a l with
  |some (x,d)=>match mk b d with
   |some (y,e)=>a6 ((x,y),e)
   |none=>a7
  |none=>a7
 |.bool,c::l=>match leaf .bool c with|some x=>a6 (x,l)|none=>a7
 |.int k,c::l=>match leaf (.int k) c with|some x=>a6 (x,l)|none=>a7
 |.str,c::l=>match leaf .str c with|some x=>a6 (x,l)|none=>a7
 |.list t,c::l=>match leaf (.list t) c with|some x=>a6 (x,l)|none=>a7
 |_,[]=>a7
def Hm (t:Ty) (l:List bU):Option t.den:=
 match mk t l with
 |some (x,[])=>a6 x
 |_=>a7
def bU.isNils:bU->Bool
 |.nils=>true
 |_=>false
def norm (i:TI) (l:List bU):bU:=
 match i.k with
 |.struct _=>match i.ty with
  |some t=>match Hm t l with
   |some x=>bif i.keep&&l.any bU.isNils then .agg l else .val t x
   |none=>.agg l
  |none=>.agg l
 |_=>match l with
  |[v]=>v
  |_=>.undef
def acS {d:Type} (xs:List d):Option (Int×Int)->List d
 |none=>xs
 |some (lo,e)=>sub xs lo e
def Bf (hp:gQ) (t:Ty) (id d:Nat) (e:Option (Int×Int)):Option (List t.den):=
 match dQ hp id with
 |some (.arr t' v xs)=>bif v==d then(match jE (.list t) (t':=.list t') xs with|some ys=>a6 (acS ys e)|none=>a7)else a7
 |_=>a7
def bU.as (hp:gQ) (t:Ty):bU->Option t.den
 |.val t' x=>jE t x
 |.nils=>match t with|.list _=>a6 []|_=>a7
 |.emp=>match t with|.list _=>a6 []|_=>a7
 |.lst e xs _=>jE (t':=.list e) t xs
 |.slc id ver d=>match t with|.list e=>Bf hp e id ver d|_=>a7
 |.agg l=>bif t.isAgg then Hm t l else a7
 |_=>a7
def YJ:(t:Ty)->t.den->Nat->bU
 |.pair a _,x,0=>.val a x.1
 |.pair _ b,x,n+1=>YJ b x.2 n
 |_,_,_=>.undef
def Si:(t:Ty)->t.den->Nat->bU
 |.pair a _,x,0=>.cellp a x.1
 |.pair _ b,x,n+1=>Si b x.2 n
 |_,_,_=>.undef
def vZ:Value->bU
 |.bool b=>.val .bool b
 |.int k n=>.val (.int k) n
 |.string s=>.val .str s.data.toList
 |.slice a7 0 0=>.nils
 |.pointer a7=>.nilp
 |.nilFunc=>.nilfn
 |_=>.undef
def Yx:Value->bU
 |.agg cs=>bif cs.toList.all Value.oneCell' then .agg (cs.toList.map vZ)else .undef
 |.tuple _=>.undef
 |v=>vZ v
def gX (fr:List bU):Operand->bU
 |.tmp t=>fr.getD t .undef
 |.const v=>Yx v
 |.global _=>.undef
 |.func f=>.fn f []
def kZ:Nat:=140737488355328
def dw (k:IntKind) (a b:Int):Int:=k.wrap (a+b)
def eU (k:IntKind) (a b:Int):Int:=k.wrap (a-b)
def aoP (k:IntKind) (a b:Int):Int:=k.wrap (a*b)
def aIC (k:IntKind) (a b:Int):Int:=k.wrap (a.tdiv b)
def aqI (d:BinOp) (k:IntKind) (a b:Int):Int:=
 let x:=BitVec.ofInt k.bits a
 let y:=BitVec.ofInt k.bits b
 match d with
 |.and=>k.wrap (x&&& y).toNat
 |.or=>k.wrap (x|||y).toNat
 |.xor=>k.wrap (x^^^y).toNat
 |_=>k.wrap (x&&& ~~~y).toNat
def aBs (k:IntKind) (a b:Int):Int:=k.wrap (a*2^(min b.toNat k.bits))
def UI (k:IntKind) (a b:Int):Int:=a.fdiv (2^(min b.toNat k.bits))
def gY (a b:Int):Bool:=decide (a<b)
def leI (a b:Int):Bool:=decide (a<=b)
def bV (a b:Int):Bool:=a==b
def bM {d:Type} (l:List d):Int:=(l.length:Int)
def PD (a b:Nat):Bool:=decide (a<b)
def eqN (a b:Nat):Bool:=Nat.beq a b
def leN (a b:Nat):Bool:=decide (a<=b)
def IC (a b:Int):Int:=if b<a then b else a
def BX (a b:Int):Int:=if b>a then b else a
def bY (s:List UInt8) (i:Int):Int:=((s.getD i.toNat 0).toNat:Int)
def dJ {e:Type} (l:List e) (d:e) (i:Int):e:=l.getD i.toNat d
def fP (a b:List UInt8):Bool:=a==b
def Dw (a b:List UInt8):Bool:=Op.bytesLess a b
def dA (l:List UInt8):List Int:=l.map fun b=>(b.toNat:Int)
def ofBytes (l:List Int):List UInt8:=l.map fun n=>UInt8.ofNat n.toNat
def aLU (l:List UInt8):Bool:=decide (l.length<=kZ)
def dY {d:Type} (l:List d) (e:Nat):Bool:=decide (l.length*e<=kZ)
def fV {d:Type} (l:List d) (i:Int):Bool:=decide (0<=i)&&decide (i<(l.length:Int))
def fH (n lo hi:Int):Bool:=decide (0<=lo)&&(decide (lo<=hi)&&decide (hi<=n))
def iw {d:Type} (l:List d) (i:Nat) (x:d):List d:=l.set i x
def yC (d:BinOp) (k:IntKind) (a b:Int):bU:=
 match d with
 |.add=>.val (.int k) (dw k a b)
 |.sub=>.val (.int k) (eU k a b)
 |.mul=>.val (.int k) (aoP k a b)
 |.eql=>.val .bool (bV a b)
 |.neq=>.val .bool (!bV a b)
 |.lss=>.val .bool (gY a b)
 |.leq=>.val .bool (leI a b)
 |.gtr=>.val .bool (gY b a)
 |.geq=>.val .bool (leI b a)
 |_=>.undef
def Yl (d:BinOp) (a b:List UInt8):bU:=
 match d with
 |.eql=>.val .bool (fP a b)
 |.neq=>.val .bool (!fP a b)
 |.lss=>.val .bool (Dw a b)
 |.leq=>.val .bool (Dw a b||fP a b)
 |.gtr=>.val .bool (!(Dw a b||fP a b))
 |.geq=>.val .bool (!Dw a b)
 |_=>.undef
def TT.eqOk (T:TT):Nat->TypeId->Bool
 |0,_=>false
 |n+1,t=>(T.at t).known&&(match(T.at t).k with
  |.bool|.int _|.str=>true
  |.struct d=>(T.at t).eq&&d.all fun f=>T.eqOk n f.2
  |_=>false)
section
variable {R:Type}
def lL (b:Bool) (k:Option R):Option R:=cond b k a7
def adk (T:TT) (d:BinOp) (t:TypeId) (x y:bU) (K:bU->Option R):Option R:=
 match x,y with
 |.val (.int k) a,.val (.int f) b=>
  if k=f then
   match d with
   |.quo=>lL (!bV b 0) (K (.val (.int k) (aIC k a b)))
   |.rem=>lL (!bV b 0) (K (.val (.int k) (a.tmod b)))
   |.add|.sub|.mul|.eql|.neq|.lss|.leq|.gtr|.geq=>K (yC d k a b)
   |.and|.or|.xor|.andNot=>K (.val (.int k) (aqI d k a b))
   |.shl=>lL (leI 0 b) (K (.val (.int k) (aBs k a b)))
   |.shr=>lL (leI 0 b) (K (.val (.int k) (UI k a b)))
  else
   match d with
   |.shl=>lL (leI 0 b) (K (.val (.int k) (aBs k a b)))
   |.shr=>lL (leI 0 b) (K (.val (.int k) (UI k a b)))
   |_=>a7
 |.val .bool a,.val .bool b=>
  bif(T.at t).known then
   match(T.at t).k,d with
   |.bool,.eql=>K (.val .bool (a==b))
   |.bool,.neq=>K (.val .bool (!(a==b)))
   |_,_=>a7
  else a7
 |.val .str a,.val .str b=>
  match d with
  |.add=>lL (decide (a.length+b.length<=kZ)) (K (.val .str (a++b)))
  |.eql|.neq|.lss|.leq|.gtr|.geq=>K (Yl d a b)
  |_=>a7
 |.lst _ _ b,.nils=>bif(T.at t).known then(match(T.at t).k,d with
  |.slice _,.eql=>K (.val .bool b)
  |.slice _,.neq=>K (.val .bool (!b))
  |_,_=>a7)else a7
 |x,y=>
  bif !T.eqOk 6 t then a7 else
  match(T.at t).k,(T.at t).ty with
  |.struct _,a6 e=>
   match x.as [] e,y.as [] e,d with
   |some a,a6 b,.eql=>K (.val .bool (e.same a b))
   |some a,a6 b,.neq=>K (.val .bool (!e.same a b))
   |_,_,_=>a7
  |_,_=>a7
def Ed:List (Int×Int)->Int->Option Int
 |[],_=>a7
 |(k,v)::l,a=>bif bV a k then a6 v else Ed l a
def lU (l:List (Int×Int)) (a:Int):Int:=match Ed l a with
 |some v=>v
 |none=>0
def avf (l:List (Int×Int)) (a:Int):Bool:=match Ed l a with
 |some _=>true
 |none=>false
def lH:List (Int×Int)->Int->Int->List (Int×Int)
 |[],a,b=>[(a,b)]
 |(k,v)::l,a,b=>bif bV a k then(k,b)::l else(k,v)::lH l a b
def TT.mapOf (T:TT) (t:TypeId):Option (IntKind×IntKind):=bif(T.at t).known then(match(T.at t).k with
 |.map k e=>bif(T.at k).known&&(T.at e).known then(match(T.at k).k,(T.at e).k with
  |.int a,.int b=>a6 (a,b)
  |_,_=>a7)else a7
 |_=>a7)else a7
def awC (hp:gQ) (x y:bU):Bool:=match x with
 |.slc id ver _=>(match y with
  |.nils=>(match dQ hp id with
   |some (.arr _ v d)=>v==ver&&PD 0 d.length
   |_=>false)
  |_=>false)
 |_=>false
def avH (hp:gQ) (x y:bU):Bool:=match x with
 |.ptr id _=>(match y with
  |.nilp=>(match dQ hp id with
   |some (.box _ _)=>true
   |_=>false)
  |_=>false)
 |_=>false
def RX (T:TT) (hp:gQ) (d:BinOp) (t:TypeId) (x y:bU) (K:bU->Option R):Option R:=
 bif awC hp x y then(bif(T.at t).known then(match(T.at t).k,d with
  |.slice _,.eql=>K (.val .bool false)
  |.slice _,.neq=>K (.val .bool true)
  |_,_=>a7)else a7)else bif avH hp x y then(bif(T.at t).known then(match(T.at t).k,d with
  |.ptr _,.eql=>K (.val .bool false)
  |.ptr _,.neq=>K (.val .bool true)
  |_,_=>a7)else a7)else adk T d t x y K
def asV (d:UnOp) (x:bU) (K:bU->Option R):Option R:=
 match d,x with
 |.not,.val .bool b=>K (.val .bool (!b))
 |.neg,.val (.int k) a=>K (.val (.int k) (eU k 0 a))
 |_,_=>a7
def Ee (cl:Bool) (st:St) (dst:Option Nat):Nat:=cond cl st.nxt<|1000000*st.stk.length+dst.getD 0
def alloc (cl:Bool) (dst:Option Nat) (o:dM) (st:St) (K:Nat->St->Option R):Option R:=
 match dQ st.hp (Ee cl st dst)with
 |some _=>a7
 |none=>bif st.nxt.ble (Ee cl st dst)then K (Ee cl st dst) {st with hp:=(Ee cl st dst,o)::st.hp,nxt:=bif cl then Ee cl st dst+1 else st.nxt}else a7
def Jq (cs:List bU) (off k:Nat):Option (List bU):=cond ((off+k).ble cs.length) (a6 ((cs.drop off).take k)) a7
def putCells (cs:List bU) (off:Nat) (vs:List bU):Option (List bU):=cond ((off+vs.length).ble cs.length) (a6 (cs.take off++vs++cs.drop (off+vs.length))) a7
def LY (T:TT) (hp:gQ) (t:TypeId) (a:bU) (K:bU->Option R):Option R:=
 bif !(T.at t).known then a7 else
 match a with
 |.cellp u x=>match(T.at t).ty with
  |some e=>match jE e x with
   |some y=>K (.val e y)
   |none=>a7
  |none=>a7
 |.ptr id d=>match dQ hp id with
  |some (.box _ cs)=>match Jq cs d (T.at t).size with
   |some l=>K (norm (T.at t) l)
   |none=>a7
  |_=>a7
 |.ep id ver i d=>match dQ hp id with
  |some (.arr u v xs)=>bif v==ver then
    (bif PD i xs.length then
     (match Jq (flat u (xs.getD i u.dflt)) d (T.at t).size with
     |some l=>K (norm (T.at t) l)
     |none=>a7)else a7)else a7
  |_=>a7
 |_=>a7
def JG (T:TT) (st:St) (t:TypeId) (a v:bU) (K:St->Option R):Option R:=
 match v.cells with
 |none=>a7
 |some d=>
  bif(T.at t).known&&d.length==(T.at t).size then
   match a with
   |.ptr id e=>match dQ st.hp id with
    |some (.box bt cs)=>match putCells cs e d with
     |some f=>K {st with hp:=iU st.hp id (.box bt f)}
     |none=>a7
    |_=>a7
   |.ep id ver i e=>match dQ st.hp id with
    |some (.arr u w xs)=>bif w==ver then
      (bif PD i xs.length then
       (match putCells (flat u (xs.getD i u.dflt)) e d with
       |some cs=>match Hm u cs with
        |some x=>K {st with hp:=iU st.hp id (.arr u w (iw xs i x))}
        |none=>a7
       |none=>a7)else a7)else a7
    |_=>a7
   |_=>a7
  else a7
def adl (f:gQ) (st:St) (a v:bU) (K:St->Option R):Option R:=
 match a,v with
 |.ptr id d,.slc i _ (a6 _)=>match dQ f id with
  |some (.box _ g)=>match g.getD d .undef with
   |.slc i0 _ a7=>bif Nat.beq i0 i&& !Nat.beq i id then
     (match dQ st.hp id,dQ st.hp i with
     |some (.box bt cs),a6 (.arr e w xs)=>match cs.getD d .undef with
      |.slc i1 w1 (a6 (lo,j))=>bif Nat.beq i1 i&&(w1==w&&lo==0)then
        K {st with hp:=iU (iU st.hp i (.arr e (w+1) (xs.take j.toNat))) id (.box bt (cs.set d (.slc i (w+1) a7)))}else K st
      |_=>K st
     |_,_=>K st)else K st
   |_=>K st
  |_=>K st
 |_,_=>K st
def JC (T:TT) (d:List (Nat×TypeId)) (cs:List bU):List (Nat×bU)->Option (List bU)
 |[]=>a6 cs
 |(i,v)::g=>match d[i]?,v.cells with
  |some (j,e),a6 f=>bif(T.at e).known&&f.length==(T.at e).size then
    (match putCells cs j f with
    |some l=>JC T d l g
    |none=>a7)else a7
  |_,_=>a7
def JE (e:Ty) (xs:List e.den):List (Nat×bU)->Option (List e.den)
 |[]=>a6 xs
 |(i,v)::d=>match v.as [] e with
  |some x=>bif PD i xs.length then JE e (xs.set i x) d else a7
  |none=>a7
def intOf:bU->Option Int
 |.val (.int _) n=>a6 n
 |_=>a7
def bound (d:Int):Option bU->Option Int
 |none=>a6 d
 |some v=>intOf v
def TT.rowOf (T:TT) (t:TypeId) (size:Nat):Bool:=
 match(T.at t).k with
 |.slice e=>(T.at t).known&&((T.at e).known&&((T.at e).size==size&&(PD 0 size&&PD 0 (T.at e).bytes)))
 |_=>false
def TT.isPtr (T:TT) (t:TypeId):Bool:=
 match(T.at t).k with
 |.ptr _=>(T.at t).known
 |_=>false
def TT.isBytes (T:TT) (t:TypeId):Bool:=
 match(T.at t).k with
 |.ptr e=>(T.at t).known&&((T.at e).known&&(match(T.at e).ty with|some (.int .u8)=>Nat.beq (T.at e).size 1|_=>false))
 |_=>false
def TT.isStr (T:TT) (t:TypeId):Bool:=
 match(T.at t).k with
 |.str=>(T.at t).known
 |_=>false
def JF (T:TT) (hp:gQ) (t:TypeId) (x:bU) (lo hi d:Option bU) (K:bU->Option R):Option R:=
 match x,d with
 |.val .str s,a7=>match bound 0 lo,bound (bM s) hi with
  |some l,a6 h=>lL (T.isStr t&&fH (bM s) l h) (K (.val .str (sub s l h)))
  |_,_=>a7
 |.val (.list e) xs,a7=>match bound 0 lo,bound (bM xs) hi with
  |some l,a6 h=>lL (T.rowOf t e.size&&fH (bM xs) l h) (K (.val (.list e) (sub xs l h)))
  |_,_=>a7
 |.val (.list e) xs,a6 m=>match bound 0 lo,hi.bind intOf,intOf m with
  |some l,a6 h,a6 k=>lL (T.rowOf t e.size&&(l==0&&(h==0&&k==0))) (K .emp)
  |_,_,_=>a7
 |.nils,a7=>match bound 0 lo,bound 0 hi with
  |some l,a6 h=>lL (T.rowOf t (T.at (match(T.at t).k with|.slice e=>e|_=>0)).size&&(bV l 0&&bV h 0)) (K .nils)
  |_,_=>a7
 |.slc id ver a7,a7=>match dQ hp id with
  |some (.arr e v xs)=>bif v==ver then
    (match bound 0 lo,bound (bM xs) hi with
    |some l,a6 h=>lL (T.rowOf t e.size&&fH (bM xs) l h) (K (.slc id ver (a6 (l,h))))
    |_,_=>a7)else a7
  |_=>a7
 |_,_=>a7
def TT.fieldAt (T:TT) (t:TypeId) (f:Nat):Option (Nat×TypeId):=
 match(T.at t).k with
 |.struct e=>bif(T.at t).known then
   (match e[f]? with
   |some (g,d)=>bif(T.at d).known&&PD 0 (T.at d).size then a6 (g,d)else a7
   |none=>a7)else a7
 |_=>a7
def tq (T:TT) (hp:gQ) (t:TypeId) (x:bU) (f:Nat) (K:bU->Option R):Option R:=
 match T.fieldAt t f with
 |some (d,_)=>match x with
  |.cellp u x=>match(T.at t).ty with
   |some e=>match jE e x with
    |some y=>K (Si e y f)
    |none=>a7
   |none=>a7
  |.ptr id o=>match dQ hp id with
   |some (.box _ _)=>K (.ptr id (o+d))
   |_=>a7
  |.ep id ver i o=>match dQ hp id with
   |some (.arr _ v _)=>bif v==ver then K (.ep id ver i (o+d))else a7
   |_=>a7
  |_=>a7
 |none=>a7
def JD (T:TT) (t:TypeId) (x:bU) (f:Nat) (K:bU->Option R):Option R:=
 match T.fieldAt t f with
 |some (g,d)=>match x with
  |.val u x=>match(T.at t).ty with
   |some e=>match jE e x with
    |some y=>K (YJ e y f)
    |none=>a7
   |none=>a7
  |.agg l=>match Jq l g (T.at d).size with
   |some cs=>K (norm (T.at d) cs)
   |none=>a7
  |_=>a7
 |none=>a7
def tu (T:TT) (hp:gQ) (t:TypeId) (x i:bU) (K:bU->Option R):Option R:=
 match intOf i with
 |none=>a7
 |some i=>match x with
  |.val (.list e) xs=>lL (T.rowOf t e.size&&fV xs i) (K (.cellp e (dJ xs e.dflt i)))
  |.slc id ver d=>match dQ hp id with
   |some (.arr e v xs)=>bif v==ver then
     (match d with
     |none=>lL (T.rowOf t e.size&&fV xs i) (K (.ep id ver i.toNat 0))
     |some (lo,f)=>lL (T.rowOf t e.size&&(decide (0<=i)&&gY (lo+i) f)) (K (.ep id ver (lo+i).toNat 0)))else a7
   |_=>a7
  |_=>a7
def adm (T:TT) (hp:gQ) (t:TypeId) (x:bU) (K:bU->Option R):Option R:=
 match x with
 |.val .str s=>lL (T.isStr t) (K (.val (.int .i64) (bM s)))
 |.val (.list e) xs=>lL (T.rowOf t e.size) (K (.val (.int .i64) (bM xs)))
 |.nils=>lL (T.rowOf t (T.at (match(T.at t).k with|.slice e=>e|_=>0)).size) (K (.val (.int .i64) 0))
 |.slc id ver d=>match dQ hp id with
  |some (.arr e v xs)=>bif v==ver then
    lL (T.rowOf t e.size) (match d with
    |none=>K (.val (.int .i64) (bM xs))
    |some (lo,f)=>K (.val (.int .i64) (f-lo)))else a7
  |_=>a7
 |_=>a7
def JB (T:TT) (cl:Bool) (dst:Option Nat) (t:TypeId) (s x:bU) (st:St) (K:bU->St->Option R):Option R:=
 match(T.at t).k with
 |.slice f=>match(T.at f).ty with
  |some e=>match x.as st.hp (.list e)with
   |none=>a7
   |some d=>match s with
    |.nils=>lL (T.rowOf t e.size&&dY d (T.at f).bytes) (alloc cl dst (.arr e 0 d) st fun id st=>K (.slc id 0 a7) st)
    |.emp=>lL (T.rowOf t e.size&&dY d (T.at f).bytes) (bif PD 0 d.length then alloc cl dst (.arr e 0 d) st fun id st=>K (.slc id 0 a7) st else K .emp st)
    |.slc id ver i=>match dQ st.hp id with
     |some (.arr e' v xs)=>bif v==ver then
       (match jE (t':=.list e') (.list e) xs with
       |some xs=>match i with
        |none=>lL (T.rowOf t e.size&&dY (xs++d) (T.at f).bytes) (K (.slc id (ver+1) a7) {st with hp:=iU st.hp id (.arr e (ver+1) (xs++d))})
        |some (lo,g)=>lL (T.rowOf t e.size&&(bV lo 0&&dY (xs.take g.toNat++d) (T.at f).bytes))
          (K (.slc id (ver+1) a7) {st with hp:=iU st.hp id (.arr e (ver+1) (xs.take g.toNat++d))})
       |none=>a7)else a7
     |_=>a7
    |_=>a7
  |none=>a7
 |_=>a7
def zL (T:TT) (cl:Bool) (dst:Option Nat) (t t':TypeId) (s x:bU) (st:St) (K:bU->St->Option R):Option R:=
 match(T.at t).k,x with
 |.slice d,.val .str y=>match(T.at d).ty with
  |some (.int .u8)=>bif T.isStr t'&&T.rowOf t 1&&Nat.beq (T.at d).bytes 1 then
    (match s with
    |.nils=>lL (aLU y) (alloc cl dst (.arr (.int .u8) 0 (dA y)) st fun id st=>K (.slc id 0 a7) st)
    |.slc id ver e=>match dQ st.hp id with
     |some (.arr (.int .u8) v xs)=>bif v==ver then
       (match e with
       |none=>lL (dY (xs++dA y) 1) (K (.slc id (ver+1) a7) {st with hp:=iU st.hp id (.arr (.int .u8) (ver+1) (xs++dA y))})
       |some _=>a7)else a7
     |_=>a7
    |_=>a7)else a7
  |_=>a7
 |_,_=>a7
def zM (T:TT) (s d:TypeId) (x:bU) (hp:gQ) (K:bU->Option R):Option R:=
 bif !((T.at s).known&&(T.at d).known)then a7 else
 match(T.at s).k,(T.at d).k,x with
 |.int _,.int k,.val (.int _) n=>K (.val (.int k) (k.wrap n))
 |.str,.str,.val .str s=>K (.val .str s)
 |.slice e,.str,x=>match(T.at e).k with
  |.int .u8=>match x.as hp (.list (.int .u8))with
   |some xs=>lL (T.at e).known (K (.val .str (ofBytes xs)))
   |none=>a7
  |_=>a7
 |_,_,_=>a7
abbrev gI (R:Type):=bU->List bU->Option Nat->St->(bU->St->Option R)->Option R
def AV (k:IntKind):List bU->Option (List Int)
 |[]=>a6 []
 |.val (.int d) a::l=>if k=d then match AV k l with
   |some l=>a6 (a::l)
   |none=>a7
  else a7
 |_=>a7
def kD (T:TT) (cl:Bool) (o:Oper) (b:Builtin) (d:List TypeId) (args:List bU) (st:St) (K:bU->St->Option R):Option R:=
 match b,args with
 |.len,[x]=>match d with
  |[t]=>adm T st.hp t x fun v=>K v st
  |_=>a7
 |.min,.val (.int k) a::l=>match AV k l with
  |some l=>K (.val (.int k) (l.foldl IC a)) st
  |none=>a7
 |.max,.val (.int k) a::l=>match AV k l with
  |some l=>K (.val (.int k) (l.foldl BX a)) st
  |none=>a7
 |.append,[s,x]=>match d with
  |[t,g]=>bif t==g then JB T cl o.dst t s x st K else zL T cl o.dst t g s x st K
  |_=>a7
 |.unsafeSliceData,[.slc id f a7]=>match d with
  |[t]=>match dQ st.hp id with
   |some (.arr e v _)=>bif v==f&&(T.rowOf t e.size&&T.isPtr o.type)then K (.sd id f) st else a7
   |_=>a7
  |_=>a7
 |.unsafeString,[.sd id f,.val (.int .i64) n]=>match d with
  |[i,_]=>match dQ st.hp id with
   |some (.arr (.int .u8) v xs)=>bif v==f&&T.isBytes i then lL (bV n (bM xs)) (K (.val .str (ofBytes xs)) {st with hp:=iU st.hp id .dead})else a7
   |_=>a7
  |_=>a7
 |_,_=>a7
def eH (T:TT) (cl:Bool) (call:gI R) (o:Oper) (st:St) (K:bU->St->Option R):Option R:=
 match o.op with
 |.move x|.assign x=>K (gX st.fr x) st
 |.pick c a b=>match gX st.fr c with
  |.val .bool t=>bif t then K (gX st.fr a) st else K (gX st.fr b) st
  |_=>a7
 |.alloc t=>bif(T.at t).known then
   (match(T.at t).k,(T.at t).zero with
   |.slice j,[.nils]=>match(T.at j).ty with
    |some e=>bif PD 0 e.size then alloc cl (a6 (o.dst.getD 0+500000)) (.arr e 0 []) st fun i st=>alloc cl o.dst (.box t [.slc i 0 a7]) st fun id st=>K (.ptr id 0) st
     else a7
    |none=>alloc cl o.dst (.box t (T.at t).zero) st fun id st=>K (.ptr id 0) st
   |.struct _,[.nilp,.nils]=>bif(T.at t).bld then
     alloc cl (a6 (o.dst.getD 0+500000)) (.arr (.int .u8) 0 []) st fun i st=>alloc cl o.dst (.box t [.slf (Ee cl st o.dst),.slc i 0 a7]) st fun id st=>K (.ptr id 0) st
    else alloc cl o.dst (.box t (T.at t).zero) st fun id st=>K (.ptr id 0) st
   |_,z=>alloc cl o.dst (.box t z) st fun id st=>K (.ptr id 0) st)else a7
 |.box t x=>match(gX st.fr x).cells with
  |some E=>bif(T.at t).known&&E.length==(T.at t).size then alloc cl o.dst (.box t E) st fun id st=>K (.ptr id 0) st else a7
  |none=>a7
 |.build t A=>bif !(T.at t).known then a7 else
  match(T.at t).k with
  |.struct I=>match JC T I (T.at t).zero (A.toList.map fun p=>(p.1,gX st.fr p.2))with
   |some cs=>K (norm (T.at t) cs) st
   |none=>a7
  |_=>a7
 |.buildSlice t n A=>match(T.at t).k with
  |.slice j=>match(T.at j).ty with
   |some e=>match Hm e (T.at j).zero with
    |some d=>bif T.rowOf t e.size&&leN (n*e.size) 1000000 then
      (match JE e (List.replicate n d) (A.toList.map fun p=>(p.1,gX st.fr p.2))with
      |some xs=>alloc cl o.dst (.arr e 0 xs) st fun id st=>K (.slc id 0 a7) st
      |none=>a7)else a7
    |none=>a7
   |none=>a7
  |_=>a7
 |.load t a=>LY T st.hp t (gX st.fr a) fun v=>K v st
 |.store t a v=>JG T st t (gX st.fr a) (gX st.fr v) fun J=>adl st.hp J (gX st.fr a) (gX st.fr v) fun st=>K .undef st
 |.nilCheck x=>match gX st.fr x with
  |.ptr id B=>match dQ st.hp id with
   |some (.box _ _)=>K (.ptr id B) st
   |_=>a7
  |.cellp t x=>K (.cellp t x) st
  |.ep id ver i B=>match dQ st.hp id with
   |some (.arr _ v _)=>bif v==ver then K (.ep id ver i B) st else a7
   |_=>a7
  |_=>a7
 |.binOp op t x y _=>RX T st.hp op t (gX st.fr x) (gX st.fr y) fun v=>K v st
 |.unOp op _ x=>asV op (gX st.fr x) fun v=>K v st
 |.makeMap t r=>match r,T.mapOf t with
  |none,a6 (q,g)=>alloc cl o.dst (.mp q g []) st fun id st=>K (.mpv id) st
  |_,_=>a7
 |.mapUpdate t m k x=>match T.mapOf t,gX st.fr m with
  |some (q,g),.mpv id=>match dQ st.hp id,gX st.fr k,gX st.fr x with
   |some (.mp kk' vk' u),.val (.int D) a,.val (.int L) b=>
    bif decide (kk'=q)&&(decide (D=q)&&(decide (vk'=g)&&decide (L=g)))then K .undef {st with hp:=iU st.hp id (.mp q g (lH u a b))}else a7
   |_,_,_=>a7
  |_,_=>a7
 |.lookup t m k ok=>match T.mapOf t,gX st.fr m with
  |some (q,g),.mpv id=>match dQ st.hp id,gX st.fr k with
   |some (.mp kk' vk' u),.val (.int D) a=>
    bif decide (kk'=q)&&(decide (D=q)&&decide (vk'=g))then
     K (bif ok then .tup [.val (.int g) (lU u a),.val .bool (avf u a)]else .val (.int g) (lU u a)) st else a7
   |_,_=>a7
  |_,_=>a7
 |.convert s d x=>zM T s d (gX st.fr x) st.hp fun v=>K v st
 |.makeFunc f first G=>match f,first.toList with
  |.func f,[]=>K (.fn f (G.toList.map (gX st.fr))) st
  |.func f,l=>bif G.toList.isEmpty then K (.mfn f (l.map (gX st.fr))) st else a7
  |_,_=>a7
 |.makeSlice t l c=>match(T.at t).k with
  |.slice j=>match(T.at j).ty,intOf (gX st.fr l),intOf (gX st.fr c)with
   |some e,a6 l,a6 c=>match Hm e (T.at j).zero with
    |some d=>lL (T.rowOf t e.size&&(decide (0<=l)&&(decide (l<=c)&&decide (c.toNat*(T.at j).bytes<=kZ))))
      (alloc cl o.dst (.arr e 0 (List.replicate l.toNat d)) st fun id st=>K (.slc id 0 a7) st)
    |none=>a7
   |_,_,_=>a7
  |_=>a7
 |.slice t x lo hi M=>JF T st.hp t (gX st.fr x) (lo.map (gX st.fr)) (hi.map (gX st.fr)) (M.map (gX st.fr)) fun v=>K v st
 |.fieldAddr t x f=>tq T st.hp t (gX st.fr x) f fun v=>K v st
 |.field t x f=>JD T t (gX st.fr x) f fun v=>K v st
 |.indexAddr t x i=>tu T st.hp t (gX st.fr x) (gX st.fr i) fun v=>K v st
 |.index t x i=>match gX st.fr x,intOf (gX st.fr i)with
  |.val .str s,a6 i=>lL (T.isStr t&&fV s i) (K (.val (.int .u8) (bY s i)) st)
  |_,_=>a7
 |.extract x n=>match gX st.fr x with
  |.tup l=>match l[n]? with
   |some v=>K v st
   |none=>a7
  |_=>a7
 |.call c=>match c.callee with
  |.builtin b=>kD T cl o b c.argTypes.toList (c.args.toList.map (gX st.fr)) st K
  |.value f=>call (gX st.fr f) (c.args.toList.map (gX st.fr)) o.dst st K
  |_=>a7
 |_=>a7
def St.put (st:St) (dst:Option Nat) (v:bU):St:=
 match dst with
 |some d=>{st with fr:=st.fr.set d v}
 |none=>st
def ig (T:TT) (cl:Bool) (call:gI R) (ops:Array Oper) (K:St->Option R):List Oper->St->Option R
 |[],st=>K st
 |o::e,st=>
  match o.guard with
  |none=>eH T cl call o st fun v st=>ig T cl call ops K e (st.put o.dst v)
  |some (j,f)=>match(ops[j]?).bind (·.dst)with
   |none=>a7
   |some d=>match st.fr.getD d .undef with
    |.val .bool b=>
     bif b then
      (bif f then eH T cl call o (st.put (a6 d) (.val .bool true)) fun v st=>ig T cl call ops K e (st.put o.dst v)
      else ig T cl call ops K e ((st.put (a6 d) (.val .bool true)).put o.dst (.tup [])))
     else
      (bif f then ig T cl call ops K e ((st.put (a6 d) (.val .bool false)).put o.dst (.tup []))
      else eH T cl call o (st.put (a6 d) (.val .bool false)) fun v st=>ig T cl call ops K e (st.put o.dst v))
    |.tup []=>ig T cl call ops K e (st.put o.dst (.tup []))
    |_=>a7
mutual
def refs:bU->List Nat
 |.ptr id _=>[id]
 |.slc id _ _=>[id]
 |.ep id _ _ _=>[id]
 |.slf id=>[id]
 |.sd id _=>[id]
 |.yld id=>[id]
 |.tup l=>lq l
 |.agg l=>lq l
 |.fn _ l=>lq l
 |.mfn _ l=>lq l
 |.mpv id=>[id]
 |_=>[]
def lq:List bU->List Nat
 |[]=>[]
 |v::l=>refs v++lq l
end
def qZ:List (List bU)->List Nat
 |[]=>[]
 |l::d=>lq l++qZ d
def dM.refs:dM->List Nat
 |.box _ cs=>lq cs
 |.lp _ fr _ _ _ _ _ _=>lq fr
 |_=>[]
def wS:gQ->List Nat
 |[]=>[]
 |(_,o)::h=>o.refs++wS h
def Zx (l:List Nat) (i:Nat):Bool:=l.any (Nat.beq i)
def avN (h:gQ):Nat->List Nat->List Nat
 |0,l=>l
 |n+1,l=>avN h n (l++wS (h.filter fun e=>Zx l e.1))
def Eg (d l:List Nat):Bool:=l.all fun i=> !Zx d i
def gc (d:Nat) (v:bU) (st:St):Option St:=
 let i:=st.hp.filter fun e=>Nat.blt e.1 d
 let new:=st.hp.filter fun e=> !Nat.blt e.1 d
 let f:=avN new 3 (refs v++lq st.fr++qZ st.stk++wS i)
 let g:=st.hp.filter fun e=>Nat.blt e.1 d||Zx f e.1
 let j:=((st.hp.filter fun e=> !(Nat.blt e.1 d||Zx f e.1)).map (·.1))
 bif Eg j (refs v++lq st.fr++qZ st.stk++wS g)then a6 {st with hp:=g}else a7
def aDl (h:gQ) (id:Nat):Option Nat:=
 match dQ h id with
 |some (.arr _ v _)=>a6 v
 |_=>a7
def SK (h:gQ) (id d:Nat):Bool:=match aDl h id with
 |some v=>v==d
 |none=>false
mutual
def anew (h:gQ):bU->bU
 |.slc id d e=>bif SK h id d then .slc id 0 e else .undef
 |.ep id d i g=>bif SK h id d then .ep id 0 i g else .undef
 |.sd id d=>bif SK h id d then .sd id 0 else .undef
 |.tup l=>.tup (zF h l)
 |.agg l=>.agg (zF h l)
 |.fn f l=>.fn f (zF h l)
 |.mfn f l=>.mfn f (zF h l)
 |v=>v
def zF (h:gQ):List bU->List bU
 |[]=>[]
 |v::l=>anew h v::zF h l
end
def dM.anew (h:gQ):dM->dM
 |.box t cs=>.box t (zF h cs)
 |.lp f fr ps a b k n p=>.lp f (zF h fr) ps a b k n p
 |.arr t _ xs=>.arr t 0 xs
 |o=>o
def Yf (st:St):St:=
 {st with fr:=zF st.hp st.fr,stk:=st.stk.map (zF st.hp),hp:=st.hp.map fun e=>(e.1,e.2.anew st.hp)}
structure eQ where
 slots:List Nat
 owns:List (Nat×Ty)
 after:List Nat
 aowns:List (Nat×Ty)
 rets:List Nat
 give:List (Nat×Ty)
def Hg (l:List Nat):Nat->List bU->List bU
 |_,[]=>[]
 |i,v::r=>(bif Zx l i then v else .undef)::Hg l (i+1) r
def xQ (s:Nat) (t:Ty) (st:St):Option St:=
 match st.fr.getD s .undef with
 |.nils=>match dQ st.hp (1000000*st.stk.length+800000+s)with
  |some _=>a7
  |none=>bif st.nxt.ble (1000000*st.stk.length+800000+s)&&Nat.blt 0 t.size then
    a6 {st with fr:=st.fr.set s (.slc (1000000*st.stk.length+800000+s) 0 a7),hp:=(1000000*st.stk.length+800000+s,.arr t 0 [])::st.hp}else a7
 |.slc id ver d=>match dQ st.hp id with
  |some (.arr u w xs)=>bif w==ver then
    (match d with
    |none=>a6 st
    |some (lo,e)=>bif lo==0 then
      a6 {st with fr:=st.fr.set s (.slc id (ver+1) a7),hp:=iU st.hp id (.arr u (ver+1) (xs.take e.toNat))}else a7)else a7
  |_=>a7
 |_=>a7
def atz (k:Nat) (o:dM):gQ->gQ
 |[]=>[(k,o)]
 |(j,p)::h=>bif Nat.ble j k then(k,o)::(j,p)::h else(j,p)::atz k o h
def lu:gQ->gQ
 |[]=>[]
 |(k,o)::h=>atz k o (lu h)
def Ud (id off:Nat) (t:Ty) (st:St):Option St:=
 match dQ st.hp id with
 |some (.box bt cs)=>match cs.getD off .undef with
  |.nils=>match t with
   |.pair .unit d=>a6 {st with hp:=iU st.hp id (.box bt (cs.set off (.val (.list d) [])))}
   |t=>match dQ st.hp (id+500000+2000*off)with
    |some _=>a7
    |none=>bif st.nxt.ble (id+500000+2000*off)&&Nat.blt 0 t.size then
      a6 {st with hp:=iU ((id+500000+2000*off,.arr t 0 [])::st.hp) id (.box bt (cs.set off (.slc (id+500000+2000*off) 0 a7)))}else a7
  |_=>a6 st
 |_=>a6 st
def PW (id off:Nat) (t:Ty) (st:St):Option St:=
 match Ud id off t st with
 |some st=>a6 {st with hp:=lu st.hp}
 |none=>a7
def DV (s:Nat) (t:Ty) (st:St):Option St:=
 match st.fr.getD s .undef with
 |.nils=>a6 {st with fr:=st.fr.set s (.val (.list t) [])}
 |.emp=>a6 {st with fr:=st.fr.set s (.val (.list t) [])}
 |.slc id ver a7=>match dQ st.hp id with
  |some (.arr u w xs)=>bif w==ver&&Eg ((st.hp.filter fun e=> !(!Nat.beq e.1 id)).map (·.1)) (lq (st.fr.set s .undef)++qZ st.stk++wS (st.hp.filter fun e=> !Nat.beq e.1 id))then
    a6 {st with fr:=st.fr.set s (.val (.list u) xs),hp:=st.hp.filter fun e=> !Nat.beq e.1 id}else a7
  |_=>a7
 |.slc _ _ (a6 _)=>a7
 |_=>a6 st
def Ql (s:Nat) (t:Ty) (st:St):Option St:=
 match st.fr.getD s .undef with
 |.slc id ver a7=>bif Nat.beq id (1000000*st.stk.length+800000+s)then a6 {st with hp:=lu st.hp}else
  match dQ st.hp id with
  |some (.arr u w xs)=>bif st.nxt.ble (1000000*st.stk.length+800000+s)&&Eg [id,1000000*st.stk.length+800000+s] (lq (st.fr.set s .undef)++qZ st.stk++wS (st.hp.filter fun e=> !(Nat.beq e.1 id||Nat.beq e.1 (1000000*st.stk.length+800000+s))))then
    a6 {st with fr:=st.fr.set s (.slc (1000000*st.stk.length+800000+s) ver a7),hp:=lu ((1000000*st.stk.length+800000+s,.arr u w xs)::st.hp.filter fun e=> !(Nat.beq e.1 id||Nat.beq e.1 (1000000*st.stk.length+800000+s)))}else a7
  |_=>a7
 |.ptr id 0=>bif Nat.beq id (1000000*st.stk.length+800000+s)then a6 {st with hp:=lu st.hp}else
  match dQ st.hp id with
  |some (.box u xs)=>bif st.nxt.ble (1000000*st.stk.length+800000+s)&&Eg [id,1000000*st.stk.length+800000+s] (lq (st.fr.set s .undef)++qZ st.stk++(lq xs++wS (st.hp.filter fun e=> !(Nat.beq e.1 id||Nat.beq e.1 (1000000*st.stk.length+800000+s)))))then
    a6 {st with fr:=st.fr.set s (.ptr (1000000*st.stk.length+800000+s) 0),hp:=lu ((1000000*st.stk.length+800000+s,.box u xs)::st.hp.filter fun e=> !(Nat.beq e.1 id||Nat.beq e.1 (1000000*st.stk.length+800000+s)))}else a7
  |_=>a7
 |_=>match xQ s t st with
  |some st=>a6 {st with hp:=lu st.hp}
  |none=>a7
def zS:List (Nat×Ty)->St->Option St
 |[],st=>a6 st
 |(s,t)::l,st=>match DV s t st with
  |some st=>zS l st
  |none=>a7
def jF:List (Nat×Ty)->St->Option St
 |[],st=>a6 st
 |(s,.pair .unit t)::l,st=>match DV s t st with
  |some st=>jF l st
  |none=>a7
 |(s,.pair (.list .unit) t)::l,st=>match PW (s/100) (s %100) t st with
  |some st=>jF l st
  |none=>a7
 |(s,.pair (.list .bool) t)::l,st=>match Ql s t st with
  |some st=>jF l st
  |none=>a7
 |(s,t)::l,st=>match xQ s t st with
  |some st=>jF l st
  |none=>a7
def LC (d:List Nat) (e:List (Nat×Ty)) (st:St):Option St:=
 match(match e with
  |[]=>a6 {st with fr:=Hg d 0 st.fr}
  |_=>gc (1000000*st.stk.length) .undef {st with fr:=Hg d 0 st.fr})with
 |some st=>match jF e st with
  |some st=>match gc (1000000*st.stk.length) .undef st with
   |some st=>a6 (Yf st)
   |none=>a7
  |none=>a7
 |none=>a7
def ayb (k:eQ) (st:St):Option St:=
 match zS k.give {st with fr:=Hg k.rets 0 st.fr}with
 |some st=>match gc (1000000*st.stk.length) .undef st with
  |some st=>a6 (Yf st)
  |none=>a7
 |none=>a7
def iter (kp:Option eQ) (F:St->(Ex->St->Option R)->Option R):Nat->St->(Ex->St->Option R)->Option R
 |0,_,_=>a7
 |n+1,st,K=>F st fun d st=>match d with
  |.normal=>match kp with
   |none=>iter kp F n st K
   |some k=>match LC k.slots k.owns st with
    |some st=>iter kp F n st K
    |none=>a7
  |.ret=>match kp with
   |none=>K .ret st
   |some k=>match ayb k st with
    |some st=>K .ret st
    |none=>a7
  |d=>match kp with
   |none=>K d st
   |some k=>match LC k.after k.aowns st with
    |some st=>K d st
    |none=>a7
def dH:Code->Nat
 |.region id _ _=>id
 |.seq a _=>dH a
 |.block _ c=>dH c
 |.loop c=>dH c
 |.scope c=>dH c
 |.cond _ a _=>dH a
 |_=>0
def bQ:Nat:=10000000000000000000000000000000000000000
def Ty.rigid:Ty->Bool
 |.list _=>false
 |.pair a b=>a.rigid&&b.rigid
 |_=>true
structure Sum where
 ps:List Ty
 rs:List (Ty×Bool)
 f:(ps.foldr Ty.pair Ty.unit).den->Option ((rs.map (·.1)).foldr Ty.pair Ty.unit).den
def zG (hp:gQ):(ps:List Ty)->List bU->Option (ps.foldr Ty.pair Ty.unit).den
 |[],[]=>a6 ()
 |t::d,v::e=>match v.as hp t with
  |some x=>match zG hp d e with
   |some y=>a6 (x,y)
   |none=>a7
  |none=>a7
 |_,_=>a7
def Ty.elem:Ty->Ty
 |.list t=>t
 |t=>t
def oh (id:Nat):(rs:List (Ty×Bool))->((rs.map (·.1)).foldr Ty.pair Ty.unit).den->List bU
 |[],_=>[]
 |(t,false)::rs,y=>.val t y.1::oh id rs y.2
 |(_,true)::rs,y=>.slc id 0 a7::oh id rs y.2
def xO:(rs:List (Ty×Bool))->((rs.map (·.1)).foldr Ty.pair Ty.unit).den->Option (Σ e:Ty,List e.den)
 |[],_=>a7
 |(_,false)::rs,y=>xO rs y.2
 |(.list e,true)::_,y=>a6 ⟨e,y.1⟩
 |(_,true)::_,_=>a7
def mD:bU->Bool
 |.slc _ _ _=>true
 |.agg _=>true
 |_=>false
def Nu:List bU->bU
 |[v]=>v
 |vs=>.tup vs
def news:List (Ty×Bool)->Nat
 |[]=>0
 |(_,false)::d=>news d
 |(_,true)::d=>news d+1
def bJ {d e:Type} (o:Option d) (k:d->Option e):Option e:=
 match o with
 |some x=>k x
 |none=>a7
def Sum.call (s:Sum) (cl:Bool) (args:List bU) (dst:Option Nat) (st:St) (K:bU->St->Option R):Option R:=
 bif s.rs.all (fun r=>r.1.rigid||(r.2&&r.1.elem.rigid))|| !args.any mD then
  match zG st.hp s.ps args with
  |some x=>bJ (s.f x) fun y=>match xO s.rs y with
   |none=>bif Nat.beq (news s.rs) 0 then K (Nu (oh 0 s.rs y)) st else a7
   |some ⟨e,xs⟩=>bif Nat.beq (news s.rs) 1 then alloc cl (a6 (dst.getD 0+100000)) (.arr e 0 xs) st fun id st=>K (Nu (oh id s.rs y)) st else a7
  |none=>a7
 else a7
structure fF where
 bt:TypeId
 cs:List (Ty×Bool)
 ps:List Ty
 rs:List Ty
 f:((cs.map (·.1)).foldr Ty.pair Ty.unit).den->(ps.foldr Ty.pair Ty.unit).den->Option (((cs.map (·.1)).foldr Ty.pair Ty.unit).den×(rs.foldr Ty.pair Ty.unit).den)
def Jz:(d:List Ty)->(d.foldr Ty.pair Ty.unit).den->List bU
 |[],_=>[]
 |t::d,x=>.val t x.1::Jz d x.2
def nZ:List (Ty×Bool)->List bU->List (Nat×Nat)
 |(_,true)::cs,.slc id ver _::d=>(id,ver)::nZ cs d
 |_::cs,_::d=>nZ cs d
 |_,_=>[]
def sW:List (Ty×Bool)->List bU->List Nat
 |(_,false)::cs,v::d=>refs v++sW cs d
 |_::cs,_::d=>sW cs d
 |_,_=>[]
def jO (hp:gQ) (d:Bool):(cs:List (Ty×Bool))->List bU->Option ((cs.map (·.1)).foldr Ty.pair Ty.unit).den
 |[],[]=>a6 ()
 |(t,false)::cs,v::f=>bif d&&(mD v&& !t.rigid)then a7 else match v.as hp t with
  |some x=>match jO hp d cs f with
   |some y=>a6 (x,y)
   |none=>a7
  |none=>a7
 |(.list e,true)::cs,.slc id ver a7::f=>match dQ hp id with
  |some (.arr t v xs)=>bif v==ver then(match jE (.list e) (t':=.list t) xs with
   |some x=>match jO hp d cs f with
    |some y=>a6 (x,y)
    |none=>a7
   |none=>a7)else a7
  |_=>a7
 |_,_=>a7
def GL:(cs:List (Ty×Bool))->List (Nat×Nat)->((cs.map (·.1)).foldr Ty.pair Ty.unit).den->List bU
 |[],_,_=>[]
 |(t,false)::cs,l,y=>.val t y.1::GL cs l y.2
 |(_,true)::cs,(i,v)::l,y=>.slc i v a7::GL cs l y.2
 |(_,true)::cs,[],y=>.undef::GL cs [] y.2
def sO:(cs:List (Ty×Bool))->List (Nat×Nat)->((cs.map (·.1)).foldr Ty.pair Ty.unit).den->gQ
 |[],_,_=>[]
 |(_,false)::cs,l,y=>sO cs l y.2
 |(.list e,true)::cs,(i,v)::l,y=>(i,.arr e v y.1)::sO cs l y.2
 |(_,true)::cs,l,y=>sO cs l y.2
def Ox:gQ->gQ->gQ
 |[],h=>h
 |(i,o)::l,h=>Ox l (iU h i o)
def jf:List (Ty×Bool)->Nat->List (Nat×Nat)
 |[],_=>[]
 |(_,true)::cs,n=>(n,0)::jf cs (n+1)
 |(_,false)::cs,n=>jf cs n
def TY:List Nat->Bool
 |[]=>true
 |i::l=> !Zx l i&&TY l
def fF.rigid (s:fF):Bool:=s.cs.all (fun c=>c.1.rigid||(c.2&&c.1.elem.rigid))&&s.rs.all Ty.rigid
def rF (cl:Bool):Nat->List (Ty×Bool)->List bU->St->(List bU->St->Option R)->Option R
 |n,(.list e,true)::cs,.nils::d,st,K=>bif PD 0 e.size then alloc cl (a6 n) (.arr e 0 []) st fun id st=>rF cl (n+1) cs d st fun l st=>K (.slc id 0 a7::l) st else a7
 |n,_::cs,v::d,st,K=>rF cl (n+1) cs d st fun l st=>K (v::l) st
 |_,_,l,st,K=>K l st
def fF.go (s:fF) (id:Nat) (d:List bU) (st:St) (K:bU->St->Option R):Option R:=
 match dQ st.hp id with
 |some (.box t cells)=>
  bif Nat.beq t s.bt&&((TY ((nZ s.cs cells).map (·.1))&&Eg (id::(nZ s.cs cells).map (·.1)) (lq d++sW s.cs cells))&&(s.rigid|| !d.any mD))then
   match jO st.hp (!s.rigid) s.cs cells with
   |some x=>match zG st.hp s.ps d with
    |some y=>bJ (s.f x y) fun z=>K (Nu (Jz s.rs z.2))
      {st with hp:=iU (Ox (sO s.cs ((nZ s.cs cells).map fun p=>(p.1,p.2+1)) z.1) st.hp) id (.box t (GL s.cs ((nZ s.cs cells).map fun p=>(p.1,p.2+1)) z.1))}
    |none=>a7
   |none=>a7
  else a7
 |_=>a7
def fF.call (s:fF) (cl:Bool) (args:List bU) (st:St) (K:bU->St->Option R):Option R:=
 match args with
 |.ptr id 0::d=>match dQ st.hp id with
  |some (.box t cells)=>bif cells.any (fun v=>match v with|.nils=>true|_=>false)then
    rF cl (200000+20*(id %5000)) s.cs cells st fun cells st=>s.go id d {st with hp:=iU st.hp id (.box t cells)} K
   else s.go id d st K
  |_=>a7
 |_=>a7
inductive Job where
 |call (f:FuncId) (args:List bU)
 |yield (id:Nat) (args:List bU)
structure dE where
 V:Type
 A:V->Type
 B:V->Type
 get:St->Option V
 spec:(v:V)->Option (A v⊕B v)
 exA:V->Ex
 stA:St->(v:V)->A v->St
 stB:St->(v:V)->B v->St
 dep:Nat:=0
 exB:V->Ex:=fun _=>.ret
def dW {e i d:Type} (o:e⊕i) (f:e->d) (g:i->d):d:=
 match o with
 |.inl a=>f a
 |.inr b=>g b
structure Env where
 P:Program
 T:TT
 cl:Bool
 kp:FuncId->Nat->Option eQ
 sg:FuncId->Option Sum
 lp:FuncId->Nat->Option dE
 rf:FuncId->Nat->Bool:=fun _ _=>false
 bf:FuncId->Bool:=fun _=>false
 em:TypeId->Nat->Nat->Bool:=fun _ _ _=>false
 il:FuncId->Bool:=fun _=>false
 sl:FuncId->Bool:=fun _=>false
 sc:FuncId:=0
 np:FuncId->Bool:=fun _=>false
 dp:Nat:=0
 sb:FuncId->Option fF:=fun _=>a7
def Env.at (E:Env) (n:Nat):Env:={E with dp:=n}
def Ro (em:TypeId->Nat->Nat->Bool) (T:TT) (args:List bU) (st:St) (K:bU->St->Option R):Option R:=
 match args with
 |[.ptr id d]=>match dQ st.hp id with
  |some (.box t (.slf i:: .slc _ _ _::[]))=>bif Nat.beq d 0&&(Nat.beq i id&&((T.at t).known&&(T.at t).bld))then K (.tup []) st else a7
  |some (.box t cs)=>bif em t d cs.length then(match cs.getD d .undef with
    |.nilp=>K (.tup []) {st with hp:=iU st.hp id (.box t (cs.take d++[.ptr id d]++cs.drop (d+1)))}
    |.ptr i o=>bif Nat.beq i id&&Nat.beq o d then K (.tup []) st else a7
    |_=>a7)else a7
  |_=>a7
 |_=>a7
abbrev mO (R:Type):=Job->St->(bU->St->Option R)->Option R
structure Ye where
 q:Job->St->Option bU
 s:mO St
 u:mO Unit
def Wu:Ty:=.pair .str (.pair .str .unit)
def aoq {d:Type} (l:List d) (i:Nat) (x:List d):List d:=l.take i++x++l.drop i
def aEk:bU->Option Int
 |.val (.int .i64) n=>a6 n
 |_=>a7
def Y3 (args:List bU) (st:St) (K:bU->St->Option R):Option R:=
 match args with
 |[.slc id ver a7,f,.slc i2 v2 a7]=>match aEk f with
  |some i=>match dQ st.hp id with
   |some (.arr e v xs)=>match dQ st.hp i2 with
    |some (.arr e2 u d)=>bif(v==ver&&u==v2)&& !Nat.beq id i2 then
      (match jE (t':=.list e) (.list Wu) xs with
      |some xs=>match jE (t':=.list e2) (.list Wu) d with
       |some d=>bif Nat.beq d.length 1&&(leI 0 i&&(leI i (bM xs)&&dY xs 64))then
         K (.slc id (ver+1) a7) {st with hp:=iU st.hp id (.arr Wu (ver+1) (aoq xs i.toNat d))}else a7
       |none=>a7
      |none=>a7)else a7
    |_=>a7
   |_=>a7
  |none=>a7
 |_=>a7
def wZ:Ty:=.pair (.int .i64) (.pair (.int .i64) (.pair (.int .i64) (.pair .bool .unit)))
def afj:Int->List wZ.den->Bool
 |_,[]=>true
 |n,x::r=>leI n x.2.1&&(leI x.2.1 4611686018427387904&&afj (x.2.1+1) r)
def ab8 (xs:List wZ.den):Bool:=afj 0 xs
def ab9 (sc:FuncId) (args:List bU) (st:St) (K:bU->St->Option R):Option R:=
 match args with
 |[.slc id ver a7,.fn c []]=>bif Nat.beq c sc then(match dQ st.hp id with
   |some (.arr e v xs)=>bif v==ver then
     (match jE (t':=.list e) (.list wZ) xs with
     |some xs=>bif ab8 xs&&dY xs 64 then K (.tup []) st else a7
     |none=>a7)else a7
   |_=>a7)else a7
 |_=>a7
def vY (E:Env) (f:mO R):gI R:=fun j d l st K=>
 match j with
 |.fn g e=>match E.sg g with
  |some s=>s.call E.cl (d++e) l st K
  |none=>match E.sb g with
   |some s=>s.call E.cl (d++e) st K
   |none=>bif E.bf g then Ro E.em E.T (d++e) st K else bif E.il g then Y3 (d++e) st K else bif E.sl g then ab9 E.sc (d++e) st K else f (.call g (d++e)) st K
 |.mfn g i=>match E.sb g with
  |some s=>s.call E.cl (i++d) st K
  |none=>f (.call g (i++d)) st K
 |.yld id=>f (.yield id d) st K
 |_=>a7
def bU.rigid:bU->Bool
 |.val t _=>t.rigid
 |_=>false
def bU.calm:bU->Bool
 |.val _ _=>true
 |_=>false
def bU.rigidR:bU->Bool
 |.tup l=>l.all bU.rigid
 |v=>v.rigid
def V7 (hp:gQ):bU->Option bU
 |.val t x=>a6 (.val t x)
 |.nils=>a6 .nils
 |.slc id ver d=>match dQ hp id with
  |some (.arr t v xs)=>bif v==ver then a6 (.val (.list t) (acS xs d))else a7
  |_=>a7
 |_=>a7
def Q5 (hp:gQ):List bU->Option (List bU)
 |[]=>a6 []
 |v::l=>match V7 hp v with
  |some v=>match Q5 hp l with
   |some l=>a6 (v::l)
   |none=>a7
  |none=>a7
def RD (E:Env) (e:Job->St->Option bU):gI R:=fun f d i st K=>
 match f with
 |.fn g []=>match E.sg g with
  |some s=>bif s.rs.all (fun r=> !r.2&&r.1.rigid)then s.call E.cl d i st K else a7
  |none=>match Q5 st.hp d with
   |some d=>match e (.call g d) ⟨[],[],[],st.nxt⟩with
    |some v=>bif v.rigidR then K v st else a7
    |none=>a7
   |none=>a7
 |_=>a7
def jM:Op->Bool
 |.move _|.assign _|.pick _ _ _|.load _ _|.nilCheck _|.binOp _ _ _ _ _|.unOp _ _ _|.slice _ _ _ _ _|.fieldAddr _ _ _|.field _ _ _|.indexAddr _ _ _|.index _ _ _|.extract _ _|.build _ _|.convert _ _ _=>true
 |.call c=>match c.callee with
  |.builtin .len=>true
  |.builtin .min=>true
  |.builtin .max=>true
  |.value _=>true
  |_=>false
 |_=>false
def iy:Op->Bool
 |.call c=>match c.callee with
  |.builtin .len=>true
  |.builtin .min=>true
  |.builtin .max=>true
  |_=>false
 |o=>jM o
def IR:Op->Bool
 |.move _|.assign _|.pick _ _ _|.nilCheck _|.binOp _ _ _ _ _|.unOp _ _ _|.slice _ _ _ _ _|.fieldAddr _ _ _|.field _ _ _|.indexAddr _ _ _|.index _ _ _|.extract _ _=>true
 |.call c=>match c.callee with
  |.builtin .len=>true
  |.builtin .min=>true
  |.builtin .max=>true
  |_=>false
 |_=>false
def PP:Op->Bool
 |.move _|.assign _|.pick _ _ _|.load _ _|.index _ _ _|.extract _ _|.alloc _|.box _ _=>true
 |.call c=>match c.callee with
  |.builtin .len=>true
  |.builtin .unsafeSliceData=>true
  |_=>false
 |_=>false
def mr (ops:Array Oper):Bool:=ops.toList.all fun o=>match o.op with|.defer _=>false|.select _ _=>false|_=>true
def Xb (l:List Nat) (i:Nat):Bool:=l.any (Nat.beq i)
def Fa (ops:Array Oper) (j:Nat) (D:List Nat):Bool:=match ops[j]? with
 |some d=>d.after.any fun e=>Region.binds .any e&&Xb D e.on
 |none=>false
def aJx (ops:Array Oper) (d:Array Bool) (n:Nat) (D:List Nat):List Nat:=(List.range n).foldl (fun D j=>cond (!d.getD j true&&(!Xb D j&&Fa ops j D)) (j::D) D) D
def U9 (ops:Array Oper) (d:Array Bool) (i:Nat) (pure:Bool):Bool:=match ops[i]? with
 |some f=>let D:=aJx ops d ops.size [i]
  Xb D i&&(D.all (fun j=> !d.getD j true&&(Nat.beq j i||Fa ops j D))&&(List.range ops.size).all fun j=>d.getD j true||(Xb D j||(match ops[j]? with
   |some e=>f.apart ops e&&(pure||PP e.op)
   |none=>true)))
 |none=>false
def ahF (ops:Array Oper) (f:Op->Bool) (i:Nat):Bool:=match ops[i]? with
 |some o=>f o.op
 |none=>false
def wB {d:Type} (f:d->d->Bool):List d->List d->Bool
 |[],[]=>true
 |x::l,y::m=>f x y&&wB f l m
 |_,_=>false
def YE:(t:Ty)->t.den->t.den->Bool
 |.unit,_,_=>true
 |.bool,x,y=>x==y
 |.int _,x,y=>bV x y
 |.str,x,y=>fP x y
 |.list t,x,y=>wB (YE t) x y
 |.pair a b,x,y=>YE a x.1 y.1&&YE b x.2 y.2
def agS:Option (Int×Int)->Option (Int×Int)->Bool
 |none,a7=>true
 |some a,a6 b=>bV a.1 b.1&&bV a.2 b.2
 |_,_=>false
mutual
def Vp (a b:bU):Bool:=
 match a with
 |.undef=>match b with|.undef=>true|_=>false
 |.val t x=>match b with
  |.val u y=>(match jE t y with|some y=>YE t x y|none=>false)
  |_=>false
 |.nils=>match b with|.nils=>true|_=>false
 |.nilp=>match b with|.nilp=>true|_=>false
 |.nilfn=>match b with|.nilfn=>true|_=>false
 |.emp=>match b with|.emp=>true|_=>false
 |.tup l=>match b with|.tup m=>Il l m|_=>false
 |.agg l=>match b with|.agg m=>Il l m|_=>false
 |.cellp t x=>match b with
  |.cellp u y=>(match jE t y with|some y=>YE t x y|none=>false)
  |_=>false
 |.lst t x n=>match b with
  |.lst u y m=>n==m&&(match jE (.list t) (t':=.list u) y with|some y=>YE (.list t) x y|none=>false)
  |_=>false
 |.ptr i o=>match b with|.ptr j p=>Nat.beq i j&&Nat.beq o p|_=>false
 |.slc i v w=>match b with|.slc j u x=>Nat.beq i j&&(Nat.beq v u&&agS w x)|_=>false
 |.ep i v n o=>match b with|.ep j u m p=>Nat.beq i j&&(Nat.beq v u&&(eqN n m&&Nat.beq o p))|_=>false
 |.fn f l=>match b with|.fn g m=>Nat.beq f g&&Il l m|_=>false
 |.mfn f l=>match b with|.mfn g m=>Nat.beq f g&&Il l m|_=>false
 |.mpv i=>match b with|.mpv j=>Nat.beq i j|_=>false
 |.yld i=>match b with|.yld j=>Nat.beq i j|_=>false
 |.slf i=>match b with|.slf j=>Nat.beq i j|_=>false
 |.sd i v=>match b with|.sd j u=>Nat.beq i j&&Nat.beq v u|_=>false
def Il:List bU->List bU->Bool
 |[],m=>match m with|[]=>true|_=>false
 |a::l,m=>match m with|b::m=>Vp a b&&Il l m|_=>false
end
def aD2 (a b:Ex):Bool:=match a with
 |.normal=>match b with|.normal=>true|_=>false
 |.exit i=>match b with|.exit j=>Nat.beq i j|_=>false
 |.goto i=>match b with|.goto j=>Nat.beq i j|_=>false
 |.ret=>match b with|.ret=>true|_=>false
def asO:Option Ex->Option Ex->Bool
 |none,a7=>true
 |some a,a6 b=>aD2 a b
 |_,_=>false
def eqO (a b:dM):Bool:=
 match a with
 |.box t l=>match b with|.box u m=>Nat.beq t u&&Il l m|_=>false
 |.arr t v x=>match b with
  |.arr u w y=>Nat.beq v w&&(match jE (.list t) (t':=.list u) y with|some y=>YE (.list t) x y|none=>false)
  |_=>false
 |.lp f fr ps _ _ k n p=>match b with
  |.lp g fs qs _ _ h m q=>Nat.beq f g&&(Il fr fs&&(wB Nat.beq ps qs&&((match k,h with|some k,a6 h=>Nat.beq k h|_,_=>false)&&(Nat.beq n m&&asO p q))))
  |_=>false
 |.dead=>match b with|.dead=>true|_=>false
 |.mp k v l=>match b with
  |.mp k' v' m=>decide (k=k')&&(decide (v=v')&&decide (l=m))
  |_=>false
def eqH:gQ->gQ->Bool
 |[],h=>match h with|[]=>true|_=>false
 |(i,a)::h,g=>match g with
  |(j,b)::g=>Nat.beq i j&&(eqO a b&&eqH h g)
  |[]=>false
def asQ (a b:St):Bool:=Il a.fr b.fr&&(wB Il a.stk b.stk&&(eqH a.hp b.hp&&Nat.beq a.nxt b.nxt))
def Vf (d:gQ) (i:Nat) (a:dM):Option dM:=match a with
 |.lp f fr ps _ _ (a6 k) n p=>match dQ d i with
  |some (.lp g _ _ asg bd (a6 h) _ _)=>bif Nat.beq f g&&Nat.beq k h then a6 (.lp f fr ps asg bd (a6 k) n p)else a7
  |_=>a7
 |.lp _ _ _ _ _ a7 _ _=>a7
 |a=>a6 a
def Vb (d:gQ):gQ->Option gQ
 |[]=>a6 []
 |(i,a)::h=>match Vf d i a with
  |some a=>match Vb d h with
   |some h=>a6 ((i,a)::h)
   |none=>a7
  |none=>a7
def rP:gQ->Bool
 |[]=>true
 |(k,_)::h=> !h.any (fun e=>Nat.beq e.1 k)&&rP h
def TP (d:gQ):List (Option St)->Option St
 |some a::l=>bif(a6 a::l).all (fun b=>match b with|some b=>asQ a b&&rP b.hp|none=>false)then
   (match Vb d a.hp with|some h=>a6 {a with hp:=h}|none=>a7)else a7
 |_=>a7
def tidy (cl:Bool) (st:St):St:=cond cl st {st with hp:=lu st.hp}
def sG (ops:Array Oper) (i k:Nat):Bool:=match ops[i]? with
 |some d=>d.after.any fun e=>Region.binds .any e&&Nat.beq e.on k
 |none=>false
def FD (ops:Array Oper) (x y:Oper):Bool:=match y.dst with
 |some d=> !(x.looksAt ops).contains d&&x.dst !=a6 d
 |none=>true
def MW (ops:Array Oper) (log:List Nat) (i:Nat):Bool:=match ops[i]? with
 |some d=>FD ops {d with dst:=a7} d&&log.all fun k=>match ops[k]? with
  |some ok=>FD ops ok d&&(sG ops i k||ok.apart ops d)
  |none=>false
 |none=>false
def avu (ops:Array Oper) (log:List Nat) (i:Nat):Bool:=match ops[i]? with
 |some d=>log.all fun k=>match ops[k]? with
  |some ok=>sG ops i k||ok.apart ops d
  |none=>false
 |none=>false
def oz (ops:Array Oper):List Nat->List bU->List bU
 |[],e=>e
 |i::l,e=>match(ops[i]?).bind (·.dst)with
  |some d=>(oz ops l e).set d .undef
  |none=>oz ops l e
def sameAt (dst:Option Nat) (z:bU) (st:St):Bool:=match dst with
 |some d=>Vp z (st.fr.getD d .undef)
 |none=>true
def KO (s:Sum):Bool:=s.rs.all fun r=> !r.2&&r.1.rigid
def GX (sg:FuncId->Option Sum) (cl:Bool):gI R:=fun e d f st K=>match e with
 |.fn g []=>match sg g with
  |some s=>bif KO s&&d.all bU.calm then s.call cl d f st K else a7
  |none=>a7
 |_=>a7
def uX (sg:FuncId->Option Sum) (o:Op):Bool:=match o with
 |.call c=>match c.callee with
  |.builtin _=>true
  |.value (.func g)=>match sg g with
   |some s=>KO s
   |none=>false
  |_=>false
 |_=>true
def QT:List (Option Unit)->Option R->Option R
 |[],k=>k
 |o::l,k=>bJ o fun _=>QT l k
def settle (d:gQ) (a:St):Option St:=match Vb d a.hp with
 |some h=>a6 {a with hp:=h}
 |none=>a7
def jD (o:Oper) (fr:List bU):List bU:=match o.op with
 |.call c=>match c.callee with
  |.value v=>gX fr v::c.args.toList.map (gX fr)
  |_=>[]
 |_=>[]
def Y7 (sg:FuncId->Option Sum) (ops:Array Oper) (fr:List bU) (i:Nat):Bool:=match ops[i]? with
 |some o=>match jD o fr with
  |.fn g []::e=>match sg g with
   |some s=>(KO s&&e.all bU.calm)&&(match o.dst with|some d=>PD d fr.length|none=>true)
   |none=>false
  |_=>false
 |none=>false
def zu (dst:Option Nat) (fr:List bU):List bU:=match dst with
 |some d=>[fr.getD d .undef]
 |none=>[]
def yg (T:TT) (cl:Bool) (call:gI R) (ops:Array Oper) (e:List bU):List Nat->St->(St->Option R)->Option R
 |[],st,K=>K st
 |i::l,st,K=>match ops[i]? with
  |some d=>bif iy d.op then(eH T cl call d st fun z _=>bif sameAt d.dst z st then yg T cl call ops e l st K else a7)
   else bif Il (jD d e) (jD d st.fr)&&Il (zu d.dst e) (zu d.dst st.fr)then yg T cl call ops e l st K else a7
  |none=>a7
def tJ (T:TT) (cl:Bool) (call:gI R) (ops:Array Oper) (j:Nat) (log:List Nat) (st:St) (K:St->Option R):Option R:=
 match ops[j]? with
 |some d=>bif d.guard.isNone&&avu ops log j then
   eH T cl call d {st with fr:=oz ops (log.filter fun i=> !sG ops j i) st.fr,stk:=st.fr::st.stk} fun z g=>match g.stk with
    |e::f=>yg T cl call ops st.fr (log.filter fun i=> !sG ops j i).reverse ({g with fr:=e,stk:=f}.put d.dst z) K
    |[]=>a7
  else a7
 |none=>a7
def l9 (T:TT) (cl:Bool) (sg:FuncId->Option Sum) (d:gI St) (e:gI Unit) (ops:Array Oper):Nat->{R:Type}->gI R->Array Bool->List Nat->St->(St->Option R)->Option R
  |0,_,_,_,_,_,_=>a7
  |n+1,_,call,f,log,st,K=>match Region.ready .any ops f with
    |[]=>K st
    |k::rs=>match(k::rs).find? fun i=>ahF ops iy i&&MW ops log i with
      |some i=>match ops[i]? with
        |some g=>bif g.guard.isNone&&MW ops log i then
            eH T cl call g st fun z st=>l9 T cl sg d e ops n call (f.setIfInBounds i true) (i::log) (st.put g.dst z) K else a7
        |none=>a7
      |none=>match(k::rs).find? fun i=>Y7 sg ops st.fr i with
       |some i=>match ops[i]? with
        |some g=>bif g.guard.isNone&&MW ops log i then
            eH T cl (GX sg cl) g st fun z st=>l9 T cl sg d e ops n call (f.setIfInBounds i true) (i::log) (st.put g.dst z) K else a7
        |none=>a7
       |none=>match rs with
        |[]=>tJ T cl call ops k log st fun st=>l9 T cl sg d e ops n call (f.setIfInBounds k true) log st K
        |_=>bif cl|| !ops.toList.all (fun o=>uX sg o.op)then(match TP st.hp ((k::rs).map fun j=>tJ T cl d ops j log st fun st=>l9 T cl sg d e ops n d (f.setIfInBounds j true) log st fun st=>a6 (tidy cl st))with
          |some st=>K st
          |none=>a7)else
          tJ T cl call ops k log st fun l=>l9 T cl sg d e ops n call (f.setIfInBounds k true) log l fun st1=>
            bif rP (tidy cl st1).hp then(match settle st.hp (tidy cl st1)with
              |some m=>QT (rs.map fun j=>tJ T cl e ops j log st fun l=>l9 T cl sg d e ops n e (f.setIfInBounds j true) log l fun b=>
                  bif asQ (tidy cl st1) (tidy cl b)&&rP (tidy cl b).hp then a6 ()else a7) (K m)
              |none=>a7)else a7
def tY (ops:Array Oper):Nat->Array Bool->Option (List Nat)
 |0,d=>bif(Region.ready .any ops d).isEmpty then a6 []else a7
 |n+1,d=>match Region.ready .any ops d with
  |[]=>a6 []
  |k::e=>match(k::e).find? fun i=>ahF ops IR i&&U9 ops d i true with
   |some i=>match tY ops n (d.setIfInBounds i true)with
    |some l=>a6 (i::l)
    |none=>a7
   |none=>match(k::e).find? fun i=>ahF ops iy i&&U9 ops d i false with
    |some i=>match tY ops n (d.setIfInBounds i true)with
     |some l=>a6 (i::l)
     |none=>a7
    |none=>match e with
     |[]=>match tY ops n (d.setIfInBounds k true)with
      |some l=>a6 (k::l)
      |none=>a7
     |_=>a7
def ain (ops:Array Oper):Option (List Oper):=bif mr ops then(match tY ops ops.size (Array.replicate ops.size false)with
 |some l=>a6 (l.filterMap fun i=>ops[i]?)
 |none=>a7)else a7
def aF7 (sb:FuncId->Option fF) (d:FuncId->Bool) (o:Op):Bool:=match o with
 |.call c=>match c.callee with
  |.value (.func g)=>(sb g).isNone&& !d g
  |.value _=>false
  |_=>true
 |_=>true
def KJ (ops:Array Oper):Bool:=ops.toList.all (fun o=>jM o.op)&&Region.lexB .any ops
def aJA (d:St->(Ex->St->Option R)->Option R) (K:Ex->St->Option R):Ex->St->Option R:=fun e st=>match e with
 |.normal=>d st K
 |e=>K e st
def um (id:Nat) (K:Ex->St->Option R):Ex->St->Option R:=fun e st=>match e with
 |.exit i=>bif i==id then K .normal st else K (.exit i) st
 |e=>K e st
def Bg (F:St->(Ex->St->Option R)->Option R):St->(Ex->St->Option R)->Option R:=fun st K=>F st fun e st=>match e with
 |.normal=>K (.exit 999999) st
 |.exit i=>bif Nat.beq i 999999 then a7 else K (.exit i) st
 |e=>K e st
def cutAt (E:Env) (f:FuncId) (k:Nat) (F:St->(Ex->St->Option R)->Option R) (st:St) (K:Ex->St->Option R):Option R:=
 match E.lp f k with
 |some L=>bif L.dep.ble E.dp then(match L.get st with
  |some v=>bJ (L.spec v) fun o=>dW o (fun a=>um 999999 K (L.exA v) (L.stA st v a)) fun b=>um 999999 K (L.exB v) (L.stB st v b)
  |none=>a7)else a7
 |none=>match E.kp f k with
  |none=>F st K
  |some d=>match LC d.slots d.owns st with
   |some st=>iter (a6 d) (Bg F) bQ st (um 999999 K)
   |none=>a7
def auu (K:Ex->St->Option R):Ex->St->Option R:=fun e st=>match e with
 |.goto _=>a7
 |e=>K e st
def Gf (k:Option eQ) (st:St):St:=match k with
 |some k=>{st with fr:=Hg k.slots 0 st.fr}
 |none=>st
def run (E:Env) (d:mO R) (i:Ye) (f:FuncId):Code->St->(Ex->St->Option R)->Option R
 |.skip,st,K=>K .normal st
 |.label _,st,K=>K .normal st
 |.region id ops z,st,K=>
  let st:=Gf (E.kp f (600000+id)) st
  bif z then(bif KJ ops&&ops.toList.all (fun o=>iy o.op)then ig E.T E.cl (RD E i.q) ops (K .normal) ops.toList st else match ain ops with
   |some l=>ig E.T E.cl (vY E d) ops (K .normal) l st
   |none=>bif KJ ops&&ops.toList.all (fun o=>aF7 E.sb E.np o.op)then ig E.T E.cl (RD E i.q) ops (K .normal) ops.toList st else bif mr ops then l9 E.T E.cl E.sg (vY E i.s) (vY E i.u) ops (ops.size+1) (vY E d) (Array.replicate ops.size false) [] st (K .normal)else a7)
  else ig E.T E.cl (vY E d) ops (K .normal) ops.toList st
 |.seq a b,st,K=>run E d i f a st (aJA (cutAt E f (800000+dH b) (run E d i f b)) K)
 |.cond c x y,st,K=>match gX st.fr c with
  |.val .bool b=>bif b then run E d i f x st K else run E d i f y st K
  |_=>a7
 |.block id c,st,K=>run E d i f c st (um id K)
 |.loop c,st,K=>match E.lp f (dH c)with
  |some L=>bif L.dep.ble E.dp then(match L.get st with
   |some v=>bJ (L.spec v) fun o=>dW o (fun a=>K (L.exA v) (L.stA st v a)) fun b=>K (L.exB v) (L.stB st v b)
   |none=>a7)else a7
  |none=>match E.kp f (dH c)with
   |none=>iter a7 (run E d i f c) bQ st K
   |some k=>match LC k.slots k.owns st with
    |some st=>iter (a6 k) (run E d i f c) bQ st K
    |none=>a7
 |.exit id,st,K=>K (.exit id) st
 |.goto l,st,K=>K (.goto l) st
 |.ret,st,K=>K .ret st
 |.scope c,st,K=>run E d i f c st (auu K)
 |.rangeFunc fv ps asg p,st,K=>match gX st.fr fv with
  |.fn g A=>
   let st:=Gf (E.kp f (500000+dH p)) st
   alloc E.cl (a6 (700000+ps.toList.headD 0)) (.lp f st.fr ps.toList asg p (bif E.rf f (dH p)then a6 (dH p)else a7) 0 a7) st fun id st=>
    d (.call g (.yld id::A)) {st with stk:=[.yld id]::st.stk} fun _ st=>match st.stk with
     |[.yld id]::j=>match dQ st.hp id with
      |some (.lp _ _ _ _ _ _ 0 a7)=>K .normal {st with stk:=j,hp:=iU st.hp id .dead}
      |some (.lp _ _ _ _ _ _ 1 (a6 e))=>K e {st with stk:=j,hp:=iU st.hp id .dead}
      |_=>a7
     |_=>a7
  |_=>a7
 |.refuse _,_,_=>a7
def rq (T:TT) (st:St):List ResultVar->(List bU->Option R)->Option R
 |[],K=>K []
 |.tmp t::l,K=>rq T st l fun d=>K (st.fr.getD t .undef::d)
 |.cell a t::l,K=>LY T st.hp t (st.fr.getD a .undef) fun v=>rq T st l fun d=>K (v::d)
def vK (fr:List bU):List Nat->List bU->List bU
 |p::d,v::e=>vK (fr.set p v) d e
 |_,_=>fr
def pop (st:St) (K:St->Option R):Option R:=
 match st.stk with
 |d::e=>K {st with fr:=d,stk:=e}
 |[]=>a7
def Env.keyed (E:Env):Option Nat->Env
 |some _=>E
 |none=>{E with lp:=fun _ _=>a7,rf:=fun _ _=>false}
def kH (E:Env):Nat->{R:Type}->mO R
 |0,_,_,_,_=>a7
 |n+1,R,.call f i,st,K=>match E.P.funcs[f]? with
  |none=>a7
  |some fn=>match fn.body with
   |none=>a7
   |some c=>bif i.length.ble fn.ntmps then
     (run (E.at n) (kH E n) ⟨fun j st=>kH E n (R:=bU) j st fun v _=>a6 v,kH E n,kH E n⟩ f c {fr:=i++List.replicate (fn.ntmps-i.length) (.tup []),stk:=st.fr::st.stk,hp:=st.hp,nxt:=st.nxt} fun e d=>
      match e with
      |.normal|.ret=>rq E.T d fn.results.toList fun o=>
       let v:=match o with
        |[v]=>v
        |o=>.tup o
       match gc (bif E.cl then st.nxt else 1000000*d.stk.length) v {d with fr:=[]}with
       |some g=>pop g (K v)
       |none=>a7
      |_=>a7)else a7
 |n+1,R,.yield id i,st,K=>match dQ st.hp id with
  |some (.lp f fr0 ps asg bd p 0 a7)=>bif i.length==ps.length then
    (run ((E.at n).keyed p) (kH E n) ⟨fun j st=>kH E n (R:=bU) j st fun v _=>a6 v,kH E n,kH E n⟩ f asg {fr:=vK fr0 ps i,stk:=[.yld id]::st.fr::st.stk,hp:=st.hp,nxt:=st.nxt} fun e d=>match e,d.stk with
     |.normal,[.yld id]::_=>match dQ d.hp id with
      |some (.lp f1 fr1 ps1 asg1 bd1 s 0 a7)=>run ((E.at n).keyed p) (kH E n) ⟨fun j st=>kH E n (R:=bU) j st fun v _=>a6 v,kH E n,kH E n⟩ f bd {d with hp:=iU d.hp id (.lp f1 fr1 ps1 asg1 bd1 s 2 a7)} fun e g=>match g.stk with
       |[.yld id]::l=>match dQ g.hp id with
        |some (.lp f2 fr2 ps2 asg2 bd2 q 2 a7)=>
         match gc (bif E.cl then st.nxt else 1000000*g.stk.length) .undef {g with fr:=[],stk:=l,hp:=iU g.hp id (match e with|.normal=>.lp f2 fr2 ps2 asg2 bd2 q 0 a7|e=>.lp f2 fr2 ps2 asg2 bd2 q 1 (a6 e))}with
         |some u=>pop u (K (.val .bool (match e with|.normal=>true|_=>false)))
         |none=>a7
        |_=>a7
       |_=>a7
      |_=>a7
     |_,_=>a7)else a7
  |_=>a7
end
end
section
open Option renaming some → a6, none → a7
open List renaming append_assoc → ai, length_append → aj, nil_append → aF, length_cons → aG, drop_of_length_le → aO, take_of_length_le → bD, eq_nil_of_length_eq_zero → bG
open Nat renaming le_refl → ae, lt_or_ge → aJ
open Tryz
open Go.RowKit
def mP:TypeId:=5
def Wh:TypeId:=128
def IX:Code->Nat->Option (Code×Code)
 |.rangeFunc _ _ asg d,k=>if dH d=k then a6 (asg,d)else match IX asg k with
  |some x=>a6 x
  |none=>IX d k
 |.seq a b,k=>match IX a k with
  |some x=>a6 x
  |none=>IX b k
 |.cond _ a b,k=>match IX a k with
  |some x=>a6 x
  |none=>IX b k
 |.block _ c,k=>IX c k
 |.loop c,k=>IX c k
 |.scope c,k=>IX c k
 |_,_=>a7
def aGc (P:Program) (f:FuncId) (k:Nat):Option (Code×Code):=
 match P.funcs[f]? with
 |some fn=>match fn.body with
  |some c=>IX c k
  |none=>a7
 |none=>a7
noncomputable def qK (f:FuncId) (k:Nat):Option (Code×Code):=aGc prog f k
def gW (w:World) (b o:Nat) (d:List Value):Prop:= ∀j (h:j<d.length),w.cell? ⟨b,o+j,a7⟩=a6 d[j]
theorem gW.of_block {w w':World} {b o:Nat} {d:List Value} (h:gW w b o d) (hb:w'.heap[b]? =w.heap[b]?):gW w' b o d:=
 fun j e=>(World.cell?_of_block (w:=w) (a:=⟨b,o+j,a7⟩) hb).trans (h j e)
theorem gW.append {w:World} {b o:Nat} {xs e:List Value}:gW w b o (xs++e)↔gW w b o xs/\gW w b (o+xs.length) e:=by
 constructor
 .intro h;refine⟨fun j d=> ?_,fun j d=> ?_⟩
  .have:=h j (by simp;omega);simp_all
  .have:=h (xs.length+j) (by simp;omega)
   grind
 .rintro ⟨f,g⟩ j d;rcases aJ j xs.length with h|h
  .rw[List.getElem_append_left h];exact f j h
  .rw[List.getElem_append_right h];have:=g (j-xs.length) (by simp at d;omega)
   grind
def fQ {e:Type} (R:e->List Value->Prop) (size:Nat):List e->List Value->Prop
 |[],d=>d=[]
 |x::xs,d=> ∃c f,d=c++f/\c.length=size/\R x c/\fQ R size xs f
theorem fQ.mono {d:Type} {R e:d->List Value->Prop} {size:Nat} (h: ∀x c,R x c->e x c): ∀(xs:List d) (f:List Value),fQ R size xs f->fQ e size xs f
 |[],_,i=>i
 |_::xs,_,⟨c,g,j,l,o,p⟩=>⟨c,g,j,l,h _ _ o,fQ.mono h xs g p⟩
theorem fQ.length {d:Type} {R:d->List Value->Prop} {size:Nat}: ∀(xs:List d) (e:List Value),fQ R size xs e->e.length=xs.length*size
 |[],_,f=>by cases f;simp
 |_::xs,_,⟨c,g,i,j,o,l⟩=>by
  subst i;simp only[aj,aG,j,fQ.length xs g l,Nat.add_mul,Nat.one_mul];omega
theorem fQ.append {e:Type} {R:e->List Value->Prop} {size:Nat}: ∀(xs:List e) (f:List Value) (d:List e) (us:List Value),fQ R size xs f->fQ R size d us->fQ R size (xs++d) (f++us)
 |[],_,d,us,i,h=>by cases i;exact h
 |x::xs,_,d,us,⟨c,g,j,l,o,p⟩,h=>by
  subst j;exact⟨c,g++us,by simp,l,o,fQ.append xs g d us p h⟩
theorem fQ.take {d:Type} {R:d->List Value->Prop} {size:Nat}: ∀(k:Nat) (xs:List d) (e:List Value),fQ R size xs e->fQ R size (xs.take k) (e.take (k*size))
 |0,_,_,_=>by simp[fQ]
 |k+1,[],_,g=>by cases g;simp[fQ]
 |k+1,x::xs,_,⟨c,f,i,j,l,o⟩=>by
  subst i;refine⟨c,f.take (k*size), ?_,j,l,fQ.take k xs f o⟩;simp_all [List.take_append,bD,Nat.add_mul]
theorem fQ.drop {e:Type} {R:e->List Value->Prop} {size:Nat}: ∀(k:Nat) (xs:List e) (f:List Value),fQ R size xs f->fQ R size (xs.drop k) (f.drop (k*size))
 |0,_,_,h=>by simpa using h
 |k+1,[],_,i=>by cases i;simp[fQ]
 |k+1,x::xs,_,⟨c,d,j,g,o,l⟩=>by
  subst j;have:(c++d).drop ((k+1)*size)=d.drop (k*size):=by
   rw[List.drop_append,aO (by rw[g,Nat.add_mul];omega),aF,g,Nat.add_mul];congr 1;omega
  rw[this,List.drop_succ_cons];exact fQ.drop k xs d l
theorem fQ.at_ {f:Type} {R:f->List Value->Prop} {size:Nat}: ∀(i:Nat) (xs:List f) (g:List Value) (hi:i<xs.length),fQ R size xs g->
  ∃c,c.length=size/\R xs[i] c/\ ∃d j,g=d++c++j/\d.length=i*size
 |i,[],_,hi,_=>by simp at hi
 |0,x::xs,_,_,⟨c,e,l,o,p,q⟩=>⟨c,o,p,[],e,by simp[l],by simp⟩
 |i+1,x::xs,_,hi,⟨c,e,l,o,p,q⟩=>by
  obtain⟨s,u,v,d,j,y,z⟩:=fQ.at_ i xs e (by simpa using hi) q
  grind
theorem fQ.set {j:Type} {R:j->List Value->Prop} {size:Nat} (y:j) (d:List Value) (hd:d.length=size) (q:R y d): ∀(i:Nat) (xs:List j) (e c f:List Value),
  i<xs.length->fQ R size xs (e++c++f)->e.length=i*size->c.length=size->fQ R size (xs.set i y) (e++d++f)
 |i,[],_,_,_,l,_,_,_=>by simp at l
 |0,x::xs,e,c,f,_,⟨s,A,g,o,u,v⟩,hl,p=>by
  have:e=[]:=bG (by simpa using hl);subst this;simp only[aF]at g ⊢;obtain⟨B,z⟩:=List.append_inj g (by rw[p,o]);subst z;exact⟨d,f,rfl,hd,q,v⟩
 |i+1,x::xs,e,c,f,l,⟨s,A,g,o,u,v⟩,hl,p=>by
  have E:size<=e.length:=by grind
  have D:e=e.take size++e.drop size:=(List.take_append_drop size e).symm;rw[D,ai,ai]at g;obtain⟨B,z⟩:=List.append_inj g (by grind);have:=fQ.set y d hd q i xs (e.drop size) c f (by simpa using l) (by grind) (by grind) p;refine⟨s,e.drop size++d++f, ?_,o,u,this⟩
  grind
def eY (w:World) (fr:Nat->Prop):(t:Ty)->t.den->List Value->Prop
 |.unit,_,cs=>cs=[]
 |.bool,x,cs=>cs=[.bool x]
 |.int k,x,cs=>cs=[.int k x]
 |.str,x,cs=>cs=[.string ⟨x.toArray⟩]
 |.list t,xs,cs=> ∃a c d,cs=[.slice a xs.length c]/\xs.length<=c/\fQ (eY w fr t) t.size xs d/\(d=[]\/ ∃b e,a=a6 ⟨b,e,a7⟩/\fr b/\gW w b e d)
 |.pair a b,x,cs=> ∃f g,cs=f++g/\eY w fr a x.1 f/\eY w fr b x.2 g
theorem eY.mono {w w':World} {fr i:Nat->Prop} (h: ∀b,fr b->i b/\w'.heap[b]? =w.heap[b]?): ∀(t:Ty) (x:t.den) (cs:List Value),eY w fr t x cs->eY w' i t x cs
 |.unit,_,_,d=>d
 |.bool,_,_,d=>d
 |.int _,_,_,d=>d
 |.str,_,_,d=>d
 |.list t,xs,_,⟨a,c,j,e,f,g,q⟩=>⟨a,c,j,e,f,fQ.mono (eY.mono h t) xs j g,q.imp id fun⟨b,s,u,l,v⟩=>⟨b,s,u,(h b l).1,v.of_block (h b l).2⟩⟩
 |.pair a b,x,_,⟨o,p,e,f,g⟩=>⟨o,p,e,eY.mono h a x.1 o f,eY.mono h b x.2 p g⟩
theorem eY.length {w:World} {fr:Nat->Prop}: ∀(t:Ty) (x:t.den) (cs:List Value),eY w fr t x cs->cs.length=t.size
 |.unit,_,_,d=>by cases d;rfl
 |.bool,_,_,d=>by cases d;rfl
 |.int _,_,_,d=>by cases d;rfl
 |.str,_,_,d=>by cases d;rfl
 |.list t,xs,_,⟨a,c,l,e,_⟩=>by subst e;rfl
 |.pair a b,x,_,⟨f,g,e,i,j⟩=>by subst e;simp[Ty.size,eY.length a x.1 f i,eY.length b x.2 g j]
theorem eY.one {w:World} {fr:Nat->Prop}: ∀(t:Ty) (x:t.den) (cs:List Value),eY w fr t x cs-> ∀v∈cs,v.oneCell'=true
 |.unit,_,_,d=>by cases d;simp
 |.bool,_,_,d=>by cases d;simp[Value.oneCell']
 |.int _,_,_,d=>by cases d;simp[Value.oneCell']
 |.str,_,_,d=>by cases d;simp[Value.oneCell']
 |.list t,xs,_,⟨a,c,o,f,_⟩=>by subst f;simp[Value.oneCell']
 |.pair a b,x,_,⟨g,i,f,j,l⟩=>by
  subst f;intro v e;rcases List.mem_append.1 e with e|e
  .exact eY.one a x.1 g j v e
  .exact eY.one b x.2 i l v e
structure Loc where
 blk:Nat
 v:Value
structure Cx where
 mu:Nat->Loc
 hp:gQ
 nxt:Nat
 w:World
 mks:List Nat
 bar:Nat->Prop
def dM.blk:dM->Loc->Option Nat
 |.box _ _,l=>a6 l.blk
 |.arr _ _ _,l=>l.v.ownBlock
 |.lp _ _ _ _ _ _ _ _,l=>a6 l.blk
 |.dead,_=>a7
 |.mp _ _ _,l=>a6 l.blk
def Cx.own (c:Cx) (b:Nat):Prop:= ∃id o,dQ c.hp id=a6 o/\o.blk (c.mu id)=a6 b
def Cx.free (c:Cx) (b:Nat):Prop:=b<c.w.heap.size/\ ¬c.own b/\b∉c.mks/\ ¬c.bar b
def Cx.out (c:Cx) (b:Nat):Prop:=b<c.w.heap.size/\ ¬c.own b/\b∉c.mks
def Cx.known (c:Cx) (id:Nat):Prop:=(∃o,dQ c.hp id=a6 o)\/id<c.nxt
def VD (c:Cx) (t:Ty) (x:t.den) (v:Value):Prop:=
 (t.isAgg=true-> ∃cs,v=.agg cs/\eY c.w c.free t x cs.toList)/\(t.isAgg=false->eY c.w c.free t x [v])
def ja (size:Nat) (s:Value):Option (Int×Int)->Value->Prop
 |none,v=>v=s
 |some (lo,d),v=> ∃a n c,s=.slice a n c/\0<=lo/\lo<=d/\d<=n/\v=.slice (if c=lo.toNat then a else a.map (·.add (lo.toNat*size))) (d.toNat-lo.toNat) (c-lo.toNat)
mutual
def bW (c:Cx):bU->Value->Prop
 |.undef,_=>True
 |.val t x,v=>VD c t x v
 |.nils,v=>v=.slice a7 0 0
 |.emp,v=> ∃a,v=.slice a 0 0
 |.lst e xs b,v=>VD c (.list e) xs v/\ ∃a n m,v=.slice a n m/\b=a.isNone
 |.nilp,v=>v=.pointer a7
 |.nilfn,v=>v=.nilFunc
 |.tup l,v=> ∃d,v=.tuple d/\bK c l d.toList
 |.agg l,v=> ∃d,v=.agg d/\bK c l d.toList/\ ∀u∈d.toList,u.oneCell'=true
 |.cellp t x,v=> ∃b o s,v=.pointer (a6 ⟨b,o,a7⟩)/\c.free b/\gW c.w b o s/\eY c.w c.free t x s
 |.ptr id q,v=>v.oneCell'=true/\c.known id/\ ∀t cs,dQ c.hp id=a6 (.box t cs)->v=.pointer (a6 ⟨(c.mu id).blk,q,a7⟩)
 |.slf id,v=>v.oneCell'=true/\c.known id/\ ∀t cs,dQ c.hp id=a6 (.box t cs)->v=.pointer a7\/v=.pointer (a6 ⟨(c.mu id).blk,0,a7⟩)
 |.sd id j,v=>v.oneCell'=true/\c.known id/\ ∀t u xs,dQ c.hp id=a6 (.arr t u xs)->j<=u/\(u=j->(∃p,v=.pointer p)/\ ∀a n cp,(c.mu id).v=.slice a n cp->n≠0->v=.pointer a)
 |.slc id j y,v=>v.oneCell'=true/\c.known id/\ ∀t u xs,dQ c.hp id=a6 (.arr t u xs)->j<=u/\(u=j->ja t.size (c.mu id).v y v)
 |.ep id j i q,v=>v.oneCell'=true/\c.known id/\ ∀t u xs,dQ c.hp id=a6 (.arr t u xs)->j<=u/\(u=j-> ∃g n cp,(c.mu id).v=.slice (a6 ⟨g,0,a7⟩) n cp/\v=.pointer (a6 ⟨g,i*t.size+q,a7⟩))
 |.fn f l,v=> ∃d,v=.func (.func f) #[] d/\bK c l d.toList
 |.mfn f l,v=> ∃d,v=.func (.func f) d #[]/\bK c l d.toList
 |.mpv id,v=>v.oneCell'=true/\c.known id/\ ∀z A B,dQ c.hp id=a6 (.mp z A B)->v=.map (a6 (c.mu id).blk)
 |.yld id,v=>v.oneCell'=true/\c.known id/\ ∀f D E asg G I n p,dQ c.hp id=a6 (.lp f D E asg G I n p)->v=.func (.yield (c.mu id).blk) #[] #[]
def bK (c:Cx):List bU->List Value->Prop
 |[],[]=>True
 |v::l,x::xs=>bW c v x/\bK c l xs
 |_,_=>False
end
def dM.like:dM->Loc->dM->Loc->Prop
 |.box _ _,l,.box _ _,d=>d.blk=l.blk
 |.lp _ _ _ _ _ _ _ _,l,.lp _ _ _ _ _ _ _ _,d=>d.blk=l.blk
 |.mp _ _ _,l,.mp _ _ _,d=>d.blk=l.blk
 |_,_,.dead,_=>True
 |.arr t v _,l,.arr t' v' _,d=>v<=v'/\(v=v'->t=t'/\d.v=l.v)
 |_,_,_,_=>False
structure Cx.Le0 (c c':Cx):Prop where
 out: ∀b,c.out b->c'.out b/\c'.w.heap[b]? =c.w.heap[b]?
 ref: ∀id,c.known id->c'.known id
 obj: ∀id o',c.known id->dQ c'.hp id=a6 o'-> ∃o,dQ c.hp id=a6 o/\o.like (c.mu id) o' (c'.mu id)
 bar:c'.bar=c.bar
structure Cx.Le (c c':Cx):Prop where
 out: ∀b,c.out b->c'.out b/\c'.w.heap[b]? =c.w.heap[b]?
 ref: ∀id,c.known id->c'.known id
 obj: ∀id o',c.known id->dQ c'.hp id=a6 o'-> ∃o,dQ c.hp id=a6 o/\o.like (c.mu id) o' (c'.mu id)
 mks: ∀r,r∈c.mks->r∈c'.mks
 lp: ∀(b:Nat) (L:Loop),c.w.heap[b]? =a6 (Obj.loop L)-> ∃L':Loop,c'.w.heap[b]? =a6 (Obj.loop L')
 size:c.w.heap.size<=c'.w.heap.size
 bar:c'.bar=c.bar
theorem Cx.Le0.free {c c':Cx} (h:c.Le0 c') (b:Nat) (hb:c.free b):c'.free b/\c'.w.heap[b]? =c.w.heap[b]? :=
 let⟨⟨d,e,f⟩,g⟩:=h.out b ⟨hb.1,hb.2.1,hb.2.2.1⟩
 ⟨⟨d,e,f,by rw[h.bar];exact hb.2.2.2⟩,g⟩
theorem Cx.Le.free {c c':Cx} (h:c.Le c') (b:Nat) (hb:c.free b):c'.free b/\c'.w.heap[b]? =c.w.heap[b]? :=
 let⟨⟨d,e,f⟩,g⟩:=h.out b ⟨hb.1,hb.2.1,hb.2.2.1⟩
 ⟨⟨d,e,f,by rw[h.bar];exact hb.2.2.2⟩,g⟩
theorem dM.like_refl (o:dM) (l:Loc):o.like l o l:=by cases o<;>simp[dM.like]
theorem dM.like_trans {a b d:dM} {l m n:Loc} (h:a.like l b m) (k:b.like m d n):a.like l d n:=by
 cases d with
 |dead=>cases a<;>simp[dM.like]
 |arr t'' v'' e=>
  cases b with
  |arr t' v' f=>
   cases a with
   |arr t v xs=>
    grind [dM.like]
   |_=>simp[dM.like]at h
  |_=>simp[dM.like]at k
 |box _ _=>cases b<;>cases a<;>simp_all [dM.like]
 |lp _ _ _ _ _ _ _ _=>cases b<;>cases a<;>simp_all [dM.like]
 |mp _ _ _=>cases b<;>cases a<;>simp_all [dM.like]
theorem Cx.Le.refl (c:Cx):c.Le c:=⟨fun _ h=>⟨h,rfl⟩,fun _ h=>h,fun id o h d=>⟨o,d,o.like_refl _⟩,fun _ h=>h,fun b L h=>⟨L,h⟩,ae _,rfl⟩
theorem VD.le0 {c c':Cx} (h:c.Le0 c') {t:Ty} {x:t.den} {v:Value} (d:VD c t x v):VD c' t x v:=
 ⟨fun e=>let⟨cs,f,g⟩:=d.1 e;⟨cs,f,eY.mono h.free t x _ g⟩,fun e=>eY.mono h.free t x _ (d.2 e)⟩
mutual
theorem bW.le0 {c c':Cx} (h:c.Le0 c'): ∀(v:bU) (x:Value),bW c v x->bW c' v x
 |.undef,_,_=>by simp[bW]
 |.val t x,v,d=>by simp only[bW]at d ⊢;exact d.le0 h
 |.nils,_,d=>by assumption
 |.emp,_,d=>by assumption
 |.lst e xs b,v,d=>by simp only[bW]at d ⊢;exact⟨d.1.le0 h,d.2⟩
 |.nilp,_,d=>by assumption
 |.nilfn,_,d=>by assumption
 |.tup l,v,d=>by simp only[bW]at d ⊢;obtain⟨y,j,g⟩:=d;exact⟨y,j,bK.le0 h l _ g⟩
 |.agg l,v,d=>by simp only[bW]at d ⊢;obtain⟨y,j,g,z⟩:=d;exact⟨y,j,bK.le0 h l _ g,z⟩
 |.cellp t x,v,d=>by
  simp only[bW]at d ⊢;obtain⟨b,o,D,j,g,z,E⟩:=d;exact⟨b,o,D,j,(h.free b g).1,z.of_block (h.free b g).2,eY.mono h.free t x _ E⟩
 |.ptr id G,v,d=>by
  simp only[bW]at d ⊢;obtain⟨q,d⟩:=d;refine⟨q,h.ref id d.1,fun t cs s=> ?_⟩;obtain⟨o,j,g⟩:=h.obj id _ d.1 s;cases o<;>simp only[dM.like]at g;simp_all
 |.slf id,v,d=>by
  simp only[bW]at d ⊢;obtain⟨q,d⟩:=d;refine⟨q,h.ref id d.1,fun t cs s=> ?_⟩;obtain⟨o,j,g⟩:=h.obj id _ d.1 s;cases o<;>simp only[dM.like]at g;simp_all
 |.sd id A,v,d=>by
  simp only[bW]at d ⊢;obtain⟨q,d⟩:=d;refine⟨q,h.ref id d.1,fun t u xs s=> ?_⟩;obtain⟨o,j,g⟩:=h.obj id _ d.1 s;cases o with
  |arr t' v' B=>
   grind [dM.like]
  |box _ _=>simp[dM.like]at g
  |lp _ _ _ _ _ _ _ _=>simp[dM.like]at g
  |dead=>simp[dM.like]at g
  |mp _ _ _=>simp[dM.like]at g
 |.slc id A I,v,d=>by
  simp only[bW]at d ⊢;obtain⟨q,d⟩:=d;refine⟨q,h.ref id d.1,fun t u xs s=> ?_⟩;obtain⟨o,j,g⟩:=h.obj id _ d.1 s;cases o with
  |arr t' v' B=>
   grind [dM.like]
  |box _ _=>simp[dM.like]at g
  |lp _ _ _ _ _ _ _ _=>simp[dM.like]at g
  |dead=>simp[dM.like]at g
  |mp _ _ _=>simp[dM.like]at g
 |.ep id A i G,v,d=>by
  simp only[bW]at d ⊢;obtain⟨q,d⟩:=d;refine⟨q,h.ref id d.1,fun t u xs s=> ?_⟩;obtain⟨o,j,g⟩:=h.obj id _ d.1 s;cases o with
  |arr t' v' B=>
   grind [dM.like]
  |box _ _=>simp[dM.like]at g
  |lp _ _ _ _ _ _ _ _=>simp[dM.like]at g
  |dead=>simp[dM.like]at g
  |mp _ _ _=>simp[dM.like]at g
 |.fn f l,v,d=>by simp only[bW]at d ⊢;obtain⟨y,j,g⟩:=d;exact⟨y,j,bK.le0 h l _ g⟩
 |.mfn f l,v,d=>by simp only[bW]at d ⊢;obtain⟨y,j,g⟩:=d;exact⟨y,j,bK.le0 h l _ g⟩
 |.mpv id,v,d=>by
  simp only[bW]at d ⊢;obtain⟨q,d⟩:=d;refine⟨q,h.ref id d.1,fun J K L s=> ?_⟩;obtain⟨o,j,g⟩:=h.obj id _ d.1 s;cases o<;>simp only[dM.like]at g;simp_all
 |.yld id,v,d=>by
  simp only[bW]at d ⊢;obtain⟨q,d⟩:=d;refine⟨q,h.ref id d.1,fun f M N asg O S n p s=> ?_⟩;obtain⟨o,j,g⟩:=h.obj id _ d.1 s;cases o<;>simp only[dM.like]at g;simp_all
theorem bK.le0 {c c':Cx} (h:c.Le0 c'): ∀(l:List bU) (xs:List Value),bK c l xs->bK c' l xs
 |[],[],_=>by simp[bK]
 |v::l,x::xs,d=>by simp only[bK]at d ⊢;exact⟨bW.le0 h v x d.1,bK.le0 h l xs d.2⟩
 |[],_::_,d=>by simp[bK]at d
 |_::_,[],d=>by simp[bK]at d
end
theorem Cx.Le.le0 {c c':Cx} (h:c.Le c'):c.Le0 c':=⟨h.out,h.ref,h.obj,h.bar⟩
theorem VD.le {c c':Cx} (h:c.Le c') {t:Ty} {x:t.den} {v:Value} (d:VD c t x v):VD c' t x v:=d.le0 h.le0
theorem bW.le {c c':Cx} (h:c.Le c') (v:bU) (x:Value) (d:bW c v x):bW c' v x:=bW.le0 h.le0 v x d
theorem bK.le {c c':Cx} (h:c.Le c') (l:List bU) (xs:List Value) (d:bK c l xs):bK c' l xs:=bK.le0 h.le0 l xs d
end
section
open Go.RowKit
def aqx (w:World):Prop:=True
theorem aqx.below {w w':World} (hb:Below w.heap.size w w') (h:aqx w):aqx w':=trivial
def aqw (w:World):Prop:= ∃m,w.cell? ⟨0,0,none⟩=some (.int .i64 m)
theorem aqw.below {w w':World} (hb:Below w.heap.size w w') (h:aqw w):aqw w':=by
 obtain⟨m,d⟩:=h;exact⟨m,(hb.cell (World.block_lt_of_cell? w _ d)).trans d⟩
def Yd (w:World):Prop:=aqx w/\aqw w
theorem Yd.below {w w':World} (hb:Below w.heap.size w w') (h:Yd w):Yd w':=⟨h.1.below hb,h.2.below hb⟩
end
section
open Option renaming some → a6, none → a7
open List renaming cons_append → aH
open Nat renaming le_trans → aI, lt_of_lt_of_le → aZ
open Go.RowKit
theorem Cx.Le.trans {a b c:Cx} (h:a.Le b) (k:b.Le c):a.Le c:=
 ⟨fun x e=>⟨(k.out x (h.out x e).1).1,(k.out x (h.out x e).1).2.trans (h.out x e).2⟩,fun i d=>k.ref i (h.ref i d),fun i o d g=>by
  obtain⟨p,f,s⟩:=k.obj i o (h.ref i d) g;obtain⟨q,u,v⟩:=h.obj i p d f
  grind [dM.like_trans],fun r hr=>k.mks r (h.mks r hr),fun b L j=>let⟨l,f⟩:=h.lp b L j;k.lp b l f,aI h.size k.size,k.bar.trans h.bar⟩
theorem eG (k:Nat) (o:dM) (h:gQ) (i:Nat):dQ ((k,o)::h) i=if k=i then a6 o else dQ h i:=by
 simp_all [dQ]
theorem jm: ∀(h:gQ) (i:Nat) (o:dM) (j:Nat),dQ (iU h i o) j=if i=j then(dQ h i).map fun _=>o else dQ h j
 |[],i,o,j=>by simp[iU,dQ]
 |(k,p)::h,i,o,j=>by
  simp only[iU];by_cases e:k=i
  .simp_all [eG]
  .have d:(k==i)=false:=by simpa using e
   simp only[d,ac,eG,jm h i o j]
   grind
theorem SS {h:gQ} {i:Nat} {o p:dM} (hi:dQ h i=a6 p):dQ (iU h i o) i=a6 o:=by rw[jm];simp[hi]
theorem azl {h:gQ} {i j:Nat} {o:dM} (hi:i≠j):dQ (iU h i o) j=dQ h j:=by rw[jm];simp[hi]
def upd (mu:Nat->Loc) (id:Nat) (l:Loc):Nat->Loc:=fun j=>if j=id then l else mu j
theorem upd_same (mu:Nat->Loc) (id:Nat) (l:Loc):upd mu id l id=l:=by simp[upd]
theorem upd_ne (mu:Nat->Loc) {id j:Nat} (l:Loc) (h:j≠id):upd mu id l j=mu j:=by simp[upd,h]
def Ex.code:Ex->Option Code
 |.normal=>a7
 |.exit id=>a6 (.exit id)
 |.goto l=>a6 (.goto l)
 |.ret=>a6 .ret
def aqu:Nat->Option Ex->Loop->Prop
 |0,a7,L=>L.state=.ready/\L.pending=a7
 |1,a6 e,L=>L.state=.done/\L.pending=e.code/\e.code≠a7
 |2,a7,L=>L.state=.busy
 |_,_,_=>False
def Cx.ORel (B:Nat) (c:Cx) (id:Nat):dM->Prop
 |.box e cs=>B<=(c.mu id).blk/\ ∃d,c.w.heap[(c.mu id).blk]? =a6 (.cells d e (0,0))/\bK c cs d.toList/\ ∀u∈d.toList,u.oneCell'=true
 |.arr t ver xs=>0<t.size/\ ∃e g,c.w.ownsRow B e t.size (c.mu id).v xs.length g/\fQ (eY c.w c.free t) t.size xs g/\(t=.int .u8->e=mP)
 |.lp f fr ps asg bd ky n p=>(∀k,ky=a6 k->qK f k=a6 (asg,bd))/\B<=(c.mu id).blk/\ ∃L:Loop,c.w.heap[(c.mu id).blk]? =a6 (Obj.loop L)/\bK c fr L.tmps.toList/\L.params.toList=ps/\L.assign=asg/\L.body=bd/\aqu n p L
 |.dead=>True
 |.mp kk vk j=>B<=(c.mu id).blk/\ ∃i l,c.w.heap[(c.mu id).blk]? =a6 (.map i l)/\i.toList.map (fun e=>(e.key,e.val))=j.map fun p=>(Value.int kk p.1,Value.int vk p.2)
structure Cx.Ok (W0:World) (c:Cx):Prop where
 bel:Below W0.heap.size W0 c.w
 obj: ∀id o,dQ c.hp id=a6 o->c.ORel W0.heap.size id o
 inj: ∀i j o p b,dQ c.hp i=a6 o->dQ c.hp j=a6 p->o.blk (c.mu i)=a6 b->p.blk (c.mu j)=a6 b->i=j
 mks: ∀r,r∈c.mks->W0.heap.size<=r/\c.w.heap[r]? =a6 (.deferred (a6 []))
 bar: ∀b,c.bar b->c.out b
 phi:Yd W0
theorem Cx.Ok.phiw {W0:World} {c:Cx} (h:c.Ok W0):Yd c.w:=Yd.below h.bel h.phi
theorem Cx.ORel.lt {B:Nat} {c:Cx} {id:Nat} {o:dM} (h:c.ORel B id o) {b:Nat} (hb:o.blk (c.mu id)=a6 b):B<=b/\b<c.w.heap.size:=by
 cases o with
 |box e cs=>
  simp only[dM.blk,Option.some.injEq]at hb;subst hb;obtain⟨d,g,f,_⟩:=h
  grind
 |arr t ver xs=>
  simp only[dM.blk]at hb;obtain⟨_,e,i,d,_⟩:=h;exact World.ownsRow.lt d b hb
 |lp _ _ _ _ _ _ _ _=>
  simp only[dM.blk,Option.some.injEq]at hb;subst hb;obtain⟨_,d,L,f,_⟩:=h
  grind
 |dead=>cases hb
 |mp _ _ _=>
  simp only[dM.blk,Option.some.injEq]at hb;subst hb;obtain⟨d,j,cl,f,_⟩:=h
  grind
theorem Cx.ORel.no_mark {B:Nat} {c:Cx} {id:Nat} {o:dM} (h:c.ORel B id o) {b:Nat} (hb:o.blk (c.mu id)=a6 b) {d:Option (List Deferred)}:c.w.heap[b]? ≠a6 (.deferred d):=by
 intro hd;cases o with
 |box e cs=>
  simp only[dM.blk,Option.some.injEq]at hb;subst hb;obtain⟨f,l,j,_⟩:=h;simp_all
 |arr t ver xs=>
  simp only[dM.blk]at hb;obtain⟨_,e,p,f,_⟩:=h;rcases f.2 with ⟨i,_⟩|⟨g,q,s,i,_,u,_⟩
  .rw[i]at hb;cases hb
  .rw[i]at hb;cases hb;simp_all
 |lp _ _ _ _ _ _ _ _=>
  simp only[dM.blk,Option.some.injEq]at hb;subst hb;obtain⟨_,f,L,j,_⟩:=h;simp_all
 |dead=>cases hb
 |mp _ _ _=>
  simp only[dM.blk,Option.some.injEq]at hb;subst hb;obtain⟨f,v,cl,j,_⟩:=h;simp_all
theorem Cx.ORel.no_loop {B:Nat} {c:Cx} {id:Nat} {o:dM} (h:c.ORel B id o) (u: ∀f fr j asg l q n p,o≠ .lp f fr j asg l q n p) {b:Nat} (hb:o.blk (c.mu id)=a6 b) {L:Loop}:c.w.heap[b]? ≠a6 (Obj.loop L):=by
 intro hd;cases o with
 |box e cs=>
  simp only[dM.blk,Option.some.injEq]at hb;subst hb;obtain⟨d,v,s,_⟩:=h;simp_all
 |arr t ver xs=>
  simp only[dM.blk]at hb;obtain⟨_,e,x,d,_⟩:=h;rcases d.2 with ⟨i,_⟩|⟨g,y,z,i,_,A,_⟩
  .rw[i]at hb;cases hb
  .rw[i]at hb;cases hb;simp_all
 |lp _ _ _ _ _ _ _ _=>grind
 |dead=>cases hb
 |mp _ _ _=>
  simp only[dM.blk,Option.some.injEq]at hb;subst hb;obtain⟨d,D,cl,s,_⟩:=h;simp_all
theorem Cx.Ok.mark_lt {W0:World} {c:Cx} (h:c.Ok W0) {r:Nat} (hr:r∈c.mks):r<c.w.heap.size:=(Array.getElem?_eq_some_iff.1 (h.mks r hr).2).1
theorem Cx.Ok.mark_own {W0:World} {c:Cx} (h:c.Ok W0) {r:Nat} (hr:r∈c.mks): ¬c.own r:=by
 rintro ⟨id,o,d,e⟩;exact(h.obj id o d).no_mark e (h.mks r hr).2
theorem Cx.Ok.own_lt {W0:World} {c:Cx} (h:c.Ok W0) {b:Nat} (hb:c.own b):W0.heap.size<=b/\b<c.w.heap.size:=by
 obtain⟨id,o,d,e⟩:=hb;exact(h.obj id o d).lt e
theorem Cx.Ok.size {W0:World} {c:Cx} (h:c.Ok W0):W0.heap.size<=c.w.heap.size:=h.bel.size
theorem Cx.Ok.free_old {W0:World} {c:Cx} (h:c.Ok W0) {b:Nat} (hb:b<W0.heap.size) (d: ¬c.bar b):c.free b:=
 ⟨aZ hb h.size,fun e=>by have:=(h.own_lt e).1;omega,fun f=>by have:=(h.mks b f).1;omega,d⟩
theorem Ag {w w':World} {B:Nat} {e:TypeId} {size n:Nat} {v:Value} {xs:List Value} (h:w.ownsRow B e size v n xs) (hb: ∀b,v.ownBlock=a6 b->w'.heap[b]? =w.heap[b]?):w'.ownsRow B e size v n xs:=by
 refine⟨h.1, ?_⟩;rcases h.2 with d|⟨g,i,j,f,d,l,o⟩
 .exact .inl d
 .refine .inr ⟨g,i,j,f,d, ?_,o⟩;rw[hb g (by rw[f];rfl)];exact l
theorem Cx.ORel.le {B:Nat} {c c':Cx} {id:Nat} {o:dM} (h:c.ORel B id o) (hl:c.Le c') (d:c'.mu id=c.mu id) (hb: ∀b,o.blk (c.mu id)=a6 b->c'.w.heap[b]? =c.w.heap[b]?):c'.ORel B id o:=by
 cases o with
 |box e cs=>
  obtain⟨g,s,i,j,l⟩:=h;refine⟨by rw[d];exact g,s,by rw[d,hb _ rfl];exact i,bK.le hl _ _ j,l⟩
 |arr t ver xs=>
  obtain⟨q,e,u,g,i,j⟩:=h;refine⟨q,e,u, ?_,fQ.mono (eY.mono hl.free t) _ _ i,j⟩;rw[d];exact Ag g fun b v=>hb b v
 |lp f fr ps asg bd ky n p=>
  obtain⟨q,g,L,i,j,l⟩:=h;exact⟨q,by rw[d];exact g,L,by rw[d,hb _ rfl];exact i,bK.le hl _ _ j,l⟩
 |dead=>trivial
 |mp kk vk y=>
  obtain⟨g,x,cl,i,j⟩:=h;exact⟨by rw[d];exact g,x,cl,by rw[d,hb _ rfl];exact i,j⟩
def Cx.at_ (c:Cx) (w:World):Cx:={c with w:=w}
theorem Cx.Le.ext {c:Cx} {w:World} (h:Below c.w.heap.size c.w w):c.Le (c.at_ w):=
 ⟨fun b d=>⟨⟨aZ d.1 h.size,d.2⟩,h.block b d.1⟩,fun _ h=>h,fun id o _ f=>⟨o,f,o.like_refl _⟩,fun _ h=>h,
  fun b L e=>⟨L,(h.block b (Array.getElem?_eq_some_iff.1 e).1).trans e⟩,h.size,rfl⟩
theorem Cx.Ok.ext {W0:World} {c:Cx} {w:World} (d:c.Ok W0) (h:Below c.w.heap.size c.w w):(c.at_ w).Ok W0:=
 ⟨d.bel.trans (h.mono d.size),fun id o f=>(d.obj id o f).le (Cx.Le.ext h) rfl fun b e=>h.block b ((d.obj id o f).lt e).2,d.inj,
  fun r hr=>⟨(d.mks r hr).1,(h.block r (d.mark_lt hr)).trans (d.mks r hr).2⟩,fun b e=>((Cx.Le.ext h).out b (d.bar b e)).1,d.phi⟩
def Cx.push (c:Cx) (id:Nat) (o:dM) (l:Loc) (nxt:Nat) (w:World):Cx:=⟨upd c.mu id l,(id,o)::c.hp,nxt,w,c.mks,c.bar⟩
theorem Cx.Le.push {c:Cx} {id:Nat} {o:dM} {l:Loc} {nxt:Nat} {w:World} (x: ¬c.known id) (y:c.nxt<=nxt) (s:c.w.heap.size<=w.heap.size)
  (hb: ∀b,b<c.w.heap.size->w.heap[b]? =c.w.heap[b]?) (hl: ∀b,o.blk l=a6 b->c.w.heap.size<=b):c.Le (c.push id o l nxt w):=by
 have hk: ∀j,c.known j->j≠id:=fun j d e=>x (e▸d);refine⟨fun b f=>⟨⟨aZ f.1 s, ?_,f.2.2⟩,hb b f.1⟩,fun j d=> ?_,fun j p d q=> ?_,fun _ h=>h,fun b L u=>⟨L,(hb b (Array.getElem?_eq_some_iff.1 u).1).trans u⟩,s,rfl⟩
 .rintro ⟨j,p,i,g⟩;simp only[Cx.push,eG]at i g;split at i
  .rename_i e
   subst e;cases i;rw[upd_same]at g;have:=hl b g;have:=f.1;omega
  .rename_i e
   rw[upd_ne _ _ (Ne.symm e)]at g;exact f.2.1 ⟨j,p,i,g⟩
 .rcases d with ⟨p,q⟩|d
  .left;simp only[Cx.push,eG]
   grind
  .right;exact aZ d y
 .have v:=hk j d;simp only[Cx.push,eG,aq (Ne.symm v)]at q ⊢;exact⟨p,q,by rw[upd_ne _ _ v];exact p.like_refl _⟩
theorem Cx.Ok.push {W0:World} {c:Cx} {id:Nat} {o:dM} {l:Loc} {nxt:Nat} {w:World} (d:c.Ok W0) (y: ¬c.known id) (E:c.nxt<=nxt) (h:Below c.w.heap.size c.w w)
  (hl: ∀b,o.blk l=a6 b->c.w.heap.size<=b) (J:(c.push id o l nxt w).ORel W0.heap.size id o):(c.push id o l nxt w).Ok W0:=by
 have z:=Cx.Le.push (o:=o) y E h.size h.block hl;have hk: ∀j p,dQ c.hp j=a6 p->j≠id:=fun j p G e=>y (e▸ .inl ⟨p,G⟩);refine⟨d.bel.trans (h.mono d.size),fun j p I=> ?_,fun i j p q b A B f g=> ?_,fun r hr=>⟨(d.mks r hr).1,(h.block r (d.mark_lt hr)).trans (d.mks r hr).2⟩,fun b s=>(z.out b (d.bar b s)).1,d.phi⟩
 .by_cases e:j=id
  .simp_all [Cx.push,eG]
  .have D:dQ c.hp j=a6 p:=by simpa [Cx.push,eG,Ne.symm e] using I
   exact(d.obj j p D).le z (upd_ne _ _ e) fun b s=>h.block b ((d.obj j p D).lt s).2
 .by_cases e1:i=id<;>by_cases e2:j=id
  .rw[e1,e2]
  .subst e1;have u:p=o:=by grind [Cx.push,eG]
   have v:dQ c.hp j=a6 q:=by simpa [Cx.push,eG,Ne.symm e2] using B
   subst u;simp only[Cx.push,upd_same,upd_ne _ _ e2]at f g;have:=hl b f;have:=((d.obj j q v).lt g).2;omega
  .subst e2;have u:q=o:=by grind [Cx.push,eG]
   have x:dQ c.hp i=a6 p:=by simpa [Cx.push,eG,Ne.symm e1] using A
   subst u;simp only[Cx.push,upd_same,upd_ne _ _ e1]at f g;have:=hl b g;have:=((d.obj i p x).lt f).2;omega
  .have x:dQ c.hp i=a6 p:=by simpa [Cx.push,eG,Ne.symm e1] using A
   have v:dQ c.hp j=a6 q:=by simpa [Cx.push,eG,Ne.symm e2] using B
   simp only[Cx.push,upd_ne _ _ e1,upd_ne _ _ e2]at f g;exact d.inj i j p q b x v f g
def Cx.put (c:Cx) (id:Nat) (o:dM) (l:Loc) (w:World):Cx:=⟨upd c.mu id l,iU c.hp id o,c.nxt,w,c.mks,c.bar⟩
theorem Cx.put_get {c:Cx} {id:Nat} {o p:dM} {l:Loc} {w:World} (hp:dQ c.hp id=a6 p):dQ (c.put id o l w).hp id=a6 o:=SS hp
theorem Cx.Le.put {W0:World} {c:Cx} {id:Nat} {o o':dM} {l:Loc} {w:World} (z:c.Ok W0) (q:dQ c.hp id=a6 o) (hk:o.like (c.mu id) o' l) (u:c.w.heap.size<=w.heap.size)
  (hb: ∀b,b<c.w.heap.size->o.blk (c.mu id)≠a6 b->w.heap[b]? =c.w.heap[b]?) (hl: ∀b,o'.blk l=a6 b->o.blk (c.mu id)=a6 b\/c.w.heap.size<=b)
  (x: ∀(b:Nat) (L:Loop),o.blk (c.mu id)=a6 b->c.w.heap[b]? =a6 (Obj.loop L)-> ∃y:Loop,w.heap[b]? =a6 (Obj.loop y)):c.Le (c.put id o' l w):=by
 refine⟨fun b d=>⟨⟨aZ d.1 u, ?_,d.2.2⟩,hb b d.1 fun e=>d.2.1 ⟨id,o,q,e⟩⟩,fun j i=> ?_,fun j p i hp=> ?_,fun _ h=>h,fun b L s=> ?_,u,rfl⟩
 rotate_left 3
 .by_cases e:o.blk (c.mu id)=a6 b
  .exact x b L e s
  .exact⟨L,(hb b (Array.getElem?_eq_some_iff.1 s).1 e).trans s⟩
 .rintro ⟨j,p,f,g⟩;simp only[Cx.put,jm]at f g;split at f
  .rename_i e
   subst e;rw[q]at f;cases f;rw[upd_same]at g;rcases hl b g with v|v
   .exact d.2.1 ⟨id,o,q,v⟩
   .have:=d.1;omega
  .rename_i e
   rw[upd_ne _ _ (Ne.symm e)]at g;exact d.2.1 ⟨j,p,f,g⟩
 .rcases i with ⟨p,hp⟩|i
  .left
   grind [Cx.put,jm]
  .right;exact i
 .simp only[Cx.put,jm]at hp ⊢;split at hp
  .simp_all [upd_same]
  .rename_i e
   exact⟨p,hp,by rw[upd_ne _ _ (Ne.symm e)];exact p.like_refl _⟩
theorem Cx.Ok.put {W0:World} {c:Cx} {id:Nat} {o o':dM} {l:Loc} {w:World} (d:c.Ok W0) (u:dQ c.hp id=a6 o) (hk:o.like (c.mu id) o' l) (K:Below W0.heap.size W0 w)
  (M:c.w.heap.size<=w.heap.size) (hb: ∀b,b<c.w.heap.size->o.blk (c.mu id)≠a6 b->w.heap[b]? =c.w.heap[b]?) (hl: ∀b,o'.blk l=a6 b->o.blk (c.mu id)=a6 b\/c.w.heap.size<=b)
  (N: ∀(b:Nat) (L:Loop),o.blk (c.mu id)=a6 b->c.w.heap[b]? =a6 (Obj.loop L)-> ∃O:Loop,w.heap[b]? =a6 (Obj.loop O)) (S:(c.put id o' l w).ORel W0.heap.size id o'):(c.put id o' l w).Ok W0:=by
 have G:=Cx.Le.put (w:=w) d u hk M hb hl N;refine⟨K,fun j p hp=> ?_,fun i j p q b A B g s=> ?_,fun r hr=>⟨(d.mks r hr).1,(hb r (d.mark_lt hr) fun e=>(d.obj id o u).no_mark e (d.mks r hr).2).trans (d.mks r hr).2⟩,fun b hb=>(G.out b (d.bar b hb)).1,d.phi⟩
 .by_cases e:id=j
  .grind [Cx.put_get]
  .have D:dQ c.hp j=a6 p:=by grind [Cx.put,jm]
   refine(d.obj j p D).le G (upd_ne _ _ (Ne.symm e)) fun b I=>hb b ((d.obj j p D).lt I).2 fun f=>e (d.inj id j o p b u D f I)
 .have x: ∀i p,dQ (c.put id o' l w).hp i=a6 p->id≠i->dQ c.hp i=a6 p:=fun i p h e=>by simpa [Cx.put,jm,e] using h
  have J: ∀p,dQ (c.put id o' l w).hp id=a6 p->p=o':=fun p h=>by grind [Cx.put_get]
  by_cases e1:id=i<;>by_cases f:id=j
  .rw[<-e1,<-f]
  .subst e1;have E:=J p A;have y:=x j q B f;subst E;simp only[Cx.put,upd_same,upd_ne _ _ (Ne.symm f)]at g s;rcases hl b g with v|v
   .exact d.inj id j o q b u y v s
   .have:=((d.obj j q y).lt s).2;omega
  .subst f;have E:=J q B;have z:=x i p A e1;subst E;simp only[Cx.put,upd_same,upd_ne _ _ (Ne.symm e1)]at g s;rcases hl b s with v|v
   .exact d.inj i id p o b z u g v
   .have:=((d.obj i p z).lt g).2;omega
  .have z:=x i p A e1;have y:=x j q B f;simp only[Cx.put,upd_ne _ _ (Ne.symm e1),upd_ne _ _ (Ne.symm f)]at g s;exact d.inj i j p q b z y g s
theorem bK.length {c:Cx}: ∀(l:List bU) (xs:List Value),bK c l xs->l.length=xs.length
 |[],[],_=>rfl
 |v::l,x::xs,h=>by simp only[bK]at h;simp[bK.length l xs h.2]
 |[],_::_,h=>by simp[bK]at h
 |_::_,[],h=>by simp[bK]at h
theorem bK.get {c:Cx}: ∀(l:List bU) (xs:List Value),bK c l xs-> ∀(i:Nat) (h:i<l.length) (f:i<xs.length),bW c l[i] xs[i]
 |v::l,x::xs,h,0,_,_=>by simp_all [bK]
 |v::l,x::xs,h,i+1,d,e=>by simp only[bK]at h;exact bK.get l xs h.2 i (by simpa using d) (by simpa using e)
 |[],_,_,_,d,_=>by simp at d
 |_::_,[],h,_,_,_=>by simp[bK]at h
theorem bK.append {c:Cx}: ∀(l m:List bU) (xs d:List Value),bK c l xs->bK c m d->bK c (l++m) (xs++d)
 |[],m,[],d,_,h=>h
 |v::l,m,x::xs,d,h,k=>by simp only[bK,aH]at h ⊢;exact⟨h.1,bK.append l m xs d h.2 k⟩
 |[],_,_::_,_,h,_=>by simp[bK]at h
 |_::_,_,[],_,h,_=>by simp[bK]at h
theorem bK.take {c:Cx}: ∀(k:Nat) (l:List bU) (xs:List Value),bK c l xs->bK c (l.take k) (xs.take k)
 |0,_,_,_=>by simp[bK]
 |k+1,[],[],_=>by simp[bK]
 |k+1,v::l,x::xs,h=>by simp only[bK,List.take_succ_cons]at h ⊢;exact⟨h.1,bK.take k l xs h.2⟩
 |_+1,[],_::_,h=>by simp[bK]at h
 |_+1,_::_,[],h=>by simp[bK]at h
theorem bK.drop {c:Cx}: ∀(k:Nat) (l:List bU) (xs:List Value),bK c l xs->bK c (l.drop k) (xs.drop k)
 |0,_,_,h=>by simpa using h
 |k+1,[],[],_=>by simp[bK]
 |k+1,v::l,x::xs,h=>by simp only[bK,List.drop_succ_cons]at h ⊢;exact bK.drop k l xs h.2
 |_+1,[],_::_,h=>by simp[bK]at h
 |_+1,_::_,[],h=>by simp[bK]at h
theorem bK.set {c:Cx} {v:bU} {x:Value} (d:bW c v x): ∀(i:Nat) (l:List bU) (xs:List Value),bK c l xs->bK c (l.set i v) (xs.set i x)
 |_,[],[],_=>by simp[bK]
 |0,u::l,y::xs,h=>by simp_all [bK]
 |i+1,u::l,y::xs,h=>by simp only[bK,List.set_cons_succ]at h ⊢;exact⟨h.1,bK.set d i l xs h.2⟩
 |_,[],_::_,h=>by simp[bK]at h
 |_,_::_,[],h=>by simp[bK]at h
theorem bK.split {c:Cx}: ∀(l m:List bU) (xs:List Value),bK c (l++m) xs-> ∃d e,xs=d++e/\bK c l d/\bK c m e
 |[],m,xs,h=>⟨[],xs,rfl,by simp[bK],h⟩
 |v::l,m,x::xs,h=>by
  simp only[bK,aH]at h;obtain⟨d,e,f,g,i⟩:=bK.split l m xs h.2;exact⟨x::d,e,by rw[f];rfl,by simp only[bK];exact⟨h.1,g⟩,i⟩
 |v::l,m,[],h=>by simp[bK]at h
theorem VD.leaf {c:Cx} {t:Ty} {x:t.den} {v:Value} (h:t.isAgg=false):VD c t x v↔eY c.w c.free t x [v]:=⟨fun d=>d.2 h,fun d=>⟨(fun e=>by rw[h]at e;cases e),(fun _=>d)⟩⟩
theorem VD.agg {c:Cx} {t:Ty} {x:t.den} {v:Value} (h:t.isAgg=true):VD c t x v↔ ∃cs,v=.agg cs/\eY c.w c.free t x cs.toList:=⟨fun d=>d.1 h,fun d=>⟨(fun _=>d),(fun e=>by rw[h]at e;cases e)⟩⟩
theorem VD.cells {c:Cx} {t:Ty} {x:t.den} {v:Value} (h:VD c t x v):eY c.w c.free t x v.cells.toList:=by
 by_cases e:t.isAgg=true
 .obtain⟨cs,rfl,d⟩:=h.1 e;exact d
 .have f:t.isAgg=false:=by simpa using e
  have d:=h.2 f;have g:=eY.one _ _ _ d v (by simp);cases v<;>simp_all [Value.cells,Value.oneCell']
theorem DN {c:Cx}: ∀(t:Ty) (x:t.den) (cs:List Value),eY c.w c.free t x cs->bK c (flat t x) cs
 |.unit,_,_,h=>by cases h;simp[flat,bK]
 |.bool,x,cs,h=>by simp only[eY]at h;subst h;simp only[flat,bK,bW];exact⟨(VD.leaf rfl).2 rfl,trivial⟩
 |.int k,x,cs,h=>by simp only[eY]at h;subst h;simp only[flat,bK,bW];exact⟨(VD.leaf rfl).2 rfl,trivial⟩
 |.str,x,cs,h=>by simp only[eY]at h;subst h;simp only[flat,bK,bW];exact⟨(VD.leaf rfl).2 rfl,trivial⟩
 |.list t,x,cs,h=>by
  have e:=h;obtain⟨a,n,l,d,_⟩:=h;subst d;simp only[flat,bK,bW];exact⟨(VD.leaf rfl).2 e,trivial⟩
 |.pair a b,x,cs,⟨f,g,d,i,j⟩=>by
  subst d;exact bK.append _ _ _ _ (DN a x.1 f i) (DN b x.2 g j)
theorem lM {t' t:Ty} {x:t'.den} {y:t.den} (h:jE t x=a6 y): ∃e:t'=t,y=cast (congrArg Ty.den e) x:=by
 grind [jE]
theorem gp {t:Ty} (x:t.den):jE t x=a6 x:=by simp[jE]
theorem iq {t' t:Ty} {x:t'.den} {y:t.den} (h:jE t x=a6 y):t'=t:=(lM h).1
theorem JS {c:Cx} {t:Ty} (e:t.isAgg=false) {v:bU} {x:t.den} (h:leaf t v=a6 x) {u:Value} (d:bW c v u):eY c.w c.free t x [u]:=by
 cases v with
 |val t' y=>
  grind [leaf,lM,bW,VD.leaf]
 |nils=>
  cases t<;>simp only[leaf]at h
  case list t=>
   cases h;simp only[bW]at d;subst d;exact⟨a7,0,[],rfl,by simp,rfl,.inl rfl⟩
  all_goals cases h
 |_=>simp[leaf]at h
theorem ahC {c:Cx}: ∀(t:Ty) (l:List bU) (x:t.den) (e:List bU) (vs:List Value),mk t l=a6 (x,e)->bK c l vs->
  ∃cs g,vs=cs++g/\eY c.w c.free t x cs/\bK c e g
 |.unit,l,x,e,vs,h,d=>by
  simp only[mk,Option.some.injEq,Prod.mk.injEq]at h;obtain⟨_,rfl⟩:=h;exact⟨[],vs,rfl,rfl,d⟩
 |.pair a b,l,x,e,vs,h,d=>by
  simp only[mk]at h;split at h
  .rename_i y i p
   split at h
   .rename_i z I q
    cases h;obtain⟨j,s,J,A,B⟩:=ahC a l y i vs p d;obtain⟨o,D,K,E,G⟩:=ahC b i z e s q B;exact⟨j++o,D,by simp_all,⟨j,o,rfl,A,E⟩,G⟩
   .cases h
  .cases h
 |.bool,[],_,_,_,h,_=>by simp[mk]at h
 |.int _,[],_,_,_,h,_=>by simp[mk]at h
 |.str,[],_,_,_,h,_=>by simp[mk]at h
 |.list _,[],_,_,_,h,_=>by simp[mk]at h
 |.bool,v::l,x,e,u::vs,h,d=>by
  simp only[bK]at d;simp only[mk]at h;split at h
  .rename_i y f;cases h;exact⟨[u],vs,rfl,JS rfl f d.1,d.2⟩
  .cases h
 |.int k,v::l,x,e,u::vs,h,d=>by
  simp only[bK]at d;simp only[mk]at h;split at h
  .rename_i y f;cases h;exact⟨[u],vs,rfl,JS rfl f d.1,d.2⟩
  .cases h
 |.str,v::l,x,e,u::vs,h,d=>by
  simp only[bK]at d;simp only[mk]at h;split at h
  .rename_i y f;cases h;exact⟨[u],vs,rfl,JS rfl f d.1,d.2⟩
  .cases h
 |.list t,v::l,x,e,u::vs,h,d=>by
  simp only[bK]at d;simp only[mk]at h;split at h
  .rename_i y f;cases h;exact⟨[u],vs,rfl,JS rfl f d.1,d.2⟩
  .cases h
 |.bool,_::_,_,_,[],_,d=>by simp[bK]at d
 |.int _,_::_,_,_,[],_,d=>by simp[bK]at d
 |.str,_::_,_,_,[],_,d=>by simp[bK]at d
 |.list _,_::_,_,_,[],_,d=>by simp[bK]at d
theorem nV {c:Cx} {t:Ty} {l:List bU} {x:t.den} {vs:List Value} (h:Hm t l=a6 x) (d:bK c l vs):eY c.w c.free t x vs:=by
 grind [Hm,ahC,bK]
theorem LK {c:Cx} {v:bU} {l:List bU} (h:v.cells=a6 l) {x:Value} (d:bW c v x):bK c l x.cells.toList/\ ∀u∈x.cells.toList,u.oneCell'=true:=by
 cases v with
 |val t y=>
  simp only[bU.cells,Option.some.injEq]at h;subst h;simp only[bW]at d;exact⟨DN t y _ d.cells,eY.one _ _ _ d.cells⟩
 |agg i=>
  simp only[bU.cells,Option.some.injEq]at h;subst h;simp only[bW]at d;obtain⟨j,rfl,e,f⟩:=d;exact⟨e,f⟩
 |undef=>simp[bU.cells]at h
 |tup _=>simp[bU.cells]at h
 |_=>
  simp only[bU.cells,Option.some.injEq]at h;subst h;have g:x.oneCell'=true:=by
   simp only[bW]at d
   first
    |(subst d;rfl)
    |exact d.1
    |(obtain⟨_,_,_,rfl,_⟩:=d;rfl)
    |(obtain⟨_,rfl,_⟩:=d;rfl)
    |(obtain⟨_,_,_,_,rfl,_⟩:=d;rfl)
  have e:x.cells= #[x]:=by cases x<;>simp_all [Value.cells,Value.oneCell']
  rw[e];simp only[bK];exact⟨⟨d,trivial⟩,by simpa using g⟩
end
section
open Option renaming some → a6, none → a7
open Bool renaming not_eq_true → bg
open List renaming map_cons → au
open Go.RowKit
def kT:TypeDesc->Option TK
 |.bool=>a6 .bool
 |.int k=>a6 (.int k)
 |.string=>a6 .str
 |.slice e=>a6 (.slice e)
 |.struct d=>a6 (.struct (d.toList.map fun f=>(f.offset,f.type)))
 |.func _ _ _=>a6 .fn
 |.pointer e=>a6 (.ptr e)
 |.map k e=>a6 (.map k e)
 |.array _ _=>a7
 |_=>a6 .other
def jJ (T:TT):Nat->List (Nat×TypeId)->Option Ty
 |_,[]=>a6 .unit
 |e,(o,d)::f=>if o=e then match(T.at d).ty with
   |some a=>if a.size=(T.at d).size/\(T.at d).known=true then match jJ T (e+a.size) f with
    |some b=>a6 (.pair a b)
    |none=>a7
    else a7
   |none=>a7
  else a7
def lw (T:TT):TK->Option Ty
 |.bool=>a6 .bool
 |.int k=>a6 (.int k)
 |.str=>a6 .str
 |.slice e=>(T.at e).ty.map .list
 |.struct d=>jJ T 0 d
 |_=>a7
def aDw (P:Program) (T:TT) (t:TypeId) (i:TI):Prop:=
 i.known=true->(P.info? t).map (fun f=>(f.size,f.bytes,f.zero.map fun z=>(z.cells.toList.map vZ,z.cells.toList.all Value.oneCell')))=a6 (i.size,i.bytes,a6 (i.zero,true))/\
  (P.underlying t).map kT=a6 (a6 i.k)/\(i.ty=a7\/i.ty=lw T i.k)/\(∀y,i.ty=a6 y->y.size=i.size)/\(i.isAgg=true\/i.size=1)/\
  (i.eq=true->P.eqGuardType P.depth t=false/\P.stoodInHeld t=false/\(P.underlying t).map (fun d=>match d with|.struct fs=>fs.toList.all fun f=>f.name != "_" |_=>false)=a6 true)/\
  (P.underlying t).map (fun d=>match d with|.struct fs=>fs.toList.all fun f=>(P.info? f.type).isSome|_=>true)=a6 true/\i.zero.length=i.size/\(i.ty=a6 (.int .u8)->t=mP)/\(i.bld=true->t=Wh)/\(∀k,i.k=.int k-> ∀j,P.info? t=a6 j->j.zero=a6 (.int k 0))
def TOk (P:Program) (T:TT):Prop:= ∀t,aDw P T t (T.at t)
def TT.All (p:Nat->TI->Prop):TT->Prop
 |.nil=>True
 |.node k i l r=>p k i/\l.All p/\r.All p
theorem TT.All.at_ {p:Nat->TI->Prop} (hd: ∀t,p t default): ∀(T:TT),T.All p-> ∀t,p t (T.at t)
 |.nil,_,t=>hd t
 |.node k i l r,⟨o,d,f⟩,t=>by
  simp only[TT.at];by_cases e:Nat.beq k t=true
  .simp_all
  .have g:Nat.beq k t=false:=(bg _).mp e;simp only[g,ac];by_cases e2:Nat.blt t k=true
   .simp only[e2,aa];exact TT.All.at_ hd l d t
   .have j:Nat.blt t k=false:=(bg _).mp e2;simp only[j,ac];exact TT.All.at_ hd r f t
theorem TOk.of_all {P:Program} {T:TT} (h:T.All (aDw P T)):TOk P T:=TT.All.at_ (fun t h=>by cases h) T h
section types
variable {P:Program} {T:TT} (hT:TOk P T) {t:TypeId} (hk:(T.at t).known=true)
theorem TOk.info (hT:TOk P T) (hk:(T.at t).known=true): ∃i z,P.info? t=a6 i/\i.size=(T.at t).size/\i.bytes=(T.at t).bytes/\i.zero=a6 z/\z.cells.toList.map vZ=(T.at t).zero/\z.cells.toList.all Value.oneCell'=true:=by
 have h:=(hT t hk).1;simp_all
theorem TOk.und (hT:TOk P T) (hk:(T.at t).known=true): ∃d,P.underlying t=a6 d/\kT d=a6 (T.at t).k:=by
 have h:=(hT t hk).2.1;simp_all
theorem TOk.slice (hT:TOk P T) (hk:(T.at t).known=true) {e:TypeId} (h:(T.at t).k=.slice e):P.underlying t=a6 (.slice e):=by
 obtain⟨d,g,f⟩:=hT.und hk;rw[h]at f;cases d<;>simp[kT]at f;subst f;exact g
theorem TOk.str (hT:TOk P T) (hk:(T.at t).known=true) (h:(T.at t).k=.str):P.underlying t=a6 .string:=by
 obtain⟨d,f,e⟩:=hT.und hk;rw[h]at e;cases d<;>simp[kT]at e;exact f
theorem TOk.int (hT:TOk P T) (hk:(T.at t).known=true) {k:IntKind} (h:(T.at t).k=.int k):P.underlying t=a6 (.int k):=by
 obtain⟨d,f,e⟩:=hT.und hk;rw[h]at e;cases d<;>simp[kT]at e;subst e;exact f
theorem TOk.struct (hT:TOk P T) (hk:(T.at t).known=true) {e:List (Nat×TypeId)} (h:(T.at t).k=.struct e): ∃g,P.underlying t=a6 (.struct g)/\g.toList.map (fun f=>(f.offset,f.type))=e:=by
 obtain⟨d,j,i⟩:=hT.und hk;rw[h]at i;cases d<;>simp[kT]at i;simp_all
theorem TOk.isAgg (hT:TOk P T) (hk:(T.at t).known=true) (w:World):(Go.isAgg t).run P w=.ok (T.at t).isAgg w:=by
 obtain⟨d,f,e⟩:=hT.und hk;have:(Go.isAgg t).run P w=.ok (match d with|.struct _|.array _ _=>true|_=>false) w:=by
  simp only[Go.isAgg,Sem.run_bind,run_underlying f,Result.andThen_ok];cases d<;>rfl
 rw[this];unfold TI.isAgg;cases d<;>simp only[kT,Option.some.injEq,reduceCtorEq]at e<;>simp[<-e]
theorem TOk.sizeOf (hT:TOk P T) (hk:(T.at t).known=true) (w:World):(Go.sizeOf t).run P w=.ok (T.at t).size w:=by
 obtain⟨i,z,d,e,_⟩:=hT.info hk;simp[Go.sizeOf,typeInfo,d,e]
theorem TOk.ty_agg (hT:TOk P T) (hk:(T.at t).known=true) {y:Ty} (h:(T.at t).ty=a6 y):y.isAgg=(T.at t).isAgg:=by
 rcases(hT t hk).2.2.1 with d|d
 .simp_all
 .rw[h]at d;unfold TI.isAgg;cases hkk:(T.at t).k with
  |struct g=>
   rw[hkk]at d;simp only[lw]at d;cases g with
   |nil=>simp only[jJ,Option.some.injEq]at d;subst d;rfl
   |cons f r=>
    obtain⟨o,i⟩:=f;simp only[jJ]at d
    repeat' split at d
    all_goals first|cases d|skip
    rfl
  |bool=>rw[hkk]at d;simp only[lw,Option.some.injEq]at d;subst d;rfl
  |int k=>rw[hkk]at d;simp only[lw,Option.some.injEq]at d;subst d;rfl
  |str=>rw[hkk]at d;simp only[lw,Option.some.injEq]at d;subst d;rfl
  |slice e=>
   rw[hkk]at d;simp only[lw]at d;cases he:(T.at e).ty with
   |none=>simp_all
   |some j=>rw[he]at d;simp only[Option.map_some,Option.some.injEq]at d;subst d;rfl
  |other=>rw[hkk]at d;cases d
  |ptr e=>rw[hkk]at d;cases d
  |fn=>rw[hkk]at d;cases d
  |map a b=>rw[hkk]at d;cases d
theorem TOk.ty_size (hT:TOk P T) (hk:(T.at t).known=true) {y:Ty} (h:(T.at t).ty=a6 y):y.size=(T.at t).size:=(hT t hk).2.2.2.1 y h
theorem TOk.zlen (hT:TOk P T) (hk:(T.at t).known=true):(T.at t).zero.length=(T.at t).size:=(hT t hk).2.2.2.2.2.2.2.1
theorem TOk.byte (hT:TOk P T) (hk:(T.at t).known=true) (h:(T.at t).ty=a6 (.int .u8)):t=mP:=(hT t hk).2.2.2.2.2.2.2.2.1 h
theorem TOk.bldr (hT:TOk P T) (hk:(T.at t).known=true) (h:(T.at t).bld=true):t=Wh:=(hT t hk).2.2.2.2.2.2.2.2.2.1 h
theorem TOk.ptr (hT:TOk P T) (hk:(T.at t).known=true) {e:TypeId} (h:(T.at t).k=.ptr e):P.underlying t=a6 (.pointer e):=by
 obtain⟨d,g,f⟩:=hT.und hk;rw[h]at f;cases d<;>simp[kT]at f;subst f;exact g
theorem TOk.zero_int (hT:TOk P T) (hk:(T.at t).known=true) {k:IntKind} (h:(T.at t).k=.int k) {i:TypeInfo} (hi:P.info? t=a6 i):i.zero=a6 (.int k 0):=(hT t hk).2.2.2.2.2.2.2.2.2.2 k h i hi
theorem TOk.zero_byte (hT:TOk P T) (hk:(T.at t).known=true) (h:(T.at t).k=.int .u8) {i:TypeInfo} (hi:P.info? t=a6 i):i.zero=a6 (.int .u8 0):=hT.zero_int hk h hi
theorem TOk.map (hT:TOk P T) (hk:(T.at t).known=true) {a e:TypeId} (h:(T.at t).k=.map a e):P.underlying t=a6 (.map a e):=by
 obtain⟨d,g,f⟩:=hT.und hk;rw[h]at f;cases d<;>simp[kT]at f;simp_all
theorem TOk.one (hT:TOk P T) (hk:(T.at t).known=true):(T.at t).isAgg=true\/(T.at t).size=1:=(hT t hk).2.2.2.2.1
end types
theorem RH (c:Cx) (v:Value):bW c (vZ v) v:=by
 unfold vZ;split<;>simp only[bW]
 .exact(VD.leaf rfl).2 rfl
 .exact(VD.leaf rfl).2 rfl
 .refine(VD.leaf rfl).2 ?_;simp[eY]
theorem sV (c:Cx): ∀(l:List Value),bK c (l.map vZ) l
 |[]=>by simp[bK]
 |v::l=>by simp only[au,bK];exact⟨RH c v,sV c l⟩
theorem bK.setL {c:Cx} {z:bU}: ∀(s:Nat) (fr:List bU) (xs:List Value),bK c fr xs->(∀h:s<xs.length,bW c z xs[s])->bK c (fr.set s z) xs
 |s,[],[],_,_=>by simp[bK]
 |0,v::fr,x::xs,h,d=>by
  simp_all [bK]
 |s+1,v::fr,x::xs,h,d=>by
  simp only[bK,List.set_cons_succ]at h ⊢;exact⟨h.1,bK.setL s fr xs h.2 fun hl=>d (by simpa using hl)⟩
 |s,[],_::_,h,_=>by simp[bK]at h
 |s,_::_,[],h,_=>by simp[bK]at h
theorem bK.getD {c:Cx} {l:List bU} {xs:Array Value} (h:bK c l xs.toList) (t:Nat):bW c (l.getD t .undef) (xs.getD t undef):=by
 have hl:l.length=xs.size:=by grind [bK.length,Array.length_toList]
 by_cases ht:t<l.length
 .have d:t<xs.size:=by omega
  have e:=bK.get _ _ h t ht (by simpa using d);simp_all
 simp_all [bW]
theorem dU {c:Cx} {fr:List bU} {a:Act} (h:bK c fr a.tmps.toList) (x:Operand):bW c (gX fr x) (a.eval x):=by
 cases x with
 |tmp t=>exact h.getD t
 |const v=>
  cases v with
  |agg cs=>
   simp only[gX,Act.eval,Yx];cases e:cs.toList.all Value.oneCell'
   .simp[bW]
   .simp only[aa,bW];exact⟨cs,rfl,sV c _,fun u d=>List.all_eq_true.1 e u d⟩
  |tuple _=>simp[gX,Yx,bW]
  |_=>simp only[gX,Act.eval,Yx];exact RH c _
 |global g=>simp[gX,bW]
 |func f=>simp only[gX,Act.eval,bW];exact⟨#[],rfl,by simp[bK]⟩
end
section
open Option renaming some → a6, none → a7
open Bool renaming false_eq_true → ag, not_true → ax
open List renaming append_assoc → ai, mem_of_mem_take → bu
open Go.RowKit
theorem dG {R:Type} {b:Bool} {x:Option R} {r:R} (h:(bif b then x else a7)=a6 r):b=true/\x=a6 r:=by
 grind
theorem gG {R:Type} {b:Bool} {x:Option R} {r:R} (h:lL b x=a6 r):b=true/\x=a6 r:=dG h
abbrev GK (c:Cx) (w:World):Prop:=Below c.w.heap.size c.w w
def valOf (agg:Bool) (d:List Value):Value:=if agg then .agg d.toArray else d.headD undef
theorem kC (b o n:Nat):(⟨b,o,a7⟩:Addr).add n=⟨b,o+n,a7⟩:=by
 simp_all [Addr.add]
section
variable {P:Program} {T:TT} {W0:World} {c:Cx} {R:Type} {r:R} {t:TypeId}
theorem KT (hT:TOk P T) (hk:(T.at t).known=true) {w:World} {b o:Nat} {d:List Value} (g:gW w b o d) (hl:d.length=(T.at t).size):
  (loadVar t ⟨b,o,a7⟩).run P w=.ok (valOf (T.at t).isAgg d) w:=by
 have i:=hT.isAgg hk w;have l:=hT.sizeOf hk w;have f: ∀j v,d[j]? =a6 v->w.cell? ((⟨b,o,a7⟩:Addr).add j)=a6 v:=fun j v p=>by
  rw[kC];obtain⟨q,s⟩:=List.getElem?_eq_some_iff.1 p;rw[g j q,s]
 simp only[loadVar,Sem.run_bind,i,Result.andThen_ok];cases e:(T.at t).isAgg
 .have u:d.length=1:=by
   rcases hT.one hk with h|h
   all_goals simp_all
  match d,u with
  |[z],_=>
   have x:=f 0 z rfl;simp_all [kC,valOf]
 .simp only[if_true,Sem.run_bind,l,Result.andThen_ok,<-hl,run_loadCells_list (P:=P) w ⟨b,o,a7⟩ d f,Sem.run_pure,valOf]
theorem ru (hT:TOk P T) (hk:(T.at t).known=true) {w:World} {b o:Nat} {d:List Value} (e:gW w b o d) (hl:d.length=(T.at t).size):
  (Instr.loadAt t (.pointer (a6 ⟨b,o,a7⟩))).run P w=.ok (valOf (T.at t).isAgg d) w:=by
 grind [Instr.loadAt,Instr.sureAddr,KT]
theorem afR (hT:TOk P T) (hk:(T.at t).known=true) {y:Ty} (g:(T.at t).ty=a6 y) {x:y.den} {d:List Value} (h:eY c.w c.free y x d):VD c y x (valOf (T.at t).isAgg d):=by
 have f:=hT.ty_agg hk g;cases e:(T.at t).isAgg
 .rw[e]at f;refine(VD.leaf f).2 ?_;have i:=eY.length _ _ _ h;have j:d.length=1:=by
   rw[i];cases y<;>first|rfl|(simp[Ty.isAgg]at f)
  match d,j with
  |[z],_=>exact h
 .rw[e]at f;exact(VD.agg f).2 ⟨d.toArray,rfl,by simpa using h⟩
theorem Ky (hT:TOk P T) (hk:(T.at t).known=true) {l:List bU} {d:List Value} (h:bK c l d) (o: ∀u∈d,u.oneCell'=true):bW c (norm (T.at t) l) (valOf (T.at t).isAgg d):=by
 unfold norm valOf TI.isAgg;have e:bW c (.agg l) (.agg d.toArray):=by simp only[bW];simp_all
 cases hkk:(T.at t).k with
 |struct p=>
  simp only[if_true];split
  .rename_i y g
   split
   .rename_i x i
    rw[cond_eq_ite];split
    .exact e
    simp only[bW];have j:=nV i h;have f:=hT.ty_agg hk g;rw[TI.isAgg,hkk]at f;exact(VD.agg f).2 ⟨d.toArray,rfl,by simpa using j⟩
   .exact e
  .exact e
 |_=>
  simp only[ag,if_false];split
  .rename_i v
   match d,h with
   |[z],h=>simp only[bK]at h;exact h.1
   |[],h=>simp[bK]at h
   |_::_::_,h=>simp[bK]at h
  .simp[bW]
theorem Be {cs l:List bU} {off k:Nat} (h:Jq cs off k=a6 l):off+k<=cs.length/\l=(cs.drop off).take k:=by
 unfold Jq at h;obtain⟨d,e⟩:=dG h;simp_all
theorem gW.sub {w:World} {b o:Nat} {d:List Value} (h:gW w b o d) (off k:Nat):gW w b (o+off) ((d.drop off).take k):=by
 intro j e;have f:off+j<d.length:=by simp at e;omega
 rw[Nat.add_assoc,h (off+j) f];simp
theorem gW.of_block_cells {w:World} {b:Nat} {vs:Array Value} {e:TypeId} {f:Nat×Nat} (h:w.heap[b]? =a6 (.cells vs e f)):gW w b 0 vs.toList:=by
 intro j d;simp_all [World.cell?]
theorem GK.cells {c:Cx} {w:World} (h:GK c w) {b o:Nat} {d:List Value} (hb:b<c.w.heap.size) (e:gW c.w b o d):gW w b o d:=e.of_block (h.block b hb)
theorem avP (p:c.Ok W0) {id q:Nat} {y:Ty} {xs:List y.den} (h:dQ c.hp id=a6 (.arr y q xs)) {i:Nat} (hi:i<xs.length):
  ∃g n cp f,(c.mu id).v=.slice (a6 ⟨g,0,a7⟩) n cp/\c.own g/\eY c.w c.free y xs[i] f/\gW c.w g (i*y.size) f:=by
 obtain⟨M,e,f,s,u,N⟩:=p.obj id _ h;obtain⟨d,O,x,S,U,z,A⟩:=fQ.at_ i xs f hi u;rcases s.2 with ⟨l,B⟩|⟨g,V,D,l,B,E,W,X,Y,G⟩
 .omega
 .refine⟨g,_,_,d,l,⟨id,_,h,by simp[dM.blk,l,Value.ownBlock]⟩,x, ?_⟩;have I:=gW.of_block_cells E;intro j J;have o:f[i*y.size+j]? =a6 d[j]:=by
   rw[z,ai,List.getElem?_append_right (by omega),A,Nat.add_sub_cancel_left,List.getElem?_append_left J];simp
  have K:i*y.size+j<f.length:=(List.getElem?_eq_some_iff.1 o).1;rw[<-G]at o K;have L:i*y.size+j<D.toList.length:=by grind
  have:=I (i*y.size+j) L
  grind
theorem avK (hT:TOk P T) (A:c.Ok W0) {av:bU} {v:Value} {K:bU->Option R} (h:LY T c.hp t av K=a6 r) (d:bW c av v):
  ∃z u,K z=a6 r/\bW c z u/\ ∀w',GK c w'->(Instr.loadAt t v).run P w'=.ok u w':=by
 unfold LY at h;cases hk:(T.at t).known
 .simp_all
 rw[hk]at h;simp only[ax,ac]at h;cases av with
 |cellp y x=>
  simp only at h;split at h
  .rename_i y' O
   split at h
   .rename_i x' B
    obtain⟨e,D⟩:=lM B;subst e;subst D;simp only[bW]at d;obtain⟨b,o,S,rfl,U,f,hd⟩:=d;refine⟨_,_,h, ?_,fun w' j=>ru hT hk (j.cells U.1 f) ?_⟩
    .grind [bW,afR]
    .rw[eY.length _ _ _ hd,hT.ty_size hk O]
   .cases h
  .cases h
 |ptr id p=>
  simp only at h;split at h
  .rename_i bt cs G
   split at h
   .rename_i l hl
    obtain⟨q,rfl⟩:=Be hl;simp only[bW]at d;have V:=d.2.2 _ _ G;subst V;obtain⟨hB,vs,s,I,W⟩:=A.obj id _ G;have X:=bK.length _ _ I;have f:=(gW.of_block_cells s).sub p (T.at t).size;rw[Nat.zero_add]at f;refine⟨_,_,h,Ky hT hk (bK.take _ _ _ (bK.drop p _ _ I)) (fun u E=>W u (List.mem_of_mem_drop (bu E))),fun w' j=>ru hT hk (j.cells (Array.getElem?_eq_some_iff.1 s).1 f) ?_⟩
    grind
   .cases h
  .cases h
 |ep id ver i p=>
  simp only at h;split at h
  .rename_i y u xs J
   replace h:=dG h;obtain⟨q,h⟩:=h;replace h:=dG h;obtain⟨D,h⟩:=h;have q:u=ver:=by simpa using q
   subst q;have L:i<xs.length:=by simpa [PD] using D
   split at h
   .rename_i l hl
    obtain⟨s,rfl⟩:=Be hl;simp only[bW]at d;obtain⟨g',n',ae,Y,Z⟩:=(d.2.2 _ _ _ J).2 rfl;obtain⟨g,n,cp,S,M,ab,hd,f⟩:=avP A J L;rw[Y]at M;cases M;subst Z;have B:xs.getD i y.dflt=xs[i]:=by simp[List.getD,L]
    rw[B]at h s;have N:=DN y _ _ hd;have X:=bK.length _ _ N;have ad:=f.sub p (T.at t).size;refine⟨_,_,h,Ky hT hk (bK.take _ _ _ (bK.drop p _ _ N)) (fun u E=>eY.one _ _ _ hd u (List.mem_of_mem_drop (bu E))),fun w' j=>ru hT hk (j.cells (A.own_lt ab).2 ad) ?_⟩;simp;omega
   .cases h
  .cases h
 |_=>cases h
end
end
section
open Option renaming some → a6, none → a7
open Bool renaming and_eq_true → af, false_eq_true → ag, not_true → ax, true_and → aK
open List renaming map_cons → au, drop_eq_getElem_cons → aA, map_nil → aU, all_cons → aW
open Go.RowKit
section
variable {P:Program} {T:TT} {W0:World} {c:Cx} {R:Type} {r:R} {t:TypeId}
theorem VD.int_inv {k:IntKind} {n:Int} {v:Value} (h:VD c (.int k) n v):v=.int k n:=by
 have:=h.2 rfl;simp_all [eY]
theorem VD.bool_inv {b:Bool} {v:Value} (h:VD c .bool b v):v=.bool b:=by
 have:=h.2 rfl;simp_all [eY]
theorem VD.str_inv {s:List UInt8} {v:Value} (h:VD c .str s v):v=.string ⟨s.toArray⟩:=by
 have:=h.2 rfl;simp_all [eY]
theorem VD.int_mk {k:IntKind} {n:Int}:VD c (.int k) n (.int k n):=(VD.leaf rfl).2 rfl
theorem VD.bool_mk {b:Bool}:VD c .bool b (.bool b):=(VD.leaf rfl).2 rfl
theorem VD.str_mk {s:List UInt8}:VD c .str s (.string ⟨s.toArray⟩):=(VD.leaf rfl).2 rfl
theorem FH (hT:TOk P T) (h:T.isStr t=true):P.underlying t=a6 .string:=by
 unfold TT.isStr at h;split at h
 .rename_i e;exact hT.str h e
 .cases h
theorem lI (hT:TOk P T) {n:Nat} (h:T.rowOf t n=true): ∃e,P.underlying t=a6 (.slice e)/\(T.at e).known=true/\(T.at e).size=n/\0<n/\(T.at t).k=.slice e/\0<(T.at e).bytes:=by
 unfold TT.rowOf at h;split at h
 .rename_i e d
  simp only[af,beq_iff_eq,PD,decide_eq_true_eq]at h;exact⟨e,hT.slice h.1 d,h.2.1,h.2.2.1,h.2.2.2.1,d,h.2.2.2.2⟩
 .cases h
theorem _root_.Go.Proofs.YtlhpdcadgbjhiaaGreatDoor.TOk.isPtr (hT:TOk P T) (h:T.isPtr t=true): ∃e,P.underlying t=a6 (.pointer e):=by
 unfold TT.isPtr at h;split at h
 .rename_i e hk;exact⟨e,hT.ptr h hk⟩
 .cases h
theorem _root_.Go.Proofs.YtlhpdcadgbjhiaaGreatDoor.TOk.isBytes (hT:TOk P T) (h:T.isBytes t=true):P.underlying t=a6 (.pointer mP)/\P.cellsOf mP=1:=by
 unfold TT.isBytes at h;split at h
 .rename_i e hk
  simp only[af]at h;obtain⟨g,d,f⟩:=h;split at f
  .rename_i j
   have:=hT.byte d j;subst this;refine⟨hT.ptr g hk, ?_⟩;obtain⟨i,z,l,o,_⟩:=hT.info d;simp_all [Program.cellsOf]
  .cases f
 .cases h
theorem KG (hT:TOk P T) (hk:(T.at t).known=true) (w:World) (cs:Array Value) (off:Nat) (h:off+(T.at t).size<=cs.size):
  (part t cs off).run P w=.ok (valOf (T.at t).isAgg ((cs.toList.drop off).take (T.at t).size)) w:=by
 have d:=hT.isAgg hk w;have f:=hT.sizeOf hk w;simp only[part,Sem.run_bind,d,Result.andThen_ok];cases e:(T.at t).isAgg
 .have g:(T.at t).size=1:=by
   rcases hT.one hk with h|h
   all_goals simp_all
  have i:off<cs.size:=by omega
  simp_all [aA,valOf]
 .simp only[if_true,Sem.run_bind,f,Result.andThen_ok,Sem.run_pure,valOf];congr 2
  grind
theorem Bj (hT:TOk P T): ∀(n:Nat) (t:TypeId),T.eqOk n t=true-> ∀(y:Ty),(T.at t).ty=a6 y-> ∀(x j:y.den) (l o:List Value),eY c.w c.free y x l->eY c.w c.free y j o->
  ∀(w:World) (d:Nat),n<=d->(Op.equalIn d t (valOf (T.at t).isAgg l) (valOf (T.at t).isAgg o)).run P w=.ok (y.same x j) w
 |0,_,h,_,_,_,_,_,_,_,_,_,_,_=>by simp[TT.eqOk]at h
 |n+1,t,h,y,A,x,j,l,o,X,Y,w,d,hd=>by
  obtain⟨d,rfl⟩: ∃e,d=e+1:=⟨d-1,by omega⟩;simp only[TT.eqOk,af]at h;obtain⟨hk,h⟩:=h;have i:(T.at t).ty=lw T (T.at t).k:=by
   rcases(hT t hk).2.2.1 with g|g
   all_goals simp_all
  cases hkk:(T.at t).k with
  |bool=>
   rw[A,hkk]at i;simp only[lw,Option.some.injEq]at i;subst i;obtain⟨Z,p,s⟩:=hT.und hk;rw[hkk]at s;cases Z<;>simp[kT]at s;simp_all [eY,TI.isAgg,valOf,run_equalIn_bool,Ty.same]
  |int k=>
   rw[A,hkk]at i;simp only[lw,Option.some.injEq]at i;subst i;have p:=hT.int hk hkk;simp_all [eY,TI.isAgg,valOf,run_equalIn_int,Ty.same]
  |str=>
   rw[A,hkk]at i;simp only[lw,Option.some.injEq]at i;subst i;have p:=hT.str hk hkk;simp_all [eY,TI.isAgg,valOf,run_equalIn_string,Ty.same]
  |struct fs=>
   rw[hkk]at h;simp only[af]at h;obtain⟨L,M⟩:=h;have N:(T.at t).isAgg=true:=by simp[TI.isAgg,hkk]
   rw[A,hkk]at i;simp only[lw]at i;obtain⟨I,p,s⟩:=hT.struct hk hkk;obtain⟨_,O,J⟩:=(hT t hk).2.2.2.2.2.1 L;rw[p]at J;simp only[Option.map_some,Option.some.injEq]at J;have K:P.fieldsOf t=I:=by simp[Program.fieldsOf,p]
   simp only[valOf,N,if_true];rw[run_equalIn_struct w d t _ _ (by rw[K];exact p) O,K];clear K O p A;rw[<-s]at i M;generalize I.toList=q at*;clear s I hkk L N hk;have ab: ∀(q:List Field) (u:Nat) (y:Ty) (x j:y.den) (l o v z:List Value),jJ T u (q.map fun f=>(f.offset,f.type))=a6 y->(q.map fun f=>(f.offset,f.type)).all (fun f=>T.eqOk n f.2)=true->
     (q.all fun f=>f.name != "_")=true->eY c.w c.free y x l->eY c.w c.free y j o->v.length=u->z.length=u->
     (Op.eqFields d (v++l).toArray (z++o).toArray q).run P w=.ok (y.same x j) w:=by
    intro q
    induction q with
    |nil=>
     intro u y x j l o v z g _ _ B D _ _;simp only[aU,jJ,Option.some.injEq]at g;subst g;rfl
    |cons f q ih=>
     intro u y x j l o v z g B D h4 h5 h6 h7;simp only[au,jJ]at g;split at g
     .rename_i ad
      split at g
      .rename_i a ha
       split at g
       .rename_i S
        split at g
        .rename_i b hb
         cases g;simp only[au,aW,af]at B D;obtain⟨E,U,p,s,e3⟩:=h4;obtain⟨G,V,e4,W,e6⟩:=h5;subst p;subst e4;have ae:=eY.length _ _ _ s;have ah:=eY.length _ _ _ W;have n1:(f.name≠ "_"):=by simpa using D.1
         have p1:(part f.type (v++(E++U)).toArray f.offset).run P w=.ok (valOf (T.at f.type).isAgg E) w:=by
          rw[KG hT S.2 w _ _ (by simp;omega)];simp_all
         have p2:(part f.type (z++(G++V)).toArray f.offset).run P w=.ok (valOf (T.at f.type).isAgg G) w:=by
          rw[KG hT S.2 w _ _ (by simp;omega)];simp_all
         have p3:=Bj hT n f.type B.1 a ha x.1 j.1 E G s W w d (by omega);simp only[Op.eqFields,am n1,Sem.run_bind,p1,p2,p3,Result.andThen_ok,Ty.same];cases a.same x.1 j.1
         .simp
         .simp only[ax,ag,if_false,aK];have:=ih (u+a.size) b x.2 j.2 U V (v++E) (z++G) hb B.2 D.2 e3 e6 (by simp;omega) (by simp;omega);simpa using this
        .cases g
       .cases g
      .cases g
     .cases g
   have:=ab q 0 y x j l o [] [] i.symm M J X Y rfl rfl;simpa using this
  |_=>simp_all
theorem acB (w:World) (d:BinOp) (a b:List UInt8) (h:d=.eql\/d=.neq\/d=.lss\/d=.leq\/d=.gtr\/d=.geq):
  ∃u,bW c (Yl d a b) u/\ ∀w,(Op.stringOp d ⟨a.toArray⟩ ⟨b.toArray⟩).run P w=.ok u w:=by
 rcases h with rfl|rfl|rfl|rfl|rfl|rfl<;>
  exact⟨_,by simp only[Yl,bW];exact VD.bool_mk,fun w=>by simp[Op.stringOp,fP,Dw]⟩
theorem lY (d:BinOp) (t:TypeId) (ox oy:Operand) (x y:Value) (w:World) (h:x.oneCell'=true) (h2:x≠ .nilIface):(eqGuard d t ox oy x y).run P w=.ok () w:=by
 unfold eqGuard;cases x<;>first
  |(simp[Value.oneCell']at h;done)
  |exact absurd rfl h2
  |(cases d<;>simp)
theorem Fg {y:Ty} {v:bU} {x:y.den} (h:v.as [] y=a6 x) (d:y.isAgg=true) {u:Value} (f:bW c v u): ∃cs,u=.agg cs/\eY c.w c.free y x cs.toList:=by
 cases v with
 |val t' z=>
  grind [bU.as,lM,bW,VD.agg]
 |nils=>cases y<;>simp_all [bU.as,Ty.isAgg]
 |emp=>cases y<;>simp_all [bU.as,Ty.isAgg]
 |lst t' z b=>
  simp only[bU.as]at h;obtain⟨e,_⟩:=lM h;subst e;cases d
 |slc id ver j=>cases y<;>simp_all [bU.as,Ty.isAgg]
 |agg l=>
  simp only[bU.as,d,aa]at h;simp only[bW]at f;obtain⟨g,rfl,i,_⟩:=f;exact⟨g,rfl,nV h i⟩
 |_=>simp[bU.as]at h
theorem aKg (hT:TOk P T) {f:BinOp} {ox oy:Operand} {x y:bU} {D E:Value} {K:bU->Option R} (h:adk T f t x y K=a6 r) (hx:bW c x D) (i:bW c y E):
  ∃z u,K z=a6 r/\bW c z u/\ ∀w,(do eqGuard f t ox oy D E;binOp f t D E:Sem Value).run P w=.ok u w:=by
 unfold adk at h;split at h
 .
  rename_i k a U b
  simp only[bW]at hx i;obtain rfl:=hx.int_inv;obtain rfl:=i.int_inv;split at h
  .rename_i hk
   subst hk;have l: ∀w,(eqGuard f t ox oy (.int k a) (.int k b)).run P w=.ok () w:=fun w=>lY f t ox oy _ _ w rfl (by simp);cases f<;>simp only[reduceCtorEq]at h
   case quo=>
    replace h:=gG h;obtain⟨g,h⟩:=h;have g:b≠0:=by simpa [bV] using g
    exact⟨_,_,h,by simp only[bW];exact VD.int_mk,fun w=>by simp_all [binOp,Op.intDiv,aIC]⟩
   case rem=>
    replace h:=gG h;obtain⟨g,h⟩:=h;have g:b≠0:=by simpa [bV] using g
    exact⟨_,_,h,by simp only[bW];exact VD.int_mk,fun w=>by simp_all [binOp,Op.intDiv]⟩
   case add=>exact⟨_,_,h,by simp only[yC,bW];exact VD.int_mk,fun w=>by simp_all [binOp,Op.intArith,dw]⟩
   case sub=>exact⟨_,_,h,by simp only[yC,bW];exact VD.int_mk,fun w=>by simp_all [binOp,Op.intArith,eU]⟩
   case mul=>exact⟨_,_,h,by simp only[yC,bW];exact VD.int_mk,fun w=>by simp_all [binOp,Op.intArith,aoP]⟩
   case eql=>exact⟨_,_,h,by simp only[yC,bW];exact VD.bool_mk,fun w=>by simp_all [binOp,Op.intCmp,bV]⟩
   case neq=>exact⟨_,_,h,by simp only[yC,bW];exact VD.bool_mk,fun w=>by simp_all [binOp,Op.intCmp,bV,bne]⟩
   case lss=>exact⟨_,_,h,by simp only[yC,bW];exact VD.bool_mk,fun w=>by simp_all [binOp,Op.intCmp,gY]⟩
   case leq=>exact⟨_,_,h,by simp only[yC,bW];exact VD.bool_mk,fun w=>by simp_all [binOp,Op.intCmp,leI]⟩
   case gtr=>exact⟨_,_,h,by simp only[yC,bW];exact VD.bool_mk,fun w=>by simp_all [binOp,Op.intCmp,gY]⟩
   case geq=>exact⟨_,_,h,by simp only[yC,bW];exact VD.bool_mk,fun w=>by simp_all [binOp,Op.intCmp,leI]⟩
   case and=>exact⟨_,_,h,by simp only[bW];exact VD.int_mk,fun w=>by simp_all [binOp,Op.intBits,aqI]⟩
   case or=>exact⟨_,_,h,by simp only[bW];exact VD.int_mk,fun w=>by simp_all [binOp,Op.intBits,aqI]⟩
   case xor=>exact⟨_,_,h,by simp only[bW];exact VD.int_mk,fun w=>by simp_all [binOp,Op.intBits,aqI]⟩
   case andNot=>exact⟨_,_,h,by simp only[bW];exact VD.int_mk,fun w=>by simp_all [binOp,Op.intBits,aqI]⟩
   case shl=>
    obtain⟨g,h⟩:=gG h;have g: ¬b<0:=by simpa [leI] using g
    exact⟨_,_,h,by simp only[bW];exact VD.int_mk,fun w=>by simp[Sem.run_bind,l,binOp,Op.shift,g,aBs]⟩
   case shr=>
    obtain⟨g,h⟩:=gG h;have g: ¬b<0:=by simpa [leI] using g
    exact⟨_,_,h,by simp only[bW];exact VD.int_mk,fun w=>by simp[Sem.run_bind,l,binOp,Op.shift,g,UI]⟩
  .have l: ∀w,(eqGuard f t ox oy (.int k a) (.int U b)).run P w=.ok () w:=fun w=>lY f t ox oy _ _ w rfl (by simp);split at h
   .obtain⟨g,h⟩:=gG h;have g: ¬b<0:=by simpa [leI] using g
    exact⟨_,_,h,by simp only[bW];exact VD.int_mk,fun w=>by simp[Sem.run_bind,l,binOp,Op.shift,g,aBs]⟩
   .obtain⟨g,h⟩:=gG h;have g: ¬b<0:=by simpa [leI] using g
    exact⟨_,_,h,by simp only[bW];exact VD.int_mk,fun w=>by simp[Sem.run_bind,l,binOp,Op.shift,g,UI]⟩
   .cases h
 .
  rename_i a b
  simp only[bW]at hx i;obtain rfl:=hx.bool_inv;obtain rfl:=i.bool_inv;replace h:=dG h;obtain⟨hk,h⟩:=h;have l: ∀w,(eqGuard f t ox oy (.bool a) (.bool b)).run P w=.ok () w:=fun w=>lY f t ox oy _ _ w rfl (by simp);have v:(T.at t).k=.bool->P.underlying t=a6 .bool:=fun e=>by
   obtain⟨d,o,p⟩:=hT.und hk;rw[e]at p;cases d<;>simp[kT]at p;exact o
  split at h
  .rename_i e
   have o:=v e;exact⟨_,_,h,by simp only[bW];exact VD.bool_mk,fun w=>by simp_all [binOp,Op.equal,Op.maxDepth,run_equalIn_bool]⟩
  .rename_i e
   have o:=v e;exact⟨_,_,h,by simp only[bW];exact VD.bool_mk,fun w=>by simp_all [binOp,Op.equal,Op.maxDepth,run_equalIn_bool]⟩
  .cases h
 .
  rename_i a b
  simp only[bW]at hx i;obtain rfl:=hx.str_inv;obtain rfl:=i.str_inv;have l: ∀w,(eqGuard f t ox oy (.string ⟨a.toArray⟩) (.string ⟨b.toArray⟩)).run P w=.ok () w:=fun w=>lY f t ox oy _ _ w rfl (by simp);have A:binOp f t (.string ⟨a.toArray⟩) (.string ⟨b.toArray⟩)=Op.stringOp f ⟨a.toArray⟩ ⟨b.toArray⟩:=by cases f<;>rfl
  have Y:(f=.eql\/f=.neq\/f=.lss\/f=.leq\/f=.gtr\/f=.geq)->K (Yl f a b)=a6 r->
    ∃z u,K z=a6 r/\bW c z u/\ ∀w,(do eqGuard f t ox oy (.string ⟨a.toArray⟩) (.string ⟨b.toArray⟩);binOp f t (.string ⟨a.toArray⟩) (.string ⟨b.toArray⟩):Sem Value).run P w=.ok u w:=fun V Z=>by
   obtain⟨u,g,N⟩:=acB (P:=P) (c:=c) default f a b V
   grind [Sem.run_bind,Result.andThen_ok]
  cases f<;>simp only[reduceCtorEq]at h
  case add=>
   replace h:=gG h;obtain⟨g,h⟩:=h;refine⟨_,_,h,by simp only[bW];exact VD.str_mk,fun w=> ?_⟩;have g:a.length+b.length<=kZ:=by simpa using g
   have N: ¬((a.length:Int)+(b.length:Int)>IntKind.i64.max):=by
    grind [IntKind.max,IntKind.bits,kZ]
   have o:(⟨a.toArray⟩:ByteArray)++⟨b.toArray⟩=⟨(a++b).toArray⟩:=by
    rfl
   simp_all [ByteArray.size,Op.stringOp]
  all_goals simp_all
 .
  rename_i e xs b
  simp only[bW]at hx i;obtain⟨ab,s,n,m,rfl,rfl⟩:=hx;subst i;replace h:=dG h;obtain⟨hk,h⟩:=h;have l: ∀w,(eqGuard f t ox oy (.slice s n m) (.slice a7 0 0)).run P w=.ok () w:=fun w=>lY f t ox oy _ _ w rfl (by simp);have v: ∀j,(T.at t).k=.slice j->P.underlying t=a6 (.slice j):=fun j e=>by
   obtain⟨d,o,p⟩:=hT.und hk;rw[e]at p;cases d<;>simp[kT]at p;rw[o,p]
  have q: ∀j,(T.at t).k=.slice j-> ∀w,(Op.equal t (.slice s n m) (.slice a7 0 0)).run P w=.ok s.isNone w:=fun j e w=>by
   have o:=v j e;show(Op.equalIn (9999+1) t (.slice s n m) (.slice a7 0 0)).run P w=_;unfold Op.equalIn;rw[Sem.run_bind,run_underlying o,Result.andThen_ok];cases s<;>rfl
  split at h
  .rename_i j e
   exact⟨_,_,h,by simp only[bW];exact VD.bool_mk,fun w=>by simp_all [binOp]⟩
  .rename_i j e
   exact⟨_,_,h,by simp only[bW];exact VD.bool_mk,fun w=>by simp_all [binOp]⟩
  .cases h
 .
  rename_i h0 g N O
  cases q:T.eqOk 6 t
  .simp_all
  rw[q]at h;simp only[ax,ac]at h;split at h
  .rename_i fs G S I
   have W:(T.at t).isAgg=true:=by simp[TI.isAgg,S]
   have hk:(T.at t).known=true:=by simp_all [TT.eqOk]
   have B:G.isAgg=true:=by rw[hT.ty_agg hk I,W]
   have ad:P.eqGuardType P.depth t=false:=by
    simp only[TT.eqOk,af,S]at q;exact((hT t hk).2.2.2.2.2.1 q.2.1).1
   split at h
   .rename_i a b J A
    obtain⟨cs,rfl,L⟩:=Fg J B hx;obtain⟨X,rfl,M⟩:=Fg A B i;refine⟨_,_,h,by simp only[bW];exact VD.bool_mk,fun w=> ?_⟩;have O:=Bj (P:=P) hT 6 t q G I a b _ _ L M w 10000 (by omega);simp_all [valOf,run_eqGuard_agg,run_eql_struct]
   .rename_i a b J A
    obtain⟨cs,rfl,L⟩:=Fg J B hx;obtain⟨X,rfl,M⟩:=Fg A B i;refine⟨_,_,h,by simp only[bW];exact VD.bool_mk,fun w=> ?_⟩;have O:=Bj (P:=P) hT 6 t q G I a b _ _ L M w 10000 (by omega);simp_all [valOf,run_eqGuard_agg,run_neq_struct]
   .cases h
  .cases h
theorem avJ {W0:World} (hT:TOk P T) (G:c.Ok W0) {i:BinOp} {ox oy:Operand} {x y:bU} {o q:Value} {K:bU->Option R} (h:RX T c.hp i t x y K=a6 r) (hx:bW c x o) (l:bW c y q):
  ∃z u,K z=a6 r/\bW c z u/\ ∀w,(do eqGuard i t ox oy o q;binOp i t o q:Sem Value).run P w=.ok u w:=by
 unfold RX at h;rw[cond_eq_ite]at h;split at h
 .rename_i f
  unfold awC at f;split at f
  .split at f
   .split at f
    .rename_i id W I J L e v X D
     simp only[af,beq_iff_eq,PD,decide_eq_true_eq]at f;obtain⟨rfl,Y⟩:=f;simp only[bW]at hx l;subst l;have M:=(hx.2.2 _ _ _ D).2 rfl;obtain⟨_,Z,zs,N,_,_⟩:=G.obj id _ D;obtain⟨s,n,m,rfl⟩: ∃a n m,o=.slice (a6 a) n m:=by
      rcases N.2 with ⟨_,h0⟩|⟨g,ab,ad,E,_⟩
      .omega
      .cases I with
       |none=>simp_all [ja]
       |some O=>
        obtain⟨lo,hi⟩:=O;simp only[ja]at M
        grind
     obtain⟨hk,h⟩:=dG h;have S: ∀w,(eqGuard i t ox oy (.slice (a6 s) n m) (.slice a7 0 0)).run P w=.ok () w:=fun w=>lY i t ox oy _ _ w rfl (by simp);have U: ∀j,(T.at t).k=.slice j-> ∀w,(Op.equal t (.slice (a6 s) n m) (.slice a7 0 0)).run P w=.ok false w:=fun j e w=>by
      have p:P.underlying t=a6 (.slice j):=by
       obtain⟨d,p,A⟩:=hT.und hk;rw[e]at A;cases d<;>simp[kT]at A;rw[p,A]
      show(Op.equalIn (9999+1) t (.slice (a6 s) n m) (.slice a7 0 0)).run P w=_;unfold Op.equalIn;rw[Sem.run_bind,run_underlying p,Result.andThen_ok];rfl
     split at h
     .exact⟨_,_,h,by simp only[bW];exact VD.bool_mk,fun w=>by simp_all [binOp]⟩
     .exact⟨_,_,h,by simp only[bW];exact VD.bool_mk,fun w=>by simp_all [binOp]⟩
     .cases h
    .cases f
   .cases f
  .cases f
 .rw[cond_eq_ite]at h;split at h
  .rename_i f
   unfold avH at f;split at f
   .split at f
    .split at f
     .rename_i id B y0 J L bt cs V
      simp only[bW]at hx l;subst l;have E:=hx.2.2 _ _ V;subst E;obtain⟨hk,h⟩:=dG h;have S: ∀w,(eqGuard i t ox oy (.pointer (a6 ⟨(c.mu id).blk,B,a7⟩)) (.pointer a7)).run P w=.ok () w:=fun w=>lY i t ox oy _ _ w rfl (by simp);have U: ∀j,(T.at t).k=.ptr j-> ∀w,(Op.equal t (.pointer (a6 ⟨(c.mu id).blk,B,a7⟩)) (.pointer a7)).run P w=.ok false w:=fun j e w=>by
       have p:=hT.ptr hk e;show(Op.equalIn (9999+1) t (.pointer (a6 ⟨(c.mu id).blk,B,a7⟩)) (.pointer a7)).run P w=_;unfold Op.equalIn;simp_all [run_underlying]
      split at h
      .exact⟨_,_,h,by simp only[bW];exact VD.bool_mk,fun w=>by simp_all [binOp]⟩
      .exact⟨_,_,h,by simp only[bW];exact VD.bool_mk,fun w=>by simp_all [binOp]⟩
      .cases h
     .cases f
    .cases f
   .cases f
  .exact aKg hT h hx l
theorem aKh {d:UnOp} {x:bU} {v:Value} {K:bU->Option R} (h:asV d x K=a6 r) (hx:bW c x v):
  ∃z u,K z=a6 r/\bW c z u/\ ∀w,(Op.unary d v).run P w=.ok u w:=by
 unfold asV at h;split at h
 .simp only[bW]at hx;obtain rfl:=hx.bool_inv;exact⟨_,_,h,by simp only[bW];exact VD.bool_mk,fun w=>rfl⟩
 .simp only[bW]at hx;obtain rfl:=hx.int_inv;exact⟨_,_,h,by simp only[bW];exact VD.int_mk,fun w=>by rfl⟩
 .cases h
end
end
section
open Option renaming some → a6, none → a7
open Bool renaming and_eq_true → af, false_eq_true → ag
open Nat renaming le_refl → ae
open Go.RowKit
section
variable {P:Program} {T:TT} {W0:World} {c:Cx} {R:Type} {r:R} {t:TypeId}
theorem qU {v:bU} {n:Int} (h:intOf v=a6 n) {u:Value} (d:bW c v u): ∃k,u=.int k n:=by
 cases v with
 |val t x=>
  cases t<;>simp only[intOf,reduceCtorEq]at h;cases h;simp only[bW]at d;exact⟨_,d.int_inv⟩
 |_=>simp[intOf]at h
def lD (c:Cx):Option bU->Option Value->Prop
 |none,a7=>True
 |some v,a6 u=>bW c v u
 |_,_=>False
theorem lD.map {fr:List bU} {a:Act} (h:bK c fr a.tmps.toList) (x:Option Operand):lD c (x.map (gX fr)) (x.map a.eval):=by
 cases x with
 |none=>trivial
 |some x=>exact dU h x
theorem lD.none_inv {u:Option Value} (h:lD c a7 u):u=a7:=by
 cases u with
 |none=>rfl
 |some _=>exact h.elim
theorem nP {d l:Int} {x:Option bU} {u:Option Value} (h:bound d x=a6 l) (hr:lD c x u):(u=a7/\l=d)\/ ∃k,u=a6 (.int k l):=by
 cases x with
 |none=>
  cases u with
  |none=>simp only[bound,Option.some.injEq]at h;simp_all
  |some _=>exact hr.elim
 |some x=>
  cases u with
  |none=>exact hr.elim
  |some u=>
   obtain⟨k,rfl⟩:=qU h hr;simp
theorem o8 {w:World} {isS:Bool} {n cap:Nat} {l h:Int} {lo hi:Option Value} (hl:(lo=a7/\l=0)\/ ∃k,lo=a6 (.int k l)) (d:(hi=a7/\h=(n:Int))\/ ∃k,hi=a6 (.int k h))
  (g:0<=l) (i:l<=h) (h2:h<=(n:Int)) (j:n<=cap):(Instr.sliceBounds isS n cap lo hi a7).run P w=.ok (l.toNat,h.toNat,cap) w:=by
 have e: ∀k code,(Instr.sliceBound (.int k h) cap code).run P w=.ok h.toNat w:=fun k code=>by
  simp only[Instr.sliceBound,asIntOf,Sem.run_bind,Sem.run_pure,Result.andThen_ok];rw[am ⟨by omega,by omega⟩];rfl
 have f: ∀k code,(Instr.sliceBound (.int k l) h.toNat code).run P w=.ok l.toNat w:=fun k code=>by
  simp only[Instr.sliceBound,asIntOf,Sem.run_bind,Sem.run_pure,Result.andThen_ok];rw[am ⟨by omega,by omega⟩];rfl
 rcases hl with ⟨rfl,rfl⟩|⟨k,rfl⟩<;>rcases d with ⟨rfl,rfl⟩|⟨o,rfl⟩<;>simp[Instr.sliceBounds,Sem.run_bind,e,f]
 simp_all
theorem Nz {w:World} {n cap:Nat} {lo:Option Value} {q k:IntKind} (hl:(lo=a7/\(0:Int)=0)\/ ∃k,lo=a6 (.int k 0)):
  (Instr.sliceBounds true n cap lo (a6 (.int q 0)) (a6 (.int k 0))).run P w=.ok (0,0,0) w:=by
 have d: ∀k c code,(Instr.sliceBound (.int k 0) c code).run P w=.ok 0 w:=fun k c code=>by
  rfl
 rcases hl with ⟨rfl,_⟩|⟨e,rfl⟩<;>simp[Instr.sliceBounds,Sem.run_bind,d]
theorem IP {n lo hi:Int} (h:fH n lo hi=true):0<=lo/\lo<=hi/\hi<=n:=by
 simp_all [fH]
theorem I8 {d:Type} (l:List d) {lo hi:Int} (e:0<=lo) (h2:lo<=hi) (f:hi<=(l.length:Int)):(sub l lo hi).length=hi.toNat-lo.toNat:=by
 grind [sub]
theorem nG {e:Ty} {xs:List e.den} {v:Value} (h:VD c (.list e) xs v): ∃a n d,v=.slice a xs.length n/\xs.length<=n/\fQ (eY c.w c.free e) e.size xs d/\(d=[]\/ ∃b off,a=a6 ⟨b,off,a7⟩/\c.free b/\gW c.w b off d):=by
 obtain⟨a,n,d,f,g,i,j⟩:=h.2 rfl
 grind
theorem VD.sub_list {e:Ty} {xs:List e.den} {a:Option Addr} {n:Nat} {d:List Value} (h2:xs.length<=n) (g:fQ (eY c.w c.free e) e.size xs d) (f:d=[]\/ ∃b off,a=a6 ⟨b,off,a7⟩/\c.free b/\gW c.w b off d)
  {l h:Int} (i:0<=l) (j:l<=h) (o:h<=(xs.length:Int)):
  VD c (.list e) (sub xs l h) (.slice (if n=l.toNat then a else a.map (·.add (l.toNat*e.size))) (h.toNat-l.toNat) (n-l.toNat)):=by
 refine(VD.leaf rfl).2 ⟨_,_,(d.take (h.toNat*e.size)).drop (l.toNat*e.size),by rw[I8 xs i j o],by grind [I8],fQ.drop _ _ _ (fQ.take _ _ _ g), ?_⟩;by_cases hn:n=l.toNat
 .grind
 .rw[aq hn];rcases f with f|⟨b,off,p,q,s⟩
  .left;rw[f];simp
  .right;refine⟨b,off+l.toNat*e.size,by rw[p];simp[kC],q, ?_⟩;have:=s.sub (l.toNat*e.size) (h.toNat*e.size-l.toNat*e.size)
   grind [List.drop_take]
theorem alx (hT:TOk P T) (ab:c.Ok W0) {x:bU} {v:Value} {lo hi X:Option bU} {Y N y:Option Value} {K:bU->Option R} (h:JF T c.hp t x lo hi X K=a6 r) (hx:bW c x v)
  (I:lD c lo Y) (E:lD c hi N) (G:lD c X y): ∃z u,K z=a6 r/\bW c z u/\ ∀w,(Instr.sliceAt t v Y N y).run P w=.ok u w:=by
 unfold JF at h;split at h
 .rename_i s
  split at h
  .rename_i l p hl f
   replace h:=gG h;obtain⟨d,h⟩:=h;simp only[af]at d;obtain⟨A,B,i⟩:=IP d.2;simp only[bW]at hx;obtain rfl:=hx.str_inv;have D:y=a7:=lD.none_inv G;subst D;have j:=FH hT d.1;refine⟨_,.string ⟨(sub s l p).toArray⟩,h,by simp only[bW];exact VD.str_mk,fun w=> ?_⟩;have hs:(⟨s.toArray⟩:ByteArray).size=s.length:=by rfl
   have o:=o8 (P:=P) (w:=w) (isS:=false) (cap:=s.length) (nP hl I) (nP f E) A B i (ae _);have he:(⟨s.toArray⟩:ByteArray).extract l.toNat p.toNat=⟨(sub s l p).toArray⟩:=by
    apply ByteArray.ext;simp_all [sub,List.drop_take]
   simp only[Instr.sliceAt,Instr.slice,Sem.run_bind,run_underlying j,Result.andThen_ok,Option.isSome_none,ag,if_false,hs,o,Sem.run_pure,he]
  .cases h
 .rename_i e xs
  split at h
  .rename_i l p hl f
   replace h:=gG h;obtain⟨d,h⟩:=h;simp only[af]at d;obtain⟨A,B,i⟩:=IP d.2;simp only[bM]at i;simp only[bW]at hx;obtain⟨a,n,Z,rfl,O,h3,h4⟩:=nG hx;have D:y=a7:=lD.none_inv G;subst D;obtain⟨S,j,hk,L,_,_⟩:=lI hT d.1;refine⟨_,_,h,by simp only[bW];exact VD.sub_list O h3 h4 A B i,fun w=> ?_⟩;have o:=o8 (P:=P) (w:=w) (isS:=true) (n:=xs.length) (cap:=n) (nP hl I) (nP f E) A B i O;simp only[Instr.sliceAt,Instr.slice,Sem.run_bind,run_underlying j,Result.andThen_ok,o,hT.sizeOf hk w,Sem.run_pure,L]
  .cases h
 .rename_i e xs mv
  split at h
  .rename_i l p k hl f ad
   replace h:=gG h;obtain⟨d,h⟩:=h;simp only[af,beq_iff_eq]at d;obtain⟨d,rfl,rfl,rfl⟩:=d;simp only[bW]at hx;obtain⟨a,n,Z,rfl,O,h3,h4⟩:=nG hx;obtain⟨S,j,hk,L,_,_⟩:=lI hT d;obtain⟨M,rfl,ah⟩:=Option.bind_eq_some_iff.1 f;cases hmx':y with
   |none=>simp_all [lD]
   |some m2=>
    rw[hmx']at G;cases hhi':N with
    |none=>simp_all [lD]
    |some ai=>
     rw[hhi']at E;obtain⟨q,rfl⟩:=qU ah (show bW c M ai from E);obtain⟨k',rfl⟩:=qU ad (show bW c mv m2 from G);refine⟨_,.slice a 0 0,h,by simp only[bW];exact⟨a,rfl⟩,fun w=> ?_⟩;have o:=Nz (P:=P) (w:=w) (n:=xs.length) (cap:=n) (q:=q) (k:=k') (nP hl I);simp only[Instr.sliceAt,Instr.slice,Sem.run_bind,run_underlying j,Result.andThen_ok,o,hT.sizeOf hk w,Sem.run_pure];simp
  .cases h
 .split at h
  .rename_i l p hl f
   replace h:=gG h;obtain⟨d,h⟩:=h;simp only[af,bV,beq_iff_eq]at d;obtain⟨d,rfl,rfl⟩:=d;simp only[bW]at hx;subst hx;have D:y=a7:=lD.none_inv G;subst D;obtain⟨S,j,hk,L,_,_⟩:=lI hT d;refine⟨_,.slice a7 0 0,h,by simp only[bW],fun w=> ?_⟩;have o:=o8 (P:=P) (w:=w) (isS:=true) (n:=0) (cap:=0) (nP hl I) (nP f E) (Int.le_refl _) (Int.le_refl _) (Int.le_refl _) (ae _);simp only[Instr.sliceAt,Instr.slice,Sem.run_bind,run_underlying j,Result.andThen_ok,o,hT.sizeOf hk w,Sem.run_pure];simp
  .cases h
 .rename_i id aj
  split at h
  .rename_i e u xs U
   replace h:=dG h;obtain⟨V,h⟩:=h;have V:u=aj:=by simpa using V
   subst V;split at h
   .rename_i l p hl f
    replace h:=gG h;obtain⟨d,h⟩:=h;simp only[af]at d;obtain⟨A,B,i⟩:=IP d.2;simp only[bM]at i;simp only[bW]at hx;have W:=(hx.2.2 _ _ _ U).2 rfl;simp only[ja]at W;have D:y=a7:=lD.none_inv G;subst D;obtain⟨S,j,hk,L,_,_⟩:=lI hT d.1;obtain⟨_,e',Z,ak,hL,al⟩:=ab.obj id _ U;obtain⟨a,n,M,hn⟩: ∃a n,(c.mu id).v=.slice a xs.length n/\xs.length<=n:=by
     rcases ak.2 with ⟨e1,e2⟩|⟨g,J,an,e1,_,_,e2,_⟩
     all_goals grind
    rw[M]at W;subst W;refine⟨_,.slice (if n=l.toNat then a else a.map (·.add (l.toNat*e.size))) (p.toNat-l.toNat) (n-l.toNat),h, ?_,fun w=> ?_⟩
    .simp only[bW];refine⟨rfl,hx.2.1,fun t' u' ao h'=> ?_⟩;rw[U]at h';cases h';exact⟨ae _,fun _=>⟨a,xs.length,n,M,A,B,i,rfl⟩⟩
    .have o:=o8 (P:=P) (w:=w) (isS:=true) (n:=xs.length) (cap:=n) (nP hl I) (nP f E) A B i hn;simp only[Instr.sliceAt,Instr.slice,Sem.run_bind,run_underlying j,Result.andThen_ok,o,hT.sizeOf hk w,Sem.run_pure,L]
   .cases h
  .cases h
 .cases h
end
end
section
open Option renaming some → a6, none → a7
open Bool renaming and_eq_true → af
open List renaming append_assoc → ai, map_cons → au, nil_append → aF, length_cons → aG, drop_of_length_le → aO, mem_of_mem_take → bu
open Go.RowKit
section
variable {P:Program} {T:TT} {W0:World} {c:Cx} {R:Type} {r:R} {t:TypeId}
theorem SV {d:Type} {l:List d} {i:Int} (h:fV l i=true):0<=i/\i<(l.length:Int)/\i.toNat<l.length:=by
 simp_all [fV]
theorem azk {e:Type} {l:List e} {d:e} {i:Int} (h:i.toNat<l.length):dJ l d i=l[i.toNat]:=by grind [dJ]
theorem CQ (hT:TOk P T) {e:TypeId} (d:P.underlying t=a6 (.slice e)) (hk:(T.at e).known=true) (w:World) (a:Addr) (n cp:Nat) (k:IntKind) (i:Int) (f:0<=i) (g:i<(n:Int)):
  (Instr.indexAt t (.slice (a6 a) n cp) (.int k i)).run P w=.ok (.pointer (a6 (a.add (i.toNat*(T.at e).size)))) w:=by
 simp only[Instr.indexAt,asIntOf,Sem.run_bind,Sem.run_pure,Result.andThen_ok,run_underlying d];rw[am ⟨f,g⟩];simp[Sem.run_bind,hT.sizeOf hk w]
theorem O1 (hT:TOk P T) (O:c.Ok W0) {x i:bU} {v G:Value} {K:bU->Option R} (h:tu T c.hp t x i K=a6 r) (hx:bW c x v) (hi:bW c i G):
  ∃z u,K z=a6 r/\bW c z u/\ ∀w,(Instr.indexAt t v G).run P w=.ok u w:=by
 unfold tu at h;split at h
 .cases h
 rename_i n S
 obtain⟨k,rfl⟩:=qU S hi;split at h
 .rename_i e xs
  replace h:=gG h;obtain⟨f,h⟩:=h;simp only[af]at f;obtain⟨q,s,y⟩:=SV f.2;simp only[bW]at hx;obtain⟨a,cp,A,rfl,h2,U,B⟩:=nG hx;obtain⟨I,l,hk,o,J,_⟩:=lI hT f.1;obtain⟨d,d1,V,l1,l2,d3,d4⟩:=fQ.at_ n.toNat xs A y U;have W:A≠[]:=by
   intro e0;simp_all
  rcases B with B|⟨b,X,Y,Z,h7⟩
  .exact absurd B W
  .refine⟨_,.pointer (a6 ⟨b,X+n.toNat*e.size,a7⟩),h, ?_,fun w=> ?_⟩
   .simp only[bW];refine⟨b,_,d,rfl,Z, ?_,by rw[azk y];exact V⟩;simp_all [gW.append]
   .rw[Y,CQ hT l hk w _ _ _ _ _ q s,o,kC]
 .rename_i id ab vw
  split at h
  .rename_i e u xs L
   replace h:=dG h;obtain⟨D,h⟩:=h;have D:u=ab:=by simpa using D
   subst D;simp only[bW]at hx;have j:=(hx.2.2 _ _ _ L).2 rfl;obtain⟨_,e',A,M,hL,ah⟩:=O.obj id _ L;split at h
   .replace h:=gG h;obtain⟨f,h⟩:=h;simp only[af]at f;obtain⟨q,s,y⟩:=SV f.2;obtain⟨I,l,hk,o,J,_⟩:=lI hT f.1;simp only[ja]at j;rcases M.2 with ⟨p,E⟩|⟨g,ad,ae,p,_,_,E,_⟩
    .omega
    .rw[p]at j;subst j;refine⟨_,.pointer (a6 ⟨g,n.toNat*e.size,a7⟩),h, ?_,fun w=> ?_⟩
     .simp only[bW];refine⟨rfl,hx.2.1,fun t' u' ag h'=> ?_⟩;simp_all
     .rw[CQ hT l hk w _ _ _ _ _ q s,o,kC,Nat.zero_add]
   .rename_i lo aj
    replace h:=gG h;obtain⟨f,h⟩:=h;simp only[af,decide_eq_true_eq,gY]at f;obtain⟨I,l,hk,o,J,_⟩:=lI hT f.1;simp only[ja]at j;obtain⟨a,m,cp,N,q1,q2,q3,j⟩:=j;rcases M.2 with ⟨p,E⟩|⟨g,ad,ae,p,_,_,E,_⟩
    .grind
    .rw[p]at N;cases N;rw[aq (by omega)]at j;subst j;refine⟨_,.pointer (a6 ⟨g,(lo+n).toNat*e.size,a7⟩),h, ?_,fun w=> ?_⟩
     .simp only[bW];refine⟨rfl,hx.2.1,fun t' u' ag h'=> ?_⟩;simp_all
     .simp only[Option.map_some];rw[CQ hT l hk w _ _ _ _ _ f.2.1 (by omega),o,kC,kC,Nat.zero_add,<-Nat.add_mul]
      grind
  .cases h
 .cases h
theorem alv (hT:TOk P T) {i:bU} {s:List UInt8} {n:Int} {v d:Value} (hx:bW c (.val .str s) v) (hi:bW c i d) (e:intOf i=a6 n) (h:(T.isStr t&&fV s n)=true):
  bW c (.val (.int .u8) (bY s n)) (.int .u8 (bY s n))/\ ∀w,(Instr.index t v d).run P w=.ok (.int .u8 (bY s n)) w:=by
 simp only[af]at h;obtain⟨f,l,o⟩:=SV h.2;simp only[bW]at hx;obtain rfl:=hx.str_inv;obtain⟨k,rfl⟩:=qU e hi;have g:=FH hT h.1;refine⟨by simp only[bW];exact VD.int_mk,fun w=> ?_⟩;have j:(⟨s.toArray⟩:ByteArray)[n.toNat]? =a6 s[n.toNat]:=by
  have:n.toNat<(⟨s.toArray⟩:ByteArray).size:=by assumption
  rw[getElem?_pos (⟨s.toArray⟩:ByteArray) n.toNat this];rfl
 simp only[Instr.index,asIntOf,Sem.run_bind,Sem.run_pure,Result.andThen_ok,run_underlying g,am f,j]
 grind [bY]
theorem Bl (hT:TOk P T) {f off:Nat} {d:TypeId} (h:T.fieldAt t f=a6 (off,d)): ∃e g i,(T.at t).k=.struct e/\e[f]? =a6 (off,d)/\(T.at t).known=true/\(T.at d).known=true/\0<(T.at d).size/\
  P.underlying t=a6 (.struct g)/\g[f]? =a6 i/\i.offset=off/\i.type=d:=by
 unfold TT.fieldAt at h;split at h
 .rename_i e j
  replace h:=dG h;obtain⟨hk,h⟩:=h;split at h
  .rename_i o q s
   replace h:=dG h;obtain⟨l,p⟩:=h;cases p;simp only[af,PD,decide_eq_true_eq]at l;obtain⟨g,u,v⟩:=hT.struct hk j
   grind
  .cases h
 .cases h
theorem LZ (hT:TOk P T): ∀(j:List (Nat×TypeId)) (o:Nat) (y:Ty),jJ T o j=a6 y-> ∀(f off:Nat) (e:TypeId),j[f]? =a6 (off,e)-> ∀(x:y.den) (cs:List Value),eY c.w c.free y x cs->
  ∃(a:Ty) (z:a.den) (g i q:List Value),YJ y x f=.val a z/\Si y x f=.cellp a z/\(T.at e).ty=a6 a/\a.size=(T.at e).size/\cs=g++i++q/\o+g.length=off/\eY c.w c.free a z i
 |[],_,_,_,f,_,_,h,_,_,_=>by simp at h
 |(S,U)::j,o,y,d,f,off,e,l,x,cs,hd=>by
  simp only[jJ]at d;split at d
  .rename_i V
   split at d
   .rename_i a s
    split at d
    .rename_i u
     split at d
     .rename_i b v
      cases d;obtain⟨g,i,p,A,B⟩:=hd;cases f with
      |zero=>
       simp only[List.getElem?_cons_zero,Option.some.injEq,Prod.mk.injEq]at l;obtain⟨rfl,rfl⟩:=l;exact⟨a,x.1,[],g,i,rfl,rfl,s,u.1,by simpa using p,by simp;omega,A⟩
      |succ f=>
       simp only[List.getElem?_cons_succ]at l;obtain⟨D,z,E,G,I,J,K,L,M,N,W,O⟩:=LZ hT j (o+a.size) b v f off e l x.2 i B;refine⟨D,z,g++E,G,I,J,K,L,M,by rw[p,N];simp, ?_,O⟩
       grind [eY.length]
     .cases d
    .cases d
   .cases d
  .cases d
theorem CP (hT:TOk P T) {f off:Nat} {e:TypeId} (h:T.fieldAt t f=a6 (off,e)) (w:World) (b o:Nat):
  (Instr.fieldAt t (.pointer (a6 ⟨b,o,a7⟩)) f).run P w=.ok (.pointer (a6 ⟨b,o+off,a7⟩)) w:=by
 obtain⟨s,u,g,v,x,hk,i,y,j,l,p,d⟩:=Bl hT h;have q:=hT.sizeOf (t:=g.type) (by rw[d];exact i) w;simp only[Instr.fieldAt,Sem.run_bind,run_underlying j,Result.andThen_ok,l,Instr.sureAddr,Sem.run_pure,fieldPlace,q,Sem.run_ite];rw[aq (by rw[d];omega)];simp[kC,p]
theorem X7 (hT:TOk P T) (hk:(T.at t).known=true) {e:List (Nat×TypeId)} (f:(T.at t).k=.struct e) {y:Ty} (g:(T.at t).ty=a6 y):jJ T 0 e=a6 y:=by
 rcases(hT t hk).2.2.1 with d|d
 .simp_all
 .rw[g,f]at d;exact d.symm
theorem O0 (hT:TOk P T) {x:bU} {f:Nat} {v:Value} {K:bU->Option R} (h:tq T c.hp t x f K=a6 r) (hx:bW c x v):
  ∃z u,K z=a6 r/\bW c z u/\ ∀w,(Instr.fieldAt t v f).run P w=.ok u w:=by
 unfold tq at h;split at h
 .rename_i d A j
  obtain⟨B,O,S,D,E,hk,U,V,W,X,Y,Z⟩:=Bl hT j;split at h
  .rename_i u y
   split at h
   .rename_i G I
    split at h
    .rename_i z l
     have e:=iq l;subst e;rw[gp]at l;cases l;simp only[bW]at hx;obtain⟨b,o,zs,rfl,hb,q,hd⟩:=hx;obtain⟨a,z,l1,l2,l3,g1,g2,g3,g4,g5,g6,g7⟩:=LZ hT B 0 u (X7 hT hk D I) f d A E _ _ hd;refine⟨_,.pointer (a6 ⟨b,o+d,a7⟩),h, ?_,fun w=>CP hT j w b o⟩;rw[g2];simp only[bW];rw[g5,ai]at q;have:=(gW.append.1 (gW.append.1 q).2).1
     grind
    .cases h
   .cases h
  .rename_i id o
   split at h
   .rename_i bt cs J
    simp only[bW]at hx;have s:=hx.2.2 _ _ J;subst s;refine⟨_,.pointer (a6 ⟨(c.mu id).blk,o+d,a7⟩),h, ?_,fun w=>CP hT j w _ o⟩;simp only[bW];exact⟨rfl,hx.2.1,fun _ _ _=>trivial⟩
   .cases h
  .rename_i id L i o
   split at h
   .rename_i e u xs M
    replace h:=dG h;obtain⟨p,h⟩:=h;have p:u=L:=by simpa using p
    subst p;simp only[bW]at hx;obtain⟨g,n,cp,s,N⟩:=(hx.2.2 _ _ _ M).2 rfl;subst N;refine⟨_,.pointer (a6 ⟨g,i*e.size+o+d,a7⟩),h, ?_,fun w=>CP hT j w _ _⟩;simp only[bW];refine⟨rfl,hx.2.1,fun t' G ab h'=> ?_⟩
    grind
   .cases h
  .cases h
 .cases h
theorem alu (hT:TOk P T) {x:bU} {f:Nat} {v:Value} {K:bU->Option R} (h:JD T t x f K=a6 r) (hx:bW c x v):
  ∃z u,K z=a6 r/\bW c z u/\ ∀w,(Instr.field t v f).run P w=.ok u w:=by
 unfold JD at h;split at h
 .rename_i g d I
  obtain⟨J,X,p,q,L,hk,i,Y,j,M,Z,N⟩:=Bl hT I;have O:(T.at t).isAgg=true:=by simp[TI.isAgg,q]
  split at h
  .rename_i u y
   split at h
   .rename_i u' s
    split at h
    .rename_i z o
     have e:=iq o;subst e;rw[gp]at o;cases o;simp only[bW]at hx;have A:=hT.ty_agg hk s;rw[O]at A;obtain⟨cs,rfl,hd⟩:=(VD.agg A).1 hx;obtain⟨a,z,l1,S,l3,g1,g2,g3,g4,g5,g6,U⟩:=LZ hT J 0 u (X7 hT hk q s) f g d L _ _ hd;refine⟨_,valOf (T.at d).isAgg S,h, ?_,fun w=> ?_⟩
     .grind [bW,afR]
     .have ab:=eY.length _ _ _ U;have B:g+(T.at d).size<=cs.size:=by
       have:=congrArg List.length g5;simp at this;omega
      have D:=KG (P:=P) hT (t:=p.type) (by rw[N];exact i) w cs p.offset (by simp_all);simp only[Instr.field,Sem.run_bind,run_underlying j,Result.andThen_ok,M,asAgg,Sem.run_pure,D];simp_all
    .cases h
   .cases h
  .rename_i l
   split at h
   .rename_i ad V
    obtain⟨q1,rfl⟩:=Be V;simp only[bW]at hx;obtain⟨E,rfl,G,W⟩:=hx;have B:=bK.length _ _ G;simp at B;refine⟨_,valOf (T.at d).isAgg ((E.toList.drop g).take (T.at d).size),h,Ky hT i (bK.take _ _ _ (bK.drop _ _ _ G)) (fun u j=>W u (List.mem_of_mem_drop (bu j))),fun w=> ?_⟩;have D:=KG (P:=P) hT i w E g (by omega);simp_all [Instr.field,run_underlying,asAgg]
   .cases h
  .cases h
 .cases h
theorem q_len (hT:TOk P T) (y:c.Ok W0) {x:bU} {v:Value} {K:bU->Option R} (h:adm T c.hp t x K=a6 r) (hx:bW c x v) {ty:TypeId}:
  ∃z u,K z=a6 r/\bW c z u/\ ∀w,(Builtin.len_ #[t] ty #[v]).run P w=.ok u w:=by
 unfold adm at h;split at h
 .rename_i s
  replace h:=gG h;obtain⟨f,h⟩:=h;simp only[bW]at hx;obtain rfl:=hx.str_inv;have d:=FH hT f;refine⟨_,_,h,by simp only[bW];exact VD.int_mk,fun w=> ?_⟩;simp only[Builtin.len_,List.getElem?_toArray,List.getElem?_cons_zero,Sem.run_bind,run_underlying d,Result.andThen_ok,Sem.run_pure,goInt];congr 2
 .rename_i e xs
  replace h:=gG h;obtain⟨f,h⟩:=h;simp only[bW]at hx;obtain⟨a,cp,A,rfl,J,L,M⟩:=nG hx;obtain⟨l,d,hk,o,p,_⟩:=lI hT f;exact⟨_,_,h,by simp only[bW];exact VD.int_mk,fun w=>by simp[Builtin.len_,run_underlying d,goInt,bM]⟩
 .replace h:=gG h;obtain⟨f,h⟩:=h;simp only[bW]at hx;subst hx;obtain⟨l,d,hk,o,p,_⟩:=lI hT f;exact⟨_,_,h,by simp only[bW];exact VD.int_mk,fun w=>by simp[Builtin.len_,run_underlying d,goInt]⟩
 .rename_i id B N
  split at h
  .rename_i e u xs q
   replace h:=dG h;obtain⟨j,h⟩:=h;have j:u=B:=by simpa using j
   subst j;replace h:=gG h;obtain⟨f,h⟩:=h;obtain⟨l,d,hk,o,p,_⟩:=lI hT f;simp only[bW]at hx;have i:=(hx.2.2 _ _ _ q).2 rfl;obtain⟨_,O,A,D,S,U⟩:=y.obj id _ q;obtain⟨a,n,E,V⟩: ∃a n,(c.mu id).v=.slice a xs.length n/\xs.length<=n:=by
    rcases D.2 with ⟨G,I⟩|⟨g,W,X,G,_,_,I,_⟩
    all_goals grind
   split at h
   .simp only[ja]at i;rw[E]at i;subst i;exact⟨_,_,h,by simp only[bW];exact VD.int_mk,fun w=>by simp[Builtin.len_,run_underlying d,goInt,bM]⟩
   .rename_i lo Y
    simp only[ja]at i;obtain⟨Z,m,cp,ab,q1,q2,q3,i⟩:=i;subst i;refine⟨_,_,h,by simp only[bW];exact VD.int_mk,fun w=> ?_⟩;simp only[Builtin.len_,List.getElem?_toArray,List.getElem?_cons_zero,Sem.run_bind,run_underlying d,Result.andThen_ok,Sem.run_pure,goInt]
    grind
  .cases h
 .cases h
theorem sK {k:IntKind}: ∀(l:List bU) (e:List Int) (us:List Value),AV k l=a6 e->bK c l us->us=e.map (.int k)
 |[],e,us,h,d=>by
  grind [AV,bK]
 |v::l,e,us,h,d=>by
  cases us with
  |nil=>simp[bK]at d
  |cons u us=>
   simp only[bK]at d;cases v with
   |val t x=>
    cases t<;>simp only[AV,reduceCtorEq]at h
    rename_i i
    split at h
    .rename_i hk
     subst hk;split at h
     .rename_i m g
      cases h;have f:=d.1;simp only[bW]at f;rw[f.int_inv,sK l m us g d.2];rfl
     .cases h
    .cases h
   |_=>simp[AV]at h
theorem UD (w:World) (k:IntKind): ∀(d:List Int) (a:Int),((d.map (Value.int k)).foldlM Builtin.min2 (.int k a)).run P w=.ok (.int k (d.foldl IC a)) w
 |[],a=>rfl
 |n::d,a=>by
  simp only[au,List.foldlM_cons,List.foldl_cons,Sem.run_bind,Builtin.min2,Sem.run_pure,Result.andThen_ok];exact UD w k d (IC a n)
theorem UC (w:World) (k:IntKind): ∀(d:List Int) (a:Int),((d.map (Value.int k)).foldlM Builtin.max2 (.int k a)).run P w=.ok (.int k (d.foldl BX a)) w
 |[],a=>rfl
 |n::d,a=>by
  simp only[au,List.foldlM_cons,List.foldl_cons,Sem.run_bind,Builtin.max2,Sem.run_pure,Result.andThen_ok];exact UC w k d (BX a n)
theorem adM (off:Nat): ∀(us:List Value) (k:Nat) (d:List Value),off+k+us.length<=d.length->
  (us.zipIdx k).foldl (fun cs p=>Array.setIfInBounds cs (off+p.2) p.1) d.toArray=(d.take (off+k)++us++d.drop (off+k+us.length)).toArray
 |[],k,d,h=>by simp
 |u::us,k,d,h=>by
  simp only[aG]at h;have e:=adM off us (k+1) (d.set (off+k) u) (by simp;omega);simp only[List.zipIdx_cons,List.foldl_cons];rw[show Array.setIfInBounds d.toArray (off+k) u=(d.set (off+k) u).toArray by simp,e];congr 1;have f:off+k<d.length:=by omega
  rw[List.set_eq_take_append_cons_drop,am f];have g: ∀(A B:List Value) (n m:Nat),A.length=n->(A++u::B).take (n+1)=A++[u]/\(A++u::B).drop (n+1+m)=B.drop m:=by
   intro A B n m i;constructor
   .grind
   .rw[List.drop_append,aO (by omega),i,aF,show n+1+m-n=m+1 by omega];rfl
  obtain⟨j,l⟩:=g (d.take (off+k)) (d.drop (off+k+1)) (off+k) us.length (by simp;omega);rw[show off+(k+1)=off+k+1 by omega,j,l];simp;congr 1;omega
theorem JM (off:Nat) (us:Array Value) (d:List Value) (h:off+us.size<=d.length):
  us.zipIdx.foldl (fun cs p=>Array.setIfInBounds cs (off+p.2) p.1) d.toArray=(d.take off++us.toList++d.drop (off+us.size)).toArray:=by
 rw[<-Array.foldl_toList,Array.toList_zipIdx];simp_all [adM]
theorem ado (hT:TOk P T) {y:List (Nat×TypeId)} {place:Nat->Option (Nat×Nat)} (hp: ∀i off q,y[i]? =a6 (off,q)->(T.at q).known=true->place i=a6 (off,(T.at q).size)):
  ∀(j:List (Nat×bU)) (us:List (Nat×Value)) (cs l:List bU) (d:List Value),JC T y cs j=a6 l->bK c cs d->(∀u∈d,u.oneCell'=true)->
   us.map (·.1)=j.map (·.1)->bK c (j.map (·.2)) (us.map (·.2))-> ∃o,Instr.fill place d.toArray us=a6 o.toArray/\bK c l o/\ ∀u∈o,u.oneCell'=true
 |[],us,cs,l,d,h,p,z,e,_=>by
  simp only[JC,Option.some.injEq]at h;subst h;cases us with
  |nil=>exact⟨d,rfl,p,z⟩
  |cons=>simp at e
 |(i,v)::j,us,cs,l,d,h,p,z,e,s=>by
  cases us with
  |nil=>simp at e
  |cons u us=>
   obtain⟨K,u⟩:=u;simp only[au,List.cons.injEq]at e;obtain⟨rfl,e⟩:=e;simp only[au,bK]at s;simp only[JC]at h;split at h
   .rename_i off q f D E
    replace h:=dG h;obtain⟨hk,h⟩:=h;simp only[af,beq_iff_eq]at hk;split at h
    .rename_i L g
     have G:=hp _ _ _ D hk.1;obtain⟨A,M⟩:=LK E s.1;have hl:=bK.length _ _ A;have N:=bK.length _ _ p;unfold putCells at g;replace g:=dG g;obtain⟨B,g⟩:=g;have B:off+f.length<=cs.length:=by simpa using B
     cases g;have O:u.cells.size=f.length:=by simpa using hl.symm
     have I:bK c (cs.take off++f++cs.drop (off+f.length)) (d.take off++u.cells.toList++d.drop (off+f.length)):=
      bK.append _ _ _ _ (bK.append _ _ _ _ (bK.take _ _ _ p) A) (bK.drop _ _ _ p)
     have J: ∀x∈d.take off++u.cells.toList++d.drop (off+f.length),x.oneCell'=true:=by
      grind
     obtain⟨o,g1,g2,g3⟩:=ado hT hp j us _ l _ h I J e s.2;refine⟨o, ?_,g2,g3⟩;rw[<-g1];simp only[Instr.fill,G];rw[aq (by grind)]
     grind [JM]
    .cases h
   .cases h
end
end
section
open Option renaming some → a6, none → a7
open Bool renaming and_eq_true → af, false_eq_true → ag, not_true → ax
open List renaming map_cons → au, nil_append → aF, map_nil → aU
open Go.RowKit
section
variable {P:Program} {T:TT} {W0:World} {c:Cx} {R:Type} {r:R} {t:TypeId}
theorem bK.map_eval {fr:List bU} {a:Act} (h:bK c fr a.tmps.toList): ∀(xs:List Operand),bK c (xs.map (gX fr)) (xs.map a.eval)
 |[]=>by simp[bK]
 |x::xs=>by simp only[au,bK];exact⟨dU h x,bK.map_eval h xs⟩
theorem Gh {w:World} {B:Nat} {e:TypeId} {size n:Nat} {v:Value} {d:List Value} (h:w.ownsRow B e size v n d): ∃a cp,v=.slice a n cp/\n<=cp/\(d=[]\/ ∃g,a=a6 ⟨g,0,a7⟩/\g<w.heap.size/\B<=g/\gW w g 0 d):=by
 rcases h.2 with ⟨f,i⟩|⟨g,l,p,f,i,j,o,q,s,u⟩
 .refine⟨a7,0,by rw[f,i],by omega,.inl ?_⟩;have:=h.1;simp_all
 .refine⟨_,l,f,o,.inr ⟨g,rfl,(Array.getElem?_eq_some_iff.1 j).1,i, ?_⟩⟩;have:=(gW.of_block_cells j).sub 0 (n*size);simp_all
theorem qE {w:World} {B:Nat} {e:TypeId} {size n:Nat} {v:Value} {d:List Value} (h:w.ownsRow B e size v n d): ∃a cp,v=.slice a n cp/\n<=cp/\(d=[]\/ ∃g,a=a6 ⟨g,0,a7⟩/\g<w.heap.size/\gW w g 0 d):=by
 grind [Gh]
theorem UL (y:c.Ok W0) {x:bU} {e:Ty} {A:List e.den} {u:Value} (h:x.as c.hp (.list e)=a6 A) (hx:bW c x u):
  ∃a cp d,u=.slice a A.length cp/\fQ (eY c.w c.free e) e.size A d/\(d=[]\/ ∃b off,a=a6 ⟨b,off,a7⟩/\b<c.w.heap.size/\ ¬c.bar b/\gW c.w b off d):=by
 cases x with
 |val J z=>
  simp only[bU.as]at h;have e:=iq h;subst e;rw[gp]at h;cases h;simp only[bW]at hx;obtain⟨a,n,d,B,N,D,E⟩:=nG hx;exact⟨a,n,d,B,D,E.imp id fun⟨b,off,f,i,o⟩=>⟨b,off,f,i.1,i.2.2.2,o⟩⟩
 |nils=>
  simp only[bU.as,Option.some.injEq]at h;subst h;simp only[bW]at hx;exact⟨a7,0,[],hx,rfl,.inl rfl⟩
 |lst J z b=>
  simp only[bU.as]at h;have e:=iq h;cases e;rw[gp]at h;cases h;simp only[bW]at hx;obtain⟨a,n,d,B,N,D,E⟩:=nG hx.1;exact⟨a,n,d,B,D,E.imp id fun⟨b,off,f,i,o⟩=>⟨b,off,f,i.1,i.2.2.2,o⟩⟩
 |emp=>
  simp only[bU.as,Option.some.injEq]at h;subst h;simp only[bW]at hx;obtain⟨a,rfl⟩:=hx;exact⟨a,0,[],rfl,rfl,.inl rfl⟩
 |slc id ver O=>
  simp only[bU.as,Bf]at h;split at h
  .rename_i J v xs s
   replace h:=dG h;obtain⟨j,h⟩:=h;have j:v=ver:=by simpa using j
   subst j;split at h
   .rename_i X G
    have e:=iq G;cases e;rw[gp]at G;cases G;cases h;simp only[bW]at hx;have q:=(hx.2.2 _ _ _ s).2 rfl;obtain⟨_,Y,d,S,K,Z⟩:=y.obj id _ s;obtain⟨a,cp,j,hn,L⟩:=Gh S;cases O with
    |none=>
     simp only[ja]at q;rw[j]at q;exact⟨a,cp,d,q,K,L.imp (fun h=>h) fun⟨g,f,i,U,o⟩=>⟨g,0,f,i,fun I=>(y.bar _ I).2.1 ⟨id,_,s,by rw[dM.blk,j,f];rfl⟩,o⟩⟩
    |some p=>
     obtain⟨lo,V⟩:=p;simp only[ja]at q;obtain⟨a',m,ab,M,p1,p2,p3,q⟩:=q;rw[j]at M;cases M;refine⟨(if cp=lo.toNat then a else a.map (·.add (lo.toNat*e.size))),cp-lo.toNat,(d.take (V.toNat*e.size)).drop (lo.toNat*e.size), ?_,fQ.drop _ _ _ (fQ.take _ _ _ K), ?_⟩
     .simp_all [acS,I8]
     .by_cases hcp:cp=lo.toNat
      .grind
      .rw[aq hcp];rcases L with W|⟨g,f,i,U,o⟩
       .left;rw[W];simp
       .right;refine⟨g,0+lo.toNat*e.size,by rw[f];simp[kC],i,fun I=>(y.bar _ I).2.1 ⟨id,_,s,by rw[dM.blk,j,f];rfl⟩, ?_⟩;rw[List.drop_take];exact o.sub _ _
   .cases h
  .cases h
 |agg l=>simp[bU.as,Ty.isAgg]at h
 |_=>simp[bU.as]at h
theorem ab7 (g:c.Ok W0) {x:bU} {e:Ty} {d:List e.den} {u:Value} (h:x.as c.hp (.list e)=a6 d) (hx:bW c x u):
  ∃a cp f,u=.slice a d.length cp/\fQ (eY c.w c.free e) e.size d f/\(f=[]\/ ∃b off,a=a6 ⟨b,off,a7⟩/\b<c.w.heap.size/\gW c.w b off f):=by
 grind [UL]
theorem BA {k:IntKind} {w:World} {fr:Nat->Prop}: ∀(xs:List Int) (e:List Value),fQ (eY w fr (.int k)) 1 xs e->e=xs.map (.int k)
 |[],_,h=>by cases h;rfl
 |x::xs,_,⟨d,g,i,l,f,j⟩=>by
  simp only[eY]at f;subst i;subst f;rw[BA xs g j];rfl
theorem L9: ∀(e:List Int) (d:List UInt8),e.foldl (fun r n=>r.push (UInt8.ofNat n.toNat)) (⟨d.toArray⟩:ByteArray)=⟨(d++ofBytes e).toArray⟩
 |[],d=>by simp[ofBytes]
 |n::e,d=>by
  rw[List.foldl_cons];have:(⟨d.toArray⟩:ByteArray).push (UInt8.ofNat n.toNat)=⟨(d++[UInt8.ofNat n.toNat]).toArray⟩:=by
   simp[ByteArray.push]
  rw[this,L9 e];simp[ofBytes]
theorem ao2 (hT:TOk P T) (A:c.Ok W0) {s d:TypeId} {x:bU} {v:Value} {K:bU->Option R} (h:zM T s d x c.hp K=a6 r) (hx:bW c x v):
  ∃z u,K z=a6 r/\bW c z u/\ ∀w',GK c w'->(convert s d v).run P w'=.ok u w':=by
 unfold zM at h;cases hk:((T.at s).known&&(T.at d).known)
 .simp_all
 rw[hk]at h;simp only[ax,ac]at h;simp only[af]at hk;split at h
 .rename_i k1 k2 k3 n g i
  simp only[bW]at hx;obtain rfl:=hx.int_inv;have l:=hT.int hk.1 g;have o:=hT.int hk.2 i;exact⟨_,_,h,by simp only[bW];exact VD.int_mk,fun w' _=>by simp_all [convert,run_underlying,Conv.intToInt]⟩
 .rename_i str g i
  simp only[bW]at hx;obtain rfl:=hx.str_inv;have l:=hT.str hk.1 g;have o:=hT.str hk.2 i;exact⟨_,_,h,by simp only[bW];exact VD.str_mk,fun w' _=>by simp_all [convert,run_underlying]⟩
 .rename_i e g i
  split at h
  .rename_i B
   split at h
   .rename_i xs D
    replace h:=gG h;obtain⟨E,h⟩:=h;have G:=E;have l:=hT.slice hk.1 g;have o:=hT.str hk.2 i;have p:=hT.int G B;obtain⟨a,cp,f,rfl,I,J⟩:=ab7 A D hx;refine⟨_,.string ⟨(ofBytes xs).toArray⟩,h,by simp only[bW];exact VD.str_mk,fun w' L=> ?_⟩;have q:=BA xs f I;cases hxe:xs with
    |nil=>
     subst hxe;rcases a with _|M
     .simp only[convert,run_underlying l,run_underlying o,run_underlying p,Sem.run_bind,Result.andThen_ok,Conv.bytesToString,Sem.run_pure];rfl
     .rw[run_convert_bytes_string w' s d e _ _ _ l p o,run_bytesToString (P:=P) w' M _ cp [] (by rfl)];rfl
    |cons x0 Y=>
     have N:f≠[]:=by rw[q,hxe];simp
     obtain⟨b,y,rfl,O,S⟩:=J.resolve_left N;have U:=L.cells O S;have Z:(loadCells ⟨b,y,a7⟩ f.length).run P w'=.ok f.toArray w':=run_loadCells_list (P:=P) w' _ f fun j v V=>by
      obtain⟨W,X⟩:=List.getElem?_eq_some_iff.1 V;rw[kC,U j W,X]
     have ab:f.length=xs.length:=by rw[q];simp
     rw[<-hxe,run_convert_bytes_string w' s d e _ _ _ l p o,run_bytesToString (P:=P) w' ⟨b,y,a7⟩ xs.length cp xs (by simp_all)];have:=L9 xs [];simp only[aF]at this;rw[<-this];rfl
   .cases h
  .cases h
 .cases h
theorem Hu {d e:Type} (f:d->Sem e) (g:d->e) (w:World): ∀(l:List d),(∀x∈l,(f x).run P w=.ok (g x) w)->(l.mapM f).run P w=.ok (l.map g) w
 |[],_=>rfl
 |x::l,h=>by
  simp only[List.mapM_cons,Sem.run_bind,h x (by simp),Result.andThen_ok,Hu f g w l (fun y i=>h y (by simp[i])),Sem.run_pure,au]
theorem ab2 {d e:Type} (f:d->Sem e) (g:d->e) (w:World) (l:Array d) (h: ∀x∈l.toList,(f x).run P w=.ok (g x) w):(l.mapM f).run P w=.ok (l.map g) w:=by
 rw[Array.mapM_eq_mapM_toList,Sem.run_map,Hu f g w l.toList h];simp only[Result.andThen_ok];congr 1
 grind
def Yq (P:Program) (t:TypeId):Nat:=((P.info? t).map (·.size)).getD 0
theorem Ai (hT:TOk P T) (S:c.Ok W0) {cl:Bool} {call:gI R} {o:Oper} {st:St} {a:Act} {K:bU->St->Option R} (U:iy o.op=true) (G:c.hp=st.hp) (j:bK c st.fr a.tmps.toList)
  (h:eH T cl call o st K=a6 r): ∃z u,K z st=a6 r/\bW c z u/\ ∀w',GK c w'->(execOp a.eval o).run P w'=.ok (.value u) w':=by
 have E: ∀{s:Sem Value} {u:Value} {w':World},s.run P w'=.ok u w'->(do pure (Next.value (<-s)):Sem Next).run P w'=.ok (.value u) w':=fun hs=>by
  simp_all
 obtain⟨aJ,op,ty,aK,aO,aP⟩:=o;simp only at U;cases op<;>simp only[iy,jM,ag]at U
 case move x=>exact⟨_,_,h,dU j x,fun w' _=>rfl⟩
 case assign x=>exact⟨_,_,h,dU j x,fun w' _=>rfl⟩
 case pick x y z=>
  simp only[eH]at h;have hc:=dU j x;split at h
  .rename_i b L
   rw[L]at hc;simp only[bW]at hc;have ai:=hc.bool_inv;cases b
   .exact⟨_,_,h,dU j z,fun w' _=>by simp[execOp,ai,asBool]⟩
   .exact⟨_,_,h,dU j y,fun w' _=>by simp[execOp,ai,asBool]⟩
  .cases h
 case build t parts=>
  simp only[eH]at h;cases hk:(T.at t).known
  .simp_all
  rw[hk]at h;simp only[ax,ac]at h;split at h
  .rename_i fs ao
   split at h
   .rename_i cs Y
    obtain⟨Z,hu,av⟩:=hT.struct hk ao;obtain⟨i,z,hi,aQ,aS,hz,aV,ab⟩:=hT.info hk;have aw:bK c (T.at t).zero z.cells.toList:=by grind [sV]
    have ab: ∀u∈z.cells.toList,u.oneCell'=true:=fun u hu=>List.all_eq_true.1 ab u hu;obtain⟨ay,g1,g2,g3⟩:=ado (c:=c) hT (place:=fun k=>(Z.map fun f=>(f.offset,Yq P f.type))[k]?) (fun k aj ft ad az=>by
      rw[<-av,List.getElem?_map]at ad;cases hfl:Z.toList[k]? with
      |none=>simp_all
      |some fl=>
       rw[hfl]at ad;simp only[Option.map_some,Option.some.injEq,Prod.mk.injEq]at ad;have:Z[k]? =a6 fl:=by simpa using hfl
       obtain⟨i',z',aW,aX,_⟩:=hT.info az;simp_all [Yq]) _ (parts.toList.map fun p=>(p.1,a.eval p.2)) _ _ _ Y aw ab (by simp) (by
      simp only[List.map_map,Function.comp_def];have:=bK.map_eval (c:=c) j (parts.toList.map (·.2));simp_all [Function.comp_def])
    have ae:=(hT t hk).2.2.2.2.2.2.1;rw[hu]at ae;simp only[Option.map_some,Option.some.injEq]at ae;refine⟨_,.agg ay.toArray,h, ?_,fun w' _=>E ?_⟩
    .have:=Ky (c:=c) hT hk g2 g3;simp_all [TI.isAgg,valOf]
    .have hm:=ab2 (P:=P) (fun f:Field=>do pure (f.offset,<-sizeOf f.type)) (fun f=>(f.offset,Yq P f.type)) w' Z (fun f hf=>by
      have:=List.all_eq_true.1 ae f hf;cases hi2:P.info? f.type with
      |none=>simp_all
      |some i2=>simp[sizeOf,typeInfo,hi2,Yq])
     have aA:(zeroValue t).run P w'=.ok z w':=by simp[zeroValue,typeInfo,hi,hz]
     simp only[Instr.build,Sem.run_bind,aA,Result.andThen_ok,run_underlying hu,hm];simp_all
   .cases h
  .cases h
 case load t x=>
  simp only[eH]at h;rw[<-G]at h;obtain⟨z,u,q,A,B⟩:=avK (K:=fun v=>K v st) hT S h (dU j x);exact⟨z,u,q,A,fun w' D=>E (B w' D)⟩
 case nilCheck x=>
  simp only[eH]at h;have d:=dU j x;split at h
  .rename_i id aj N
   rw[N]at d;split at h
   .rename_i bt cs Y
    have V:=d;simp only[bW]at d;rw[<-G]at Y;have I:=d.2.2 _ _ Y;exact⟨_,_,h,V,fun w' _=>by simp[execOp,I]⟩
   .cases h
  .rename_i y e N
   rw[N]at d;have V:=d;simp only[bW]at d;obtain⟨b,o,zs,I,_⟩:=d;exact⟨_,_,h,V,fun w' _=>by simp[execOp,I]⟩
  .rename_i id aB i aj N
   rw[N]at d;split at h
   .rename_i e u xs ak
    replace h:=dG h;obtain⟨J,h⟩:=h;have J:u=aB:=by simpa using J
    subst J;have V:=d;simp only[bW]at d;rw[<-G]at ak;obtain⟨g,n,cp,_,I⟩:=(d.2.2 _ _ _ ak).2 rfl;exact⟨_,_,h,V,fun w' _=>by simp[execOp,I]⟩
   .cases h
  .cases h
 case binOp op t x y yt=>
  simp only[eH]at h;rw[<-G]at h;obtain⟨z,u,q,A,B⟩:=avJ (P:=P) (ox:=x) (oy:=y) (K:=fun v=>K v st) hT S h (dU j x) (dU j y);exact⟨z,u,q,A,fun w' D=>E (B w')⟩
 case unOp op t x=>
  simp only[eH]at h;obtain⟨z,u,q,A,B⟩:=aKh (P:=P) (K:=fun v=>K v st) h (dU j x);exact⟨z,u,q,A,fun w' D=>E (B w')⟩
 case convert sT dT x=>
  simp only[eH]at h;rw[<-G]at h;obtain⟨z,u,q,A,B⟩:=ao2 (P:=P) (K:=fun v=>K v st) hT S h (dU j x);exact⟨z,u,q,A,fun w' D=>E (B w' D)⟩
 case slice t x lo hi mx=>
  simp only[eH]at h;rw[<-G]at h;obtain⟨z,u,q,A,B⟩:=alx (P:=P) (K:=fun v=>K v st) hT S h (dU j x) (lD.map j lo) (lD.map j hi) (lD.map j mx);exact⟨z,u,q,A,fun w' D=>E (B w')⟩
 case fieldAddr t x f=>
  simp only[eH]at h;rw[<-G]at h;obtain⟨z,u,q,A,B⟩:=O0 (P:=P) (K:=fun v=>K v st) hT h (dU j x);exact⟨z,u,q,A,fun w' D=>E (B w')⟩
 case field t x f=>
  simp only[eH]at h;obtain⟨z,u,q,A,B⟩:=alu (P:=P) (K:=fun v=>K v st) hT h (dU j x);exact⟨z,u,q,A,fun w' D=>E (B w')⟩
 case indexAddr t x i=>
  simp only[eH]at h;rw[<-G]at h;obtain⟨z,u,q,A,B⟩:=O1 (P:=P) (K:=fun v=>K v st) hT S h (dU j x) (dU j i);exact⟨z,u,q,A,fun w' D=>E (B w')⟩
 case index t x i=>
  simp only[eH]at h;split at h
  .rename_i s n hs hn
   replace h:=gG h;obtain⟨q,h⟩:=h;have d:=dU j x;rw[hs]at d;obtain⟨A,B⟩:=alv (P:=P) hT d (dU j i) hn q;exact⟨_,_,h,A,fun w' D=>E (B w')⟩
  .cases h
 case extract x n=>
  simp only[eH]at h;have d:=dU j x;split at h
  .rename_i l hl
   rw[hl]at d;split at h
   .rename_i v I
    simp only[bW]at d;obtain⟨vs,N,an⟩:=d;obtain⟨hn,I⟩:=List.getElem?_eq_some_iff.1 I;have aG:=bK.length _ _ an;simp at aG;have q:=bK.get _ _ an n hn (by simp;omega);rw[I]at q;simp only[Array.getElem_toList]at q;refine⟨_,_,h,q,fun w' _=>E ?_⟩;rw[N];have:vs[n]? =a6 vs[n]:=Array.getElem?_eq_getElem (by omega);simp[Instr.extract,this]
   .cases h
  .cases h
 case call cc=>
  obtain⟨aY,W,aH⟩:=cc;simp only at U;have M:=bK.map_eval (c:=c) j W.toList;split at U
  all_goals try (cases U;done)
  .
   simp only[eH,kD]at h;split at h<;>try (cases h;done)
   .rename_i x L d
    split at h<;>try (cases h;done)
    rename_i t ht
    rw[<-G]at h;obtain⟨O,aI⟩: ∃O,W= #[O]:=by
     obtain⟨l⟩:=W
     match l,d with
     |[O],_=>exact⟨O,rfl⟩
    subst aI;obtain⟨t0⟩:=aH;simp only at ht;subst ht;simp only[au,aU,List.cons.injEq,and_true]at d;subst d;obtain⟨z,u,q,A,B⟩:=q_len (P:=P) (K:=fun v=>K v st) hT S h (dU j O) (ty:=ty)
    grind [execOp,resolve,invoke,builtin]
   all_goals simp_all
  .
   simp only[eH,kD]at h;split at h<;>try (cases h;done)
   all_goals try (rename_i L _;cases L;done)
   rename_i k n l L d
   split at h<;>try (cases h;done)
   rename_i ns ah
   rw[d]at M;obtain⟨X⟩:=W;cases X with
   |nil=>simp_all
   |cons O X=>
    simp only[au,bK]at M;have J:=M.1;simp only[bW]at J;have q:=J.int_inv;have A:=sK _ _ _ ah M.2;exact⟨_,_,h,by simp only[bW];exact VD.int_mk,fun w' D=>by simp_all [execOp,resolve,invoke,builtin,Builtin.min_,UD]⟩
  .
   simp only[eH,kD]at h;split at h<;>try (cases h;done)
   all_goals try (rename_i L _;cases L;done)
   rename_i k n l L d
   split at h<;>try (cases h;done)
   rename_i ns ah
   rw[d]at M;obtain⟨X⟩:=W;cases X with
   |nil=>simp_all
   |cons O X=>
    simp only[au,bK]at M;have J:=M.1;simp only[bW]at J;have q:=J.int_inv;have A:=sK _ _ _ ah M.2;exact⟨_,_,h,by simp only[bW];exact VD.int_mk,fun w' D=>by simp_all [execOp,resolve,invoke,builtin,Builtin.max_,UC]⟩
end
end
section
open Option renaming some → a6, none → a7
open List renaming map_cons → au, map_nil → aU
open Nat renaming le_refl → ae, le_trans → aI
open Go.RowKit
structure AU (W0:World) (c:Cx) (st:St) (c':Cx) (st':St):Prop where
 hp:c'.hp=st'.hp
 nxt:c'.nxt=st'.nxt
 fr:st'.fr=st.fr
 stk:st'.stk=st.stk
 ok:c'.Ok W0
 le:c.Le c'
section
variable {P:Program} {T:TT} {W0:World} {c:Cx} {R:Type} {r:R} {t:TypeId}
theorem AU.refl (d:c.Ok W0) {st:St} (e:c.hp=st.hp) (h2:c.nxt=st.nxt):AU W0 c st c st:=⟨e,h2,rfl,rfl,d,Cx.Le.refl c⟩
theorem AU.trans {c' d:Cx} {st e f:St} (h:AU W0 c st c' e) (k:AU W0 c' e d f):AU W0 c st d f:=
 ⟨k.hp,k.nxt,k.fr.trans h.fr,k.stk.trans h.stk,k.ok,h.le.trans k.le⟩
theorem Oa {cl:Bool} {dst:Option Nat} {o:dM} {st:St} {K:Nat->St->Option R} (h:alloc cl dst o st K=a6 r):
  ∃n',dQ st.hp (Ee cl st dst)=a7/\st.nxt<=Ee cl st dst/\st.nxt<=n'/\K (Ee cl st dst) {st with hp:=(Ee cl st dst,o)::st.hp,nxt:=n'}=a6 r:=by
 unfold alloc at h;split at h
 .cases h
 .rename_i e
  replace h:=dG h;obtain⟨d,h⟩:=h;have d:st.nxt<=Ee cl st dst:=by simpa using d
  grind
theorem ji {cl:Bool} {dst:Option Nat} {o:dM} {st:St} {K:Nat->St->Option R} (h:alloc cl dst o st K=a6 r):
  ∃id n',dQ st.hp id=a7/\st.nxt<=id/\st.nxt<=n'/\K id {st with hp:=(id,o)::st.hp,nxt:=n'}=a6 r:=
 let⟨n',d,e,f,g⟩:=Oa h
 ⟨_,n',d,e,f,g⟩
theorem Ae {st:St} {id:Nat} (d:c.hp=st.hp) (h2:c.nxt=st.nxt) (e:dQ st.hp id=a7) (f:st.nxt<=id): ¬c.known id:=by
 rintro (⟨o,g⟩|h)
 all_goals grind
theorem ni (w:World) (o:Obj):Below w.heap.size w (w.alloc o):=(Below.refl _ _).alloc (ae _) o
theorem Kw (f:c.Ok W0) {st:St} (g:c.hp=st.hp) (h2:c.nxt=st.nxt) {id n':Nat} (p:dQ st.hp id=a7) (q:st.nxt<=id) (y:st.nxt<=n') {cs:List bU} {vs:Array Value} (e:TypeId)
  (s: ∀c',c.Le c'->dQ c'.hp id=a6 (.box e cs)->c'.known id->(c'.mu id).blk=c.w.heap.size->bK c' cs vs.toList) (v: ∀u∈vs.toList,u.oneCell'=true):
  ∃c',AU W0 c st c' {st with hp:=(id,.box e cs)::st.hp,nxt:=n'}/\c'.w=c.w.alloc (.cells vs e)/\bW c' (.ptr id 0) (.pointer (a6 ⟨c.w.heap.size,0,a7⟩)):=by
 have hk:=Ae g h2 p q;have d:=ni c.w (.cells vs e);have hl: ∀b,dM.blk (.box e cs) ⟨c.w.heap.size,undef⟩=a6 b->c.w.heap.size<=b:=fun b d=>by
  simp_all [dM.blk]
 have i:=Cx.Le.push (o:=.box e cs) (l:=⟨c.w.heap.size,undef⟩) (nxt:=n') (w:=c.w.alloc (.cells vs e)) hk (by omega) d.size d.block hl;have j:dQ (c.push id (.box e cs) ⟨c.w.heap.size,undef⟩ n' (c.w.alloc (.cells vs e))).hp id=a6 (.box e cs):=by simp[Cx.push,eG]
 have x:(c.push id (.box e cs) ⟨c.w.heap.size,undef⟩ n' (c.w.alloc (.cells vs e))).ORel W0.heap.size id (.box e cs):=by
  refine⟨by simp[Cx.push,upd_same];exact f.size,vs, ?_,s _ i j (.inl ⟨_,j⟩) (by simp[Cx.push,upd_same]),v⟩;simp only[Cx.push,upd_same];exact heap_alloc_new c.w _
 refine⟨_,⟨?_,rfl,rfl,rfl,f.push hk (by omega) d hl x,i⟩,rfl, ?_⟩
 .simp[Cx.push,g]
 .simp only[bW];refine⟨rfl,.inl ⟨.box e cs,by assumption⟩,fun z A _=>by simp[Cx.push,upd_same]⟩
theorem ZA (d:c.Ok W0) {st:St} (f:c.hp=st.hp) (h2:c.nxt=st.nxt) {id n':Nat} (g:dQ st.hp id=a7) (i:st.nxt<=id) (j:st.nxt<=n') {cs:List bU} {vs:Array Value} (l:bK c cs vs.toList)
  (o: ∀u∈vs.toList,u.oneCell'=true) (e:TypeId):
  ∃c',AU W0 c st c' {st with hp:=(id,.box e cs)::st.hp,nxt:=n'}/\c'.w=c.w.alloc (.cells vs e)/\bW c' (.ptr id 0) (.pointer (a6 ⟨c.w.heap.size,0,a7⟩)):=
 Kw d f h2 g i j e (fun c' p _ _ _=>bK.le p _ _ l) o
theorem qm (j:c.Ok W0) {st:St} (p:c.hp=st.hp) (h2:c.nxt=st.nxt) {id n':Nat} (s:dQ st.hp id=a7) (x:st.nxt<=id) (N:st.nxt<=n') {y:Ty} (z:0<y.size) {xs:List y.den} {v:Value} {w:World}
  (f:Below c.w.heap.size c.w w) (e:TypeId) (d:List Value) (i:w.ownsRow c.w.heap.size e y.size v xs.length d) (A:fQ (eY c.w c.free y) y.size xs d) (B:v.oneCell'=true) (D:y=.int .u8->e=mP):
  ∃c',AU W0 c st c' {st with hp:=(id,.arr y 0 xs)::st.hp,nxt:=n'}/\c'.w=w/\bW c' (.slc id 0 a7) v:=by
 have hk:=Ae p h2 s x;have hl: ∀b,dM.blk (.arr y 0 xs) ⟨0,v⟩=a6 b->c.w.heap.size<=b:=fun b E=>(World.ownsRow.lt i b E).1;have q:=Cx.Le.push (o:=.arr y 0 xs) (l:=⟨0,v⟩) (nxt:=n') (w:=w) hk (by omega) f.size f.block hl;have O:w.ownsRow W0.heap.size e y.size v xs.length d:=by
  refine⟨i.1, ?_⟩;rcases i.2 with h|⟨g,G,I,J,K,L⟩
  .exact .inl h
  .exact .inr ⟨g,G,I,J,aI j.size K,L⟩
 have M:(c.push id (.arr y 0 xs) ⟨0,v⟩ n' w).ORel W0.heap.size id (.arr y 0 xs):=by
  refine⟨z,e,d, ?_,fQ.mono (eY.mono q.free y) _ _ A,D⟩;simp_all [Cx.push,upd_same]
 refine⟨_,⟨?_,rfl,rfl,rfl,j.push hk (by omega) f hl M,q⟩,rfl, ?_⟩
 .simp[Cx.push,p]
 .simp only[bW];refine⟨B,.inl ⟨.arr y 0 xs,by simp[Cx.push,eG]⟩,fun t u S h=> ?_⟩;simp_all [Cx.push,ja,upd_same]
def Ia (P:Program) (W0:World) (c:Cx) (st:St) (o:Oper) (a:Act) (K:bU->St->Option R) (r:R):Prop:=
 ∃z u d e,K z e=a6 r/\AU W0 c st d e/\bW d z u/\((execOp a.eval o).run P c.w=.ok (.value u) d.w\/((execOp a.eval o).run P c.w=.ok .skip d.w/\u=undef))
theorem qi {st:St} {o:Oper} {a:Act} {K:bU->St->Option R} {s:Sem Value} {z:bU} {u:Value} {c':Cx} {d:St} (g:execOp a.eval o=(do pure (Next.value (<-s)))) (e:K z d=a6 r) (h2:AU W0 c st c' d) (f:bW c' z u)
  (i:s.run P c.w=.ok u c'.w):Ia P W0 c st o a K r:=⟨z,u,c',d,e,h2,f,.inl (by simp_all)⟩
theorem azB (hT:TOk P T) (A:c.Ok W0) {cl:Bool} {call:gI R} {o:Oper} {st:St} {a:Act} {K:bU->St->Option R} (B:c.hp=st.hp) (D:c.nxt=st.nxt) (O:o.op=.alloc t)
  (h:eH T cl call o st K=a6 r):Ia P W0 c st o a K r:=by
 obtain⟨S,op,W,X,Y,Z⟩:=o;simp only at O;subst O;simp only[eH]at h;replace h:=dG h;obtain⟨hk,h⟩:=h;obtain⟨i,z,hi,aj,ak,hz,s,f⟩:=hT.info hk;have f: ∀u∈z.cells.toList,u.oneCell'=true:=fun u hu=>List.all_eq_true.1 f u hu;have ab:(Instr.alloc t true (.tuple #[])).run P c.w=.ok (.pointer (a6 ⟨c.w.heap.size,0,a7⟩)) (c.w.alloc (.cells z.cells t)):=by
  simp[Instr.alloc,zeroValue,typeInfo,hi,hz,newVar,newRow]
 have plain:(alloc cl S (.box t (T.at t).zero) st fun id st=>K (.ptr id 0) st)=a6 r->Ia P W0 c st ⟨S,.alloc t,W,X,Y,Z⟩ a K r:=fun h=>by
  obtain⟨id,U,g,j,l,p⟩:=ji h;obtain⟨c',e,q,x⟩:=ZA A B D g j l (cs:=(T.at t).zero) (vs:=z.cells) (by grind [sV]) f t;exact qi rfl p e x (by rw[q];exact ab)
 split at h
 .rename_i et ad E
  split at h
  .rename_i y hy
   replace h:=dG h;obtain⟨G,h⟩:=h;have G:0<y.size:=by simpa [PD] using G
   obtain⟨I,n1,g,j,l,p⟩:=ji h;have V:z.cells.toList=[.slice a7 0 0]:=by
    rw[E]at s
    match hq:z.cells.toList,s with
    |[v],d=>
     simp only[au,aU,List.cons.injEq,and_true]at d;unfold vZ at d
     grind
    |[],d=>simp at d
    |_::_::_,d=>simp at d
   obtain⟨c1,e,q,x⟩:=qm A B D g j l G (xs:=[]) (Below.refl _ _) (if y=.int .u8 then mP else et) [] (World.ownsRow_nil _ _ _ _) (by simp[fQ]) (v:=.slice a7 0 0) rfl (fun h=>by simp[h]);obtain⟨id,U,J,L,M,N⟩:=ji p;obtain⟨c2,g1,g2,g3⟩:=ZA e.ok e.hp e.nxt J L M (cs:=[.slc I 0 a7]) (vs:=z.cells) (by simp_all [bK]) f t;rw[q]at g3;refine qi rfl N (e.trans g1) g3 ?_;simp_all
  .exact plain h
 .rename_i fs ad E
  rw[cond_eq_ite]at h;split at h
  .obtain⟨I,n1,g,j,l,p⟩:=ji h;have V:z.cells.toList=[.pointer a7,.slice a7 0 0]:=by
    rw[E]at s
    match hq:z.cells.toList,s with
    |[v,v'],d=>
     simp only[au,aU,List.cons.injEq,and_true]at d;obtain⟨af,ag⟩:=d;have q1:v=.pointer a7:=by
      unfold vZ at af
      grind
     have q2:v'=.slice a7 0 0:=by
      unfold vZ at ag
      grind
     rw[q1,q2]
    |[],d=>simp at d
    |[_],d=>simp at d
    |_::_::_::_,d=>simp at d
   obtain⟨c1,e,q,x⟩:=qm A B D g j l (y:=.int .u8) (by simp[Ty.size]) (xs:=[]) (Below.refl _ _) mP [] (World.ownsRow_nil _ _ _ _) (by simp[fQ]) (v:=.slice a7 0 0) rfl (fun _=>rfl);obtain⟨U,J,L,M,N⟩:=Oa p;obtain⟨c2,g1,g2,g3⟩:=Kw e.ok e.hp e.nxt J L M (cs:=[.slf _,.slc I 0 a7]) (vs:=z.cells) t (fun c' ah hg ai al=>by
    rw[V];simp only[bK,bW];refine⟨⟨rfl,ai,fun _ _ _=>.inl trivial⟩, ?_,trivial⟩;have:=bW.le ah _ _ x
    assumption) f
   rw[q]at g3;refine qi rfl N (e.trans g1) g3 ?_;simp_all
  .exact plain h
 .exact plain h
theorem aJD (hT:TOk P T) (e:c.Ok W0) {cl:Bool} {call:gI R} {o:Oper} {st:St} {a:Act} {K:bU->St->Option R} {x:Operand} (f:c.hp=st.hp) (g:c.nxt=st.nxt) (i:bK c st.fr a.tmps.toList) (d:o.op=.box t x)
  (h:eH T cl call o st K=a6 r):Ia P W0 c st o a K r:=by
 obtain⟨B,D,E,G,I,J⟩:=o;simp only at d;subst d;simp only[eH]at h;split at h
 .rename_i L j
  replace h:=dG h;obtain⟨hk,h⟩:=h;obtain⟨id,M,l,p,q,s⟩:=ji h;obtain⟨u,v⟩:=LK j (dU i x);obtain⟨N,y,z,A⟩:=ZA e f g l p q u v t;refine qi rfl s y A ?_;rw[z];rfl
 .cases h
theorem aDy {hp:gQ} {y:Ty} {v:bU} {x:y.den} (h:v.as [] y=a6 x) {u:Value} (d:bW c v u):eY c.w c.free y x u.cells.toList:=by
 cases v with
 |val t' z=>
  simp only[bU.as]at h;have e:=iq h;subst e;rw[gp]at h;cases h;simp only[bW]at d;exact d.cells
 |nils=>
  simp only[bW]at d;subst d;cases y<;>simp only[bU.as,reduceCtorEq]at h;cases h;exact⟨a7,0,[],rfl,by simp,rfl,.inl rfl⟩
 |lst t' z b=>
  simp only[bU.as]at h;have e:=iq h;subst e;rw[gp]at h;cases h;simp only[bW]at d;exact d.1.cells
 |emp=>
  simp only[bW]at d;obtain⟨a,rfl⟩:=d;cases y<;>simp only[bU.as,reduceCtorEq]at h;cases h;exact⟨a,0,[],rfl,by simp,rfl,.inl rfl⟩
 |slc id ver g=>cases y<;>simp_all [bU.as,Bf,dQ]
 |agg l=>
  simp only[bU.as]at h;replace h:=dG h;simp only[bW]at d;obtain⟨i,rfl,f,_⟩:=d;exact nV h.2 f
 |_=>simp[bU.as]at h
theorem fQ.replicate {e:Type} {Q:e->List Value->Prop} {size:Nat} {x:e} {d:List Value} (hd:d.length=size) (hx:Q x d): ∀n,fQ Q size (List.replicate n x) (List.replicate n d).flatten
 |0=>by simp[fQ]
 |n+1=>⟨d,(List.replicate n d).flatten,by rfl,hd,hx,fQ.replicate hd hx n⟩
theorem Eb (d:Array Value): ∀n,(madeCells d (n*d.size)).toList=(List.replicate n d.toList).flatten:=by
 intro n;by_cases h0:d.size=0
 .simp_all [madeCells]
 apply List.ext_getElem?;intro j;have f:(List.replicate n d.toList).flatten.length=n*d.size:=by simp
 by_cases e:j<n*d.size
 .have g: ∀n j,j<n*d.size->(List.replicate n d.toList).flatten[j]? =d.toList[j %d.size]? :=by
   intro n
   induction n with
   |zero=>omega
   |succ n i=>
    intro j e;rw[List.replicate_succ,List.flatten_cons]
    grind [Nat.mod_eq_of_lt,List.getElem?_append_right,Nat.mod_eq_sub_mod]
  grind [madeCells]
 simp_all [madeCells]
theorem Xn {e:Ty} (place:Nat->Option (Nat×Nat)) (y: ∀i,place i=a6 (i*e.size,e.size)): ∀(j:List (Nat×bU)) (us:List (Nat×Value)) (xs f:List e.den) (g:List Value),JE e xs j=a6 f->fQ (eY c.w c.free e) e.size xs g->
   us.map (·.1)=j.map (·.1)->bK c (j.map (·.2)) (us.map (·.2))-> ∃l,Instr.fill place g.toArray us=a6 l.toArray/\fQ (eY c.w c.free e) e.size f l/\f.length=xs.length
 |[],us,xs,f,g,h,o,d,_=>by
  simp only[JE,Option.some.injEq]at h;subst h;cases us with
  |nil=>exact⟨g,rfl,o,rfl⟩
  |cons=>simp at d
 |(i,v)::j,us,xs,f,g,h,o,d,s=>by
  cases us with
  |nil=>simp at d
  |cons u us=>
   obtain⟨p,u⟩:=u;simp only[au,List.cons.injEq]at d;obtain⟨rfl,d⟩:=d;simp only[au,bK]at s;simp only[JE]at h;split at h
   .rename_i x E
    replace h:=dG h;obtain⟨q,h⟩:=h;have q:p<xs.length:=by simpa [PD] using q
    have hd:=aDy (hp:=[]) E s.1;have z:=eY.length _ _ _ hd;obtain⟨A,G,L,B,D,I,J⟩:=fQ.at_ p xs g q o;subst I;have K:=fQ.set x u.cells.toList z hd p xs B A D q o J G;obtain⟨l,g1,g2,g3⟩:=Xn place y j us _ f _ h K d s.2;refine⟨l, ?_,g2,by rw[g3];simp⟩;rw[<-g1];simp only[Instr.fill,y];have M:u.cells.size=e.size:=by simpa using z
    rw[aq (by simp_all)];congr 1;have:=JM (p*e.size) u.cells (B++A++D) (by simp;omega)
    grind
   .cases h
end
end
section
open Option renaming some → a6, none → a7
open Bool renaming and_eq_true → af
open List renaming take_of_length_le → bD
open Nat renaming le_refl → ae, le_mul_of_pos_right → bH
open Go.RowKit
section
variable {P:Program} {T:TT} {W0:World} {c:Cx} {R:Type} {r:R} {t:TypeId}
theorem pG (hT:TOk P T) {n:Nat} {d:TypeId} (e:(T.at t).k=.slice d) (h:T.rowOf t n=true):P.underlying t=a6 (.slice d)/\(T.at d).known=true/\(T.at d).size=n/\0<n/\0<(T.at d).bytes:=by
 grind [lI]
theorem Ya (hT:TOk P T) {f:TypeId} (hk:(T.at f).known=true) {e:Ty} {d:e.den} (hd:Hm e (T.at f).zero=a6 d):
  ∃i z,P.info? f=a6 i/\i.zero=a6 z/\i.size=(T.at f).size/\i.bytes=(T.at f).bytes/\eY c.w c.free e d z.cells.toList:=by
 obtain⟨i,z,g,j,l,o,p,q⟩:=hT.info hk
 grind [nV,sV]
theorem ae4 (w:World) (d:List Value) (e:TypeId) (size n:Nat) (hl:d.length=n*size) (f:n<=maxLen):
  (w.alloc (.cells d.toArray e)).ownsRow w.heap.size e size (.slice (a6 ⟨w.heap.size,0,a7⟩) n n) n d:=
 ⟨hl,.inr ⟨w.heap.size,n,d.toArray,rfl,ae _,heap_alloc_new w _,ae _,f,by simpa using hl,by simp[<-hl]⟩⟩
theorem Zh (hT:TOk P T) (E:c.Ok W0) {cl:Bool} {call:gI R} {o:Oper} {st:St} {a:Act} {K:bU->St->Option R} {n:Nat} {f:Array (Nat×Operand)} (G:c.hp=st.hp) (I:c.nxt=st.nxt) (J:bK c st.fr a.tmps.toList)
  (l:o.op=.buildSlice t n f) (h:eH T cl call o st K=a6 r):Ia P W0 c st o a K r:=by
 obtain⟨ah,op,ty,ai,aj,ak⟩:=o;simp only at l;subst l;simp only[eH]at h;split at h
 .rename_i g L
  split at h
  .rename_i e M
   split at h
   .rename_i d hd
    replace h:=dG h;obtain⟨q,h⟩:=h;simp only[af,leN,decide_eq_true_eq]at q;obtain⟨s,hk,N,u,_⟩:=pG hT L q.1;split at h
    .rename_i xs O
     obtain⟨id,n',S,U,V,W⟩:=ji h;obtain⟨i,z,X,Y,al,_,v⟩:=Ya (c:=c) hT hk hd;have x:=eY.length _ _ _ v;have Z:z.cells.size=e.size:=by simpa using x
     have ab:=fQ.replicate (Q:=eY c.w c.free e) x v n;obtain⟨j,g1,g2,g3⟩:=Xn (c:=c) (fun i=>a6 (i*e.size,e.size)) (fun _=>rfl) _ (f.toList.map fun p=>(p.1,a.eval p.2)) _ _ _ O ab (by simp) (by
      simp only[List.map_map,Function.comp_def];have:=bK.map_eval (c:=c) J (f.toList.map (·.2));simp_all [Function.comp_def])
     have y:xs.length=n:=by rw[g3];simp
     have A:=fQ.length _ _ g2;rw[y]at A;have an:n<=n*e.size:=bH n u;have B:=ae4 c.w j g e.size n A (by simp only[maxLen];omega);rw[<-y]at B;obtain⟨c',d1,d2,d3⟩:=qm E G I S U V u (ni c.w (.cells j.toArray g)) g j B g2 rfl (fun h=>hT.byte hk (by rw[M,h]));refine qi rfl W d1 d3 ?_;rw[d2];have D:(sizeOf g).run P c.w=.ok e.size c.w:=by rw[hT.sizeOf hk,N]
     have ao:(zeroValue g).run P c.w=.ok z c.w:=by simp[zeroValue,typeInfo,X,Y]
     have au:n*e.size<=2^24:=by omega
     have ad:Instr.fill (fun i=>a6 (i*e.size,e.size)) ((Array.range (n*e.size)).map (z.cells[· %z.cells.size]!)) (Array.map (fun p=>(p.1,a.eval p.2)) f).toList=a6 j.toArray:=by
      rw[<-g1];have:=Eb z.cells n;rw[Z]at this;have h3:(Array.range (n*e.size)).map (z.cells[· %z.cells.size]!)=(List.replicate n z.cells.toList).flatten.toArray:=by
       apply Array.ext';rw[<-this];rfl
      rw[h3];simp
     by_cases h0:n*e.size=0
     .have ag:n=0:=by
       omega
      subst ag;simp only[Instr.buildSlice,Sem.run_bind,run_underlying s,Result.andThen_ok,D,Sem.run_ite,Nat.zero_mul,if_true,Sem.run_pure];simp only[Nat.zero_mul]at ad;rw[aq (by omega)];have av:Instr.fill (fun i=>a6 (i*e.size,e.size)) ((Array.range 0).map ((#[]:Array Value)[· %(#[]:Array Value).size]!)) (Array.map (fun p=>(p.1,a.eval p.2)) f).toList=a6 j.toArray:=by
       grind
      simp_all [newRow]
     .simp only[Instr.buildSlice,Sem.run_bind,run_underlying s,Result.andThen_ok,D,Sem.run_ite];simp_all [newRow]
    .cases h
   .cases h
  .cases h
 .cases h
theorem aem (hT:TOk P T) (y:c.Ok W0) {cl:Bool} {call:gI R} {o:Oper} {st:St} {a:Act} {K:bU->St->Option R} {l cp:Operand} (A:c.hp=st.hp) (B:c.nxt=st.nxt) (p:bK c st.fr a.tmps.toList)
  (q:o.op=.makeSlice t l cp) (h:eH T cl call o st K=a6 r):Ia P W0 c st o a K r:=by
 obtain⟨aj,op,ty,ak,al,an⟩:=o;simp only at q;subst q;simp only[eH]at h;split at h
 .rename_i g D
  split at h
  .rename_i e ln f E hl G
   split at h
   .rename_i d hd
    replace h:=gG h;obtain⟨s,h⟩:=h;simp only[af,decide_eq_true_eq]at s;obtain⟨I,J,L,b3⟩:=s;obtain⟨M,hk,N,O,S⟩:=pG hT D I;obtain⟨id,n',U,V,W,X⟩:=ji h;obtain⟨i,z,Y,Z,ab,ao,u⟩:=Ya (c:=c) hT hk hd;have v:=eY.length _ _ _ u;have j:z.cells.size=e.size:=by simpa using v
    have ad:=fQ.replicate (Q:=eY c.w c.free e) v u ln.toNat;obtain⟨k,r1⟩:=qU hl (dU p l);obtain⟨k',r2⟩:=qU G (dU p cp);have au:f.toNat<=f.toNat*(T.at g).bytes:=bH _ S;have av:f.toNat<=140737488355328:=by grind [kZ]
    have ag:f<=9223372036854775807:=by omega
    have ah:(i.bytes:Int)*f<=281474976710656:=by
     grind [kZ]
    have aw:=run_make (P:=P) c.w t g i z M Y Z k k' ln f J L ah ag;have x:=Eb z.cells f.toNat;rw[j]at x;have ax:((List.replicate f.toNat z.cells.toList).flatten).length=f.toNat*e.size:=by simp[j]
    have ai:(c.w.alloc (.cells (madeCells z.cells (f.toNat*i.size)) g)).ownsRow c.w.heap.size g e.size (.slice (a6 ⟨c.w.heap.size,0,a7⟩) ln.toNat f.toNat) (List.replicate ln.toNat d).length (List.replicate ln.toNat z.cells.toList).flatten:=by
     refine⟨by simp[j],.inr ⟨c.w.heap.size,f.toNat,madeCells z.cells (f.toNat*i.size),by simp,ae _,heap_alloc_new _ _,by simp;omega,by simp only[maxLen];omega, ?_, ?_⟩⟩
     .grind
     .rw[ab,N,x];have:f.toNat=ln.toNat+(f.toNat-ln.toNat):=by omega
      rw[this,<-List.replicate_append_replicate,List.flatten_append];rw[List.take_append];simp[j];rw[bD (by simp[j])]
    obtain⟨c',d1,d2,d3⟩:=qm y A B U V W O (ni c.w _) g _ ai ad rfl (fun h=>hT.byte hk (by rw[E,h]));refine qi rfl X d1 d3 ?_;simp_all
   .cases h
  .cases h
 .cases h
end
end
section
open Option renaming some → a6, none → a7
open List renaming length_append → aj, nil_append → aF, eq_nil_of_length_eq_zero → bG
open Nat renaming le_refl → ae
open Go.RowKit
section
variable {P:Program} {T:TT} {W0:World} {c:Cx} {R:Type} {r:R} {t:TypeId}
theorem ZK {w:World} {B:Nat} {e:TypeId} {size n cap g:Nat} {f:List Value} (h:w.ownsRow B e size (.slice (a6 ⟨g,0,a7⟩) n cap) n f) {k:Nat} (hk:k<=n):
  w.ownsRow B e size (.slice (a6 ⟨g,0,a7⟩) k cap) k (f.take (k*size)):=by
 have hl:=h.1;have q:=Nat.mul_le_mul_right size hk;refine⟨by simp;omega,.inr ?_⟩;rcases h.2 with ⟨d,_⟩|⟨s,u,i,d,j,l,v,o,p,x⟩
 .cases d
 .cases d;refine⟨g,cap,i,rfl,j,l,by omega,o,p, ?_⟩
  grind
theorem Ie {d:TypeId} (y:P.underlying t=a6 (.slice d)) {w:World} {B:Nat} {i:TypeInfo} {z:Value} {size W:Nat} (hi:P.info? d=a6 i) (G:i.zero=a6 z) (ab:i.size=size) (ad:i.bytes=W)
  (I:z.cells.size=size) (J:0<size) {f:TypeId} {v:Value} {n:Nat} {p:List Value} (l:w.ownsRow B f size v n p) {a:Option Addr} {m cp:Nat} {news:List Value} (hl:news.length=m*size) (K: ∀u∈news,u.oneCell'=true)
  (af:news=[]\/ ∃b off,a=a6 ⟨b,off,a7⟩/\gW w b off news) (L:n+m<=maxLen) (M:(n+m)*W<=140737488355328) (N:B<=w.heap.size) (ty:TypeId):
  ∃o w' s,(Builtin.append_ #[t,t] ty #[v,.slice a m cp]).run P w=.ok o w'/\w'.ownsRow B s size o (n+m) (p++news)/\w.grownBy w' v.ownBlock/\(o.ownBlock=v.ownBlock\/o.ownBlock=a6 w.heap.size)/\o.oneCell'=true/\(s=f\/s=d):=by
 by_cases hm:m=0
 .subst hm;have hn:news=[]:=bG (by simpa using hl);subst hn;obtain⟨O,X,x,ag,_⟩:=qE l;refine⟨v,w,f, ?_,by simpa using l,⟨rfl,rfl,rfl,ae _,fun _ _ _=>rfl⟩,.inl rfl,by rw[x];rfl,.inl rfl⟩;rw[x];cases a<;>cases O<;>simp[Builtin.append_,run_underlying y,sizeOf,typeInfo,hi,Builtin.lenOf,Builtin.firstCells,loadCells,loadCellsFrom,ag,storeCells]
 .have ah:news≠[]:=by
   intro h0;rw[h0]at hl;have:=Nat.mul_pos (Nat.pos_of_ne_zero hm) J;simp at hl;omega
  obtain⟨b,off,rfl,hc⟩:=af.resolve_left ah;have E: ∀j u,news[j]? =a6 u->w.cell? ((⟨b,off,a7⟩:Addr).add j)=a6 u:=fun j u hj=>by
   obtain⟨ai,ak⟩:=List.getElem?_eq_some_iff.1 hj;rw[kC,hc j ai,ak]
  subst ab;subst ad;by_cases he:f=d
  .subst he;obtain⟨o,w',s,A,S,_,U⟩:=run_append_own_at (P:=P) w B t ty f i z i.size i.bytes y hi G rfl rfl I J v n p l ⟨b,off,a7⟩ m cp news hl E K L M N;obtain⟨O,X,x,_⟩:=qE A;exact⟨o,w',f,s,A,S,U,by rw[x];rfl,.inl rfl⟩
  .
   rcases l.2 with ⟨rfl,rfl⟩|⟨g,q,D,rfl,al,Y,ay,an,ao,az⟩
   .have hx:p=[]:=bG (by simpa using l.1);subst hx;obtain⟨o,w',s,A,S,_,U⟩:=run_append_own_at (P:=P) w B t ty d i z i.size i.bytes y hi G rfl rfl I J (.slice a7 0 0) 0 [] (World.ownsRow_nil _ _ _ _) ⟨b,off,a7⟩ m cp news hl E K L M N;obtain⟨O,X,x,_⟩:=qE A;exact⟨o,w',d,s,A,S,U,by rw[x];rfl,.inr rfl⟩
   .by_cases hroom:n+m<=q
    .have au:n*i.size+news.length<=D.size:=by rw[hl,ao,<-Nat.add_mul];exact Nat.mul_le_mul_right _ hroom
     have hf:=run_firstCells_some (P:=P) w i.size m ⟨b,off,a7⟩ m cp news hl E;have Z:=run_storeCells_at P g (n*i.size) f news 0 D w Y (by simpa using au) K;simp only[Nat.add_zero]at Z;have hr:(Builtin.append_ #[t,t] ty #[.slice (a6 ⟨g,0,a7⟩) n q,.slice (a6 ⟨b,off,a7⟩) m cp]).run P w=
       .ok (.slice (a6 ⟨g,0,a7⟩) (n+m) q) (w.setRow g (D.toList.take (n*i.size)++news++D.toList.drop (n*i.size+news.length)).toArray):=by
      simp[Builtin.append_,run_underlying y,sizeOf,typeInfo,hi,Builtin.lenOf,hroom,hf,Addr.add_lit,Z]
     have V:(p++news).length=(n+m)*i.size:=by grind
     refine⟨_,_,f,hr,⟨V,.inr ⟨g,q,_,rfl,al,setRow_heap w g D _ f _ Y,hroom,an, ?_, ?_⟩⟩,⟨rfl,rfl,rfl,by simp,fun k _ hk=>setRow_other w g k _ (fun e=>hk (by simp[Value.ownBlock,e]))⟩,Or.inl rfl,rfl,.inl rfl⟩
     all_goals grind
    .have holds: ∀j u,p[j]? =a6 u->w.cell? ((⟨g,0,a7⟩:Addr).add j)=a6 u:=l.cells (g:=g) rfl;have hr:=run_append_grow (P:=P) w t ty d i z y hi G ⟨g,0,a7⟩ n q p l.1 holds ⟨b,off,a7⟩ m cp news hl E (by omega) (by grind [maxLen]) (growslice_fits (by omega) M);have aw:=grownCap_ge w (n+m) q d;have ax:grownCap w (n+m) q d<=maxLen:=grownCap_le_maxLen w (n+m) q d L;have V:(p++news).length=(n+m)*i.size:=by rw[aj,l.1,hl,Nat.add_mul]
     refine⟨_,_,d,hr,⟨V,.inr ⟨w.heap.size,_,_,rfl,N,heap_alloc_new w.drew _,aw,ax, ?_, ?_⟩⟩,⟨rfl,rfl,rfl,by simp,fun k hk _=>Below.heap_alloc w.drew _ k hk⟩,Or.inr rfl,rfl,.inr rfl⟩
     .simp only[Array.size_append,List.size_toArray,size_zeroCells,I,l.1,hl,<-Nat.add_mul];simp_all
     grind
theorem af7 (hT:TOk P T) {d:TypeId} (o:P.underlying t=a6 (.slice d)) {w:World} {i:TypeInfo} {z:Value} {size p:Nat} (hi:P.info? d=a6 i) (q:i.zero=a6 z) (A:i.size=size) (B:i.bytes=p)
  (D:z.cells.size=size) (E:0<size) {av:Option Addr} {b off m cp:Nat} {news:List Value} (hl:news.length=m*size) (G: ∀u∈news,u.oneCell'=true)
  (I:gW w b off news) (O:0<m) (S:m<=maxLen) (U:m*p<=140737488355328) (ty:TypeId):
  ∃e w' g,(Builtin.append_ #[t,t] ty #[.slice av 0 0,.slice (a6 ⟨b,off,a7⟩) m cp]).run P w=.ok e w'/\w'.ownsRow w.heap.size g size e m news/\Below w.heap.size w w'/\e.oneCell'=true/\g=d:=by
 have s: ∀j u,news[j]? =a6 u->w.cell? ((⟨b,off,a7⟩:Addr).add j)=a6 u:=fun j u J=>by
  obtain⟨K,L⟩:=List.getElem?_eq_some_iff.1 J;rw[kC,I j K,L]
 subst A;subst B;cases av with
 |none=>
  obtain⟨e,w',g,l,f,_,V⟩:=run_append_own_at (P:=P) w w.heap.size t ty d i z i.size i.bytes o hi q rfl rfl D E (.slice a7 0 0) 0 [] (World.ownsRow_nil _ _ _ _) ⟨b,off,a7⟩ m cp news hl s G (by omega) (by simp_all) (ae _);obtain⟨av,W,M,_⟩:=qE l;rw[Nat.zero_add,aF]at l;exact⟨e,w',d,g,l,⟨f.os,f.tape,f.output,f.size,fun k hk=>f.block k hk (by simp[Value.ownBlock])⟩,by rw[M];rfl,rfl⟩
 |some N=>
  have hr:=run_append_grow (P:=P) w t ty d i z o hi q N 0 0 [] (by simp) (fun j v h=>by simp at h) ⟨b,off,a7⟩ m cp news hl s (by omega) (by grind [maxLen]) (growslice_fits (by omega) (by simp_all));have x:=grownCap_ge w (0+m) 0 d;have y:grownCap w (0+m) 0 d<=maxLen:=grownCap_le_maxLen w (0+m) 0 d (by omega);simp only[Nat.zero_add]at hr x y;refine⟨_,_,d,hr, ?_, ?_,rfl,rfl⟩
  .refine⟨hl,.inr ⟨w.heap.size,_,_,rfl,ae _,heap_alloc_new w.drew _,x,y, ?_, ?_⟩⟩
   .have:=Nat.add_mul m (grownCap w m 0 d-m) i.size;simp_all [size_zeroCells]
   simp_all
  .exact⟨rfl,rfl,rfl,by simp,fun k hk=>Below.heap_alloc w.drew _ k hk⟩
theorem Q4 {u d:TypeId} (o:P.underlying t=a6 (.slice d)) (p:P.underlying u=a6 .string) {w:World} {B:Nat} {i:TypeInfo} (hi:P.info? d=a6 i) (x:i.zero=a6 (.int .u8 0)) (A:i.size=1) (y:i.bytes=1)
  {v:Value} {n:Nat} {l:List Value} (q:w.ownsRow B d 1 v n l) (s:ByteArray) (E:n+s.size<=140737488355328) (G:B<=w.heap.size) (ty:TypeId):
  ∃e w',(Builtin.append_ #[t,u] ty #[v,.string s]).run P w=.ok e w'/\w'.ownsRow B d 1 e (n+s.size) (l++Lib.strCells s)/\w.grownBy w' v.ownBlock/\(e.ownBlock=v.ownBlock\/e.ownBlock=a6 w.heap.size)/\e.oneCell'=true:=by
 obtain⟨e,w',f,D,I,M⟩:=Lib.run_append_own_string (P:=P) w B t u ty d i o p hi x A y v n l q s (by simp only[maxLen];omega) E G;obtain⟨N,O,J,_⟩:=qE D;refine⟨e,w',f,D,I, ?_,by rw[J];rfl⟩;have S:l.length=n:=by simpa using q.1
 rcases q.2 with ⟨rfl,rfl⟩|⟨g,z,K,rfl,U,L,V,W,X,Y⟩
 .by_cases hm:s.size=0
  .simp_all
  .right;have hr:=run_append_nil_string (P:=P) w t u ty d i (.int .u8 0) o p hi x s (by omega) (by omega) (by rw[y];omega);rw[hr]at f;cases f;rfl
 .by_cases hroom:n+s.size<=z
  .left;have hr:=Lib.run_append_room_string (P:=P) w t u ty d i o p hi A g n z K L s hroom (by omega);rw[hr]at f;cases f;rfl
  .right;have holds: ∀j u,l[j]? =a6 u->w.cell? ((⟨g,0,a7⟩:Addr).add j)=a6 u:=q.cells (g:=g) rfl;have hr:=Lib.run_append_grow_string (P:=P) w t u ty d i (.int .u8 0) o p hi x ⟨g,0,a7⟩ n z l (by simp_all) holds s (by omega) (by omega) (by rw[y];exact growslice_fits (by omega) (by omega));rw[hr]at f;cases f;rfl
end
end
section
open Option renaming some → a6, none → a7
open Bool renaming and_eq_true → af
open List renaming length_append → aj, map_cons → au, nil_append → aF, map_nil → aU
open Nat renaming le_refl → ae, eq_of_beq_eq_true → ah, le_mul_of_pos_right → bH
open Go.RowKit
section
variable {P:Program} {T:TT} {W0:World} {c:Cx} {R:Type} {r:R} {t:TypeId}
theorem qQ {d:Type} {l:List d} {b:Nat} (h:dY l b=true):l.length*b<=140737488355328:=by
 unfold dY kZ at h;simp_all
theorem fQ.one {w:World} {fr:Nat->Prop} {e:Ty}: ∀(xs:List e.den) (g:List Value),fQ (eY w fr e) e.size xs g-> ∀u∈g,u.oneCell'=true
 |[],_,h=>by cases h;simp
 |y::i,_,⟨d,j,l,q,o,p⟩=>by
  subst l;intro u f;rcases List.mem_append.1 f with f|f
  .exact eY.one _ _ _ o u f
  .exact fQ.one i j p u f
theorem alC (g:c.Ok W0) {st:St} (A:c.hp=st.hp) (B:c.nxt=st.nxt) {e:Ty} (D:0<e.size) {id d:Nat} {xs:List e.den} (i:dQ c.hp id=a6 (.arr e d xs)) {f:Value} {w':World} {o:TypeId} {ws:List e.den} {p:List Value}
  (N:w'.ownsRow W0.heap.size o e.size f ws.length p) (q:fQ (eY c.w c.free e) e.size ws p) (l:c.w.grownBy w' (c.mu id).v.ownBlock) (E: ∀b,(c.mu id).v.ownBlock=a6 b->W0.heap.size<=b)
  (O:f.ownBlock=(c.mu id).v.ownBlock\/f.ownBlock=a6 c.w.heap.size) (G:f.oneCell'=true) (I:e=.int .u8->o=mP):
  ∃c',AU W0 c st c' {st with hp:=iU st.hp id (.arr e (d+1) ws)}/\c'.w=w'/\bW c' (.slc id (d+1) a7) f:=by
 have J:Below W0.heap.size W0 w':=g.bel.grown l g.size E;have s:(dM.arr e d xs).like (c.mu id) (.arr e (d+1) ws) ⟨0,f⟩:=⟨by omega,fun h=>by omega⟩;have u: ∀b,b<c.w.heap.size->(dM.arr e d xs).blk (c.mu id)≠a6 b->w'.heap[b]? =c.w.heap[b]? :=fun b j S=>l.block b j (by
  grind [dM.blk])
 have x: ∀b,(dM.arr e (d+1) ws).blk ⟨0,f⟩=a6 b->(dM.arr e d xs).blk (c.mu id)=a6 b\/c.w.heap.size<=b:=fun b j=>by
  simp only[dM.blk]at j ⊢
  grind
 have y: ∀(b:Nat) (L:Loop),(dM.arr e d xs).blk (c.mu id)=a6 b->c.w.heap[b]? =a6 (Obj.loop L)-> ∃K:Loop,w'.heap[b]? =a6 (Obj.loop K):=fun b L j q=>absurd q ((g.obj id _ i).no_loop (by simp) j);have z:=Cx.Le.put (w:=w') g i s l.size u x y;refine⟨c.put id (.arr e (d+1) ws) ⟨0,f⟩ w',⟨by simp[Cx.put,A],B,rfl,rfl,g.put i s J l.size u x y ?_,z⟩,rfl, ?_⟩
 .refine⟨D,o,p, ?_,fQ.mono (eY.mono z.free e) _ _ q,I⟩;simp_all [Cx.put,upd_same]
 .simp only[bW];refine⟨G,.inl ⟨_,Cx.put_get i⟩,fun U V W M=> ?_⟩;rw[Cx.put_get i]at M;simp_all [ja,Cx.put,upd_same]
theorem Q3 (hT:TOk P T) (o:c.Ok W0) {st:St} (J:c.hp=st.hp) (K:c.nxt=st.nxt) {f:TypeId} (L:P.underlying t=a6 (.slice f)) (hk:(T.at f).known=true) {e:Ty} (j:(T.at f).size=e.size) (M:0<e.size) (N:0<(T.at f).bytes)
  {id p:Nat} {xs:List e.den} (y:dQ c.hp id=a6 (.arr e p xs)) {v:Value} {k cp:Nat} {g:Option Addr} (A:(c.mu id).v=.slice g xs.length cp) (az:k<=xs.length) (O:v=.slice g k cp)
  {d:List e.den} {a:Option Addr} {m:Nat} {s:List Value} (u:fQ (eY c.w c.free e) e.size d s) (S:s=[]\/ ∃b off,a=a6 ⟨b,off,a7⟩/\b<c.w.heap.size/\gW c.w b off s)
  (aA:((xs.take k++d).length)*(T.at f).bytes<=140737488355328) (ty:TypeId) (U:e=.int .u8->f=mP):
  ∃c' x,AU W0 c st c' {st with hp:=iU st.hp id (.arr e (p+1) (xs.take k++d))}/\(Builtin.append_ #[t,t] ty #[v,.slice a d.length m]).run P c.w=.ok x c'.w/\bW c' (.slc id (p+1) a7) x:=by
 obtain⟨_,V,W,B,X,Y⟩:=o.obj id _ y;obtain⟨i,z,Z,ab,ad,hz,ag,aB⟩:=hT.info hk;have ai:z.cells.size=e.size:=by
  have:=congrArg List.length ag;rw[hT.zlen hk,j]at this;simpa using this
 have ak:=fQ.take k _ _ X;have al:=fQ.length _ _ u;have an:=fQ.one _ _ u;have aG:(xs.take k).length=k:=by simp;omega
 have D:c.w.ownsRow W0.heap.size V e.size v k (W.take (k*e.size)):=by
  rw[A]at B;rcases B.2 with ⟨l,e2⟩|⟨g',aH,aI,l,_⟩
  .simp only[Value.slice.injEq]at l;obtain⟨rfl,_,rfl⟩:=l;simp_all [World.ownsRow_nil]
  grind [ZK]
 have ao:k+d.length<=maxLen:=by
  have h2:k+d.length<=(k+d.length)*(T.at f).bytes:=bH _ N
  grind [maxLen]
 obtain⟨x,w',l,hr,av,E,G,aw,ax⟩:=Ie L Z hz ab ad (by rw[ai,j]) (by omega) (by rw[j];exact D) (a:=a) (cp:=m) (by rw[j];exact al) an (S.imp (fun h=>h) fun⟨b,off,q1,_,q3⟩=>⟨b,off,q1,q3⟩) ao
  (by simp_all) o.size ty
 rw[j]at av;have I:v.ownBlock=(c.mu id).v.ownBlock:=by rw[A,O];cases g<;>rfl
 have ay: ∀b,(c.mu id).v.ownBlock=a6 b->W0.heap.size<=b:=fun b hb=>(World.ownsRow.lt D b (I.trans hb)).1;rw[I]at E G;obtain⟨c',d1,d2,d3⟩:=alC o J K M y (ws:=xs.take k++d) (by simp_all) (fQ.append _ _ _ _ ak u) E ay G aw (fun h=>ax.elim (fun q=>q.trans (Y h)) fun q=>q.trans (U h))
 grind
theorem Ls {w:World} {fr:Nat->Prop} (s:List UInt8):fQ (eY w fr (.int .u8)) (Ty.int .u8).size (dA s) (Lib.strCells ⟨s.toArray⟩):=by
 induction s with
 |nil=>rfl
 |cons b l d=>
  refine⟨[.int .u8 b.toNat],Lib.strCells ⟨l.toArray⟩,by simp[Lib.strCells],rfl,rfl, ?_⟩
  assumption
theorem aoB (hT:TOk P T) (A:c.Ok W0) {cl:Bool} {dst:Option Tmp} {ty:TypeId} {pos:String} {after:Array Edge} {guard:Option (Nat×Bool)} {st:St} {a:Act} {K:bU->St->Option R} {args:Array Operand} {t t':TypeId} {s x:bU} (J:c.hp=st.hp) (X:c.nxt=st.nxt) (Y:bK c st.fr a.tmps.toList)
  (B:args.toList.map (gX st.fr)=[s,x]) (h:zL T cl dst t t' s x st K=a6 r):Ia P W0 c st ⟨dst,.call {callee:=.builtin .append,args:=args,argTypes:=[t,t'].toArray},ty,pos,after,guard⟩ a K r:=by
 obtain⟨al⟩:=args
 match al,B with
 |[D,L],B=>
  simp only[au,aU,List.cons.injEq,and_true]at B;obtain⟨rfl,rfl⟩:=B;have o:=dU Y D;have E:=dU Y L;have aI: ∀w,(execOp a.eval ⟨dst,.call {callee:=.builtin .append,args:=[D,L].toArray,argTypes:=[t,t'].toArray},ty,pos,after,guard⟩).run P w=
    ((Builtin.append_ #[t,t'] ty #[a.eval D,a.eval L]).run P w).andThen fun v G=>.ok (.value v) G:=fun w=>by
   simp[execOp,resolve,invoke,builtin,Sem.run_bind]
  unfold zL at h;split at h
  .rename_i d y an ao
   rw[ao]at E;simp only[bW]at E;have E:=E.str_inv;split at h
   .rename_i Z
    replace h:=dG h;obtain⟨hc,h⟩:=h;simp only[af]at hc;obtain⟨⟨av,aw⟩,ab⟩:=hc;have ad:=FH hT av;obtain⟨hu,hk,aJ,aK,aO⟩:=pG hT an aw;have ab:(T.at d).bytes=1:=ah ab;obtain⟨i,z,M,aP,aQ,hz,aS,aV⟩:=hT.info hk;have N:d=mP:=hT.byte hk Z;have ag:i.zero=a6 (.int .u8 0):=by
     rcases(hT d hk).2.2.1 with q|q
     .simp_all
     .rw[Z]at q;have ax:(T.at d).k=.int .u8:=by
       cases hkq:(T.at d).k with
       |int k=>simp_all [lw]
       |struct fs=>
        rw[hkq]at q;simp only[lw]at q;cases fs with
        |nil=>simp[jJ]at q
        |cons f l=>
         grind [jJ]
       |slice e'=>
        rw[hkq]at q;simp only[lw]at q;cases hq:(T.at e').ty<;>rw[hq]at q<;>simp at q
       |bool=>rw[hkq]at q;cases q
       |str=>rw[hkq]at q;cases q
       |other=>rw[hkq]at q;cases q
       |fn=>rw[hkq]at q;cases q
       |ptr e'=>rw[hkq]at q;cases q
       |map _ _=>rw[hkq]at q;cases q
      exact hT.zero_byte hk ax M
    cases hsv:gX st.fr D with
    |nils=>
     rw[hsv]at h o;simp only at h;simp only[bW]at o;obtain⟨j,h⟩:=gG h;have j:y.length<=140737488355328:=of_decide_eq_true j;obtain⟨v',G,hr,p,g,ai,O⟩:=Q4 (ty:=ty) hu ad M ag (by omega) (by omega) (World.ownsRow_nil c.w c.w.heap.size d 1) ⟨y.toArray⟩ (by show 0+y.toArray.size<=_;simpa using j) (ae _);obtain⟨id,n',f1,f2,f3,f4⟩:=ji h;have ay:Below c.w.heap.size c.w G:=⟨g.os,g.tape,g.output,g.size,fun k hk=>g.block k hk (by simp[Value.ownBlock])⟩;have az:0+(⟨y.toArray⟩:ByteArray).size=(dA y).length:=by show 0+y.toArray.size=_;simp[dA]
     rw[aF,az]at p;obtain⟨S,U,d2,V⟩:=qm A J X f1 f2 f3 (y:=.int .u8) (by simp[Ty.size]) ay d _ p (Ls y) O (fun _=>N);exact⟨_,_,S,_,f4,U,V,.inl (by simp_all)⟩
    |slc id ver vw=>
     rw[hsv]at h o;simp only at h;split at h
     .rename_i u xs I
      rw[<-J]at I;replace h:=dG h;obtain⟨W,h⟩:=h;have W:u=ver:=by simpa using W
      subst W;split at h
      .replace h:=gG h;obtain⟨j,h⟩:=h;have j:=qQ j;simp only[bW]at o;have aA:=(o.2.2 _ _ _ I).2 rfl;simp only[ja]at aA;obtain⟨_,e0,zs,ak,hL,aB⟩:=A.obj id _ I;have aG:e0=d:=(aB rfl).trans N.symm;subst aG;have aH:(⟨y.toArray⟩:ByteArray).size=(dA y).length:=by show y.toArray.size=_;simp[dA]
       obtain⟨v',G,hr,p,g,ai,O⟩:=Q4 (ty:=ty) hu ad M ag (by omega) (by omega) ak ⟨y.toArray⟩ (by simp_all) A.size;rw[aH,<-aj]at p;obtain⟨S,U,d2,V⟩:=alC A J X (e:=.int .u8) (by simp[Ty.size]) I p (fQ.append _ _ _ _ hL (Ls y)) g (fun b hb=>(World.ownsRow.lt ak b hb).1) ai O (fun _=>N);exact⟨_,_,S,_,h,U,V,.inl (by simp_all)⟩
      .cases h
     .cases h
    |_=>rw[hsv]at h;cases h
   .cases h
  .cases h
theorem auw (hT:TOk P T) (D:c.Ok W0) {cl:Bool} {call:gI R} {o:Oper} {st:St} {a:Act} {K:bU->St->Option R} {args:Array Operand} {ts:Array TypeId} (E:c.hp=st.hp) (U:c.nxt=st.nxt) (aI:bK c st.fr a.tmps.toList)
  (ho:o.op=.call {callee:=.builtin .append,args:=args,argTypes:=ts}) (h:eH T cl call o st K=a6 r):Ia P W0 c st o a K r:=by
 obtain⟨aW,op,O,aX,aY,aZ⟩:=o;simp only at ho;subst ho;simp only[eH,kD]at h;split at h<;>try (cases h;done)
 all_goals try (rename_i hb _;cases hb;done)
 rename_i s x hb ab
 split at h<;>try (cases h;done)
 rename_i t t' aJ
 obtain⟨ts⟩:=ts;simp only at aJ;subst aJ;rw[cond_eq_ite]at h;split at h
 rotate_left
 .grind [aoB]
 rename_i ai
 have ai:t=t':=by simpa using ai
 subst ai;obtain⟨al⟩:=args
 match al,ab with
 |[s0,x0],ab=>
  simp only[au,aU,List.cons.injEq,and_true]at ab;obtain⟨rfl,rfl⟩:=ab;have f:=dU aI s0;have hx:=dU aI x0;have aK: ∀w,(execOp a.eval ⟨aW,.call {callee:=.builtin .append,args:=[s0,x0].toArray,argTypes:=[t,t].toArray},O,aX,aY,aZ⟩).run P w=
    ((Builtin.append_ #[t,t] O #[a.eval s0,a.eval x0]).run P w).andThen fun v w'=>.ok (.value v) w':=fun w=>by
   simp[execOp,resolve,invoke,builtin,Sem.run_bind]
  unfold JB at h;split at h
  .rename_i et ad
   split at h
   .rename_i e he
    split at h
    .cases h
    .rename_i j aO
     rw[<-E]at aO;obtain⟨a2,m2,ak,aP,l,ag⟩:=ab7 D aO hx;split at h
     .
      rename_i V
      rw[V]at f;simp only[bW]at f;replace h:=gG h;obtain⟨p,h⟩:=h;simp only[af]at p;obtain⟨y,hk,d,G,I⟩:=pG hT ad p.1;have W:=qQ p.2;obtain⟨i,z,J,an,ao,hz,aw,bd⟩:=hT.info hk;have ax:z.cells.size=e.size:=by
       have:=congrArg List.length aw;rw[hT.zlen hk,d]at this;simpa using this
      have ay:=fQ.length _ _ l;have az:=fQ.one _ _ l;have aQ:0+j.length<=maxLen:=by
       have h2:j.length<=j.length*(T.at et).bytes:=bH _ I;simp only[maxLen];omega
      obtain⟨v',w',e1,hr,X,L,bD,aA,aB⟩:=Ie y J hz an ao (by rw[ax,d]) (by omega) (World.ownsRow_nil c.w c.w.heap.size et (T.at et).size) (a:=a2) (cp:=m2) (by rw[d];exact ay) az (ag.imp (fun h=>h) fun⟨b,aS,q1,_,q3⟩=>⟨b,aS,q1,q3⟩) aQ
       (by simp_all) (ae _) O
      rw[d,aF,Nat.zero_add]at X;obtain⟨id,n',f1,f2,f3,f4⟩:=ji h;have bf:Below c.w.heap.size c.w w':=⟨L.os,L.tape,L.output,L.size,fun k hk=>L.block k hk (by simp[Value.ownBlock])⟩;obtain⟨M,A,d2,N⟩:=qm D E U f1 f2 f3 G bf e1 ak X l aA (fun q=>(aB.elim (fun q=>q) fun q=>q).trans (hT.byte hk (by rw[he,q])));exact⟨_,_,M,_,f4,A,N,.inl (by simp_all)⟩
     .
      rename_i V
      rw[V]at f;simp only[bW]at f;obtain⟨Y,f⟩:=f;replace h:=gG h;obtain⟨p,h⟩:=h;simp only[af]at p;obtain⟨y,hk,d,G,I⟩:=pG hT ad p.1;have W:=qQ p.2;obtain⟨i,z,J,an,ao,hz,aw,bd⟩:=hT.info hk;have ax:z.cells.size=e.size:=by
       have:=congrArg List.length aw;rw[hT.zlen hk,d]at this;simpa using this
      have ay:=fQ.length _ _ l;have az:=fQ.one _ _ l;have aQ:0+j.length<=maxLen:=by
       have h2:j.length<=j.length*(T.at et).bytes:=bH _ I;simp only[maxLen];omega
      cases hlt:PD 0 j.length with
      |false=>
       rw[hlt]at h;simp only[ac]at h;have h0:j.length=0:=by simpa [PD] using hlt
       refine⟨.emp,.slice Y 0 0,c,st,h,AU.refl D E U,by simp only[bW];exact⟨Y,rfl⟩,.inl ?_⟩;rw[aK,f,aP,h0];cases a2<;>cases Y<;>simp[Builtin.append_,run_underlying y,sizeOf,typeInfo,J,Builtin.lenOf,Builtin.firstCells,loadCells,loadCellsFrom,storeCells]
      |true=>
       rw[hlt]at h;simp only[aa]at h;have bg:0<j.length:=by simpa [PD] using hlt
       have bi:ak≠[]:=by
        grind [Nat.mul_pos]
       obtain⟨b,aS,rfl,_,hc⟩:=ag.resolve_left bi;obtain⟨v',w',e1,hr,X,L,aA,aB⟩:=af7 hT y J hz an ao (by rw[ax,d]) (by omega) (w:=c.w) (av:=Y) (cp:=m2) (by rw[d];exact ay) az hc bg (by omega) W O;rw[d]at X;obtain⟨id,n',f1,f2,f3,f4⟩:=ji h;obtain⟨M,A,d2,N⟩:=qm D E U f1 f2 f3 G L e1 ak X l aA (fun q=>aB.trans (hT.byte hk (by rw[he,q])));exact⟨_,_,M,_,f4,A,N,.inl (by simp_all)⟩
     .
      rename_i id bn vw V
      rw[V]at f;split at h
      .rename_i e' u xs Z
       rw[<-E]at Z;replace h:=dG h;obtain⟨aG,h⟩:=h;have aG:u=bn:=by simpa using aG
       subst aG;split at h
       .rename_i bF aH
        have bt:=iq aH;cases bt;rw[gp]at aH;cases aH;simp only[bW]at f;have S:=(f.2.2 _ _ _ Z).2 rfl;obtain⟨_,e0,zs,bu,hL,bG⟩:=D.obj id _ Z;obtain⟨g,cp,hv,p,_⟩:=qE bu;split at h
        .replace h:=gG h;obtain⟨B,h⟩:=h;simp only[af]at B;obtain⟨y,hk,d,G,I⟩:=pG hT ad B.1;have W:=qQ B.2;simp only[ja]at S;rw[hv]at S;obtain⟨M,v',A,d2,N⟩:=Q3 hT D E U y hk d G I Z hv (ae _) S (m:=m2) l ag (by simp_all) O (fun q=>hT.byte hk (by rw[he,q]));rw[List.take_length]at A;exact⟨_,_,M,_,h,A,N,.inl (by simp_all)⟩
        .rename_i lo J
         replace h:=gG h;obtain⟨B,h⟩:=h;simp only[af,bV,beq_iff_eq]at B;obtain⟨B,rfl,bz⟩:=B;obtain⟨y,hk,d,G,I⟩:=pG hT ad B;have W:=qQ bz;simp only[ja]at S;obtain⟨g',m',cb,aV,p1,p2,p3,S⟩:=S;rw[hv]at aV;cases aV;have bC:a.eval s0=.slice g J.toNat cp:=by
          simp_all [Addr.add]
         obtain⟨M,v',A,d2,N⟩:=Q3 hT D E U y hk d G I Z hv (k:=J.toNat) (by omega) bC (m:=m2) l ag W O (fun q=>hT.byte hk (by rw[he,q]));exact⟨_,_,M,_,h,A,N,.inl (by rw[aK,aP,d2];rfl)⟩
       .cases h
      .cases h
     .cases h
   .cases h
  .cases h
end
end
section
open Option renaming some → a6, none → a7
open Bool renaming and_eq_true → af, not_eq_true' → aY
open List renaming append_assoc → ai, length_append → aj, map_cons → au, nil_append → aF, drop_of_length_le → aO, map_nil → aU, take_of_length_le → bD
open Nat renaming le_refl → ae, eq_of_beq_eq_true → ah, le_trans → aI
open Go.RowKit
section
variable {P:Program} {T:TT} {W0:World} {c:Cx} {R:Type} {r:R} {t:TypeId}
theorem Hq {cs vs d:List bU} {off:Nat} (h:putCells cs off vs=a6 d):off+vs.length<=cs.length/\d=cs.take off++vs++cs.drop (off+vs.length):=by
 unfold putCells at h;replace h:=dG h;simp_all
theorem O5 (hT:TOk P T) (hk:(T.at t).known=true) {w:World} {g o:Nat} {d:Array Value} {e:TypeId} (f:w.heap[g]? =a6 (.cells d e (0,0))) {v:Value} (hl:v.cells.size=(T.at t).size) (i:o+v.cells.size<=d.size)
  (j: ∀u∈v.cells.toList,u.oneCell'=true):
  (Instr.storeAt t (.pointer (a6 ⟨g,o,a7⟩)) v).run P w=.ok () (w.setRow g (d.toList.take o++v.cells.toList++d.toList.drop (o+v.cells.size)).toArray):=by
 have l:=run_storeCells_at P g o e v.cells.toList 0 d w f (by simpa using i) j;simp only[Nat.add_zero,Array.length_toList]at l;simp only[Instr.storeAt,Instr.sureAddr,Sem.run_bind,Sem.run_pure,Result.andThen_ok,storeVar,hT.sizeOf hk w,Sem.run_ite];simp_all
theorem auy (hT:TOk P T) (s:c.Ok W0) {dst:Option Nat} {ty:TypeId} {pos} {after} {guard} {st:St} {a:Act} {K:St->Option R} {x y:Operand} (W:c.hp=st.hp) (ao:c.nxt=st.nxt) (av:bK c st.fr a.tmps.toList)
  (h:JG T st t (gX st.fr x) (gX st.fr y) K=a6 r): ∃c' aw,K aw=a6 r/\AU W0 c st c' aw/\(execOp a.eval ⟨dst,.store t x y,ty,pos,after,guard⟩).run P c.w=.ok .skip c'.w:=by
 simp only[JG]at h;split at h
 .cases h
 rename_i l aB
 replace h:=dG h;obtain⟨hk,h⟩:=h;simp only[af,beq_iff_eq]at hk;obtain⟨hk,ax⟩:=hk;obtain⟨r1,r2⟩:=LK aB (dU av y);have hl:l.length=(a.eval y).cells.size:=by simpa using bK.length _ _ r1
 have D:=dU av x;have ay: ∀w w',(Instr.storeAt t (a.eval x) (a.eval y)).run P w=.ok () w'->(execOp a.eval ⟨dst,.store t x y,ty,pos,after,guard⟩).run P w=.ok .skip w':=fun w w' hw=>by
  simp_all [execOp]
 split at h
 .rename_i id f ab
  rw[ab]at D;split at h
  .rename_i E cs z
   split at h
   .rename_i bf X
    obtain⟨p1,rfl⟩:=Hq X;rw[<-W]at z;simp only[bW]at D;have hv:=D.2.2 _ _ z;obtain⟨hB,us,h3,h4,h5⟩:=s.obj id _ z;have bg:cs.length=us.size:=by simpa using bK.length _ _ h4
    have G:=O5 (o:=f) hT hk h3 (v:=a.eval y) (by rw[<-hl,ax]) (by omega) r2;rw[<-hv]at G;have J:(dM.box E cs).like (c.mu id) (.box E (cs.take f++l++cs.drop (f+l.length))) (c.mu id):=rfl;have M:c.w.heap.size<=(c.w.setRow (c.mu id).blk (us.toList.take f++(a.eval y).cells.toList++us.toList.drop (f+(a.eval y).cells.size)).toArray).heap.size:=by simp
    have N: ∀b,b<c.w.heap.size->(dM.box E cs).blk (c.mu id)≠a6 b->(c.w.setRow (c.mu id).blk (us.toList.take f++(a.eval y).cells.toList++us.toList.drop (f+(a.eval y).cells.size)).toArray).heap[b]? =c.w.heap[b]? :=
     fun b _ ad=>setRow_other _ _ _ _ (fun e=>ad (by simp[dM.blk,e]))
    have O: ∀b,(dM.box E (cs.take f++l++cs.drop (f+l.length))).blk (c.mu id)=a6 b->(dM.box E cs).blk (c.mu id)=a6 b\/c.w.heap.size<=b:=fun b A=>.inl A;have S: ∀(b:Nat) (L:Loop),(dM.box E cs).blk (c.mu id)=a6 b->c.w.heap[b]? =a6 (Obj.loop L)-> ∃L':Loop,(c.w.setRow (c.mu id).blk (us.toList.take f++(a.eval y).cells.toList++us.toList.drop (f+(a.eval y).cells.size)).toArray).heap[b]? =a6 (Obj.loop L'):=fun b L A U=>absurd U ((s.obj id _ z).no_loop (by simp) A);have Y:=Cx.Le.put (w:=c.w.setRow (c.mu id).blk (us.toList.take f++(a.eval y).cells.toList++us.toList.drop (f+(a.eval y).cells.size)).toArray) s z J M N O S;have ag:Below W0.heap.size W0 (c.w.setRow (c.mu id).blk (us.toList.take f++(a.eval y).cells.toList++us.toList.drop (f+(a.eval y).cells.size)).toArray):=
     s.bel.trans ⟨rfl,rfl,rfl,by simp,fun k hk=>setRow_other _ _ _ _ (by omega)⟩
    refine⟨c.put id _ (c.mu id) _,_,h,⟨by simp[Cx.put,W],ao,rfl,rfl,s.put z J ag M N O S ?_,Y⟩,ay _ _ G⟩;refine⟨by simp only[Cx.put,upd_same];exact hB,(us.toList.take f++(a.eval y).cells.toList++us.toList.drop (f+(a.eval y).cells.size)).toArray, ?_, ?_, ?_⟩
    .simp only[Cx.put,upd_same]
     grind [setRow_heap]
    .grind [bK.append,bK.take,bK.drop,bK.le]
    grind
   .cases h
  .cases h
 .rename_i id aG i f ab
  rw[ab]at D;split at h
  .rename_i e u xs I
   rw[<-W]at I;replace h:=dG h;obtain⟨ak,h⟩:=h;have ak:u=aG:=by simpa using ak
   subst ak;replace h:=dG h;obtain⟨V,h⟩:=h;have V:i<xs.length:=by simpa [PD] using V
   split at h
   .rename_i cs X
    split at h
    .rename_i x' aH
     simp only[bW]at D;obtain⟨B,n',aJ,q1,q2⟩:=(D.2.2 _ _ _ I).2 rfl;obtain⟨aK,e0,zs,al,U,aP⟩:=s.obj id _ I;rcases al.2 with ⟨Z,e2⟩|⟨g,bi,j,Z,e2,e3,e4,e5,e6,e7⟩
     .omega
     rw[q1]at Z;simp only[Value.slice.injEq,Option.some.injEq,Addr.mk.injEq,and_true]at Z;obtain⟨rfl,rfl,rfl⟩:=Z;obtain⟨d,d1,d2,p,q,d3,d4⟩:=fQ.at_ i xs zs V U;have aQ:xs.getD i e.dflt=xs[i]:=by simp[List.getD,V]
     rw[aQ]at X;obtain⟨p1,rfl⟩:=Hq X;have hf:=DN (c:=c) e _ _ d2;have bn:=bK.length _ _ hf;have bu:f+l.length<=d.length:=by omega
     have aS:=bK.append _ _ _ _ (bK.append _ _ _ _ (bK.take f _ _ hf) r1) (bK.drop (f+l.length) _ _ hf);have az:=nV aH aS;have aV:=eY.length _ _ _ az;have an:j.toList=p++d++q++j.toList.drop (xs.length*e.size):=by
      grind [List.take_append_drop]
     have z:j.size=xs.length*e.size+(j.toList.drop (xs.length*e.size)).length:=by
      have h1:=congrArg List.length an;have h2:=congrArg List.length d3;rw[al.1]at h2
      grind
     have aA:=congrArg List.length d3;rw[al.1]at aA;simp only[aj]at aA;have G:=O5 (o:=i*e.size+f) hT hk e3 (v:=a.eval y) (by rw[<-hl,ax]) (by omega) r2;rw[<-q2]at G;have aW:j.toList.take (i*e.size+f)++(a.eval y).cells.toList++j.toList.drop (i*e.size+f+(a.eval y).cells.size)=p++(d.take f++(a.eval y).cells.toList++d.drop (f+l.length))++q++j.toList.drop (xs.length*e.size):=by
      have t1:j.toList.take (i*e.size+f)=p++d.take f:=by
       rw[an,ai,ai,List.take_append,bD (by omega),d4,Nat.add_sub_cancel_left,List.take_append_of_le_length (by omega)]
      have t2:j.toList.drop (i*e.size+f+(a.eval y).cells.size)=d.drop (f+l.length)++q++j.toList.drop (xs.length*e.size):=by
       conv=>lhs;rw[an]
       rw[ai,ai,List.drop_append,aO (by omega),aF,d4,List.drop_append,List.drop_append];have z1:i*e.size+f+(a.eval y).cells.size-i*e.size=f+l.length:=by omega
       have z2:f+l.length-d.length=0:=by omega
       rw[z1,z2];simp
      rw[t1,t2];simp
     rw[aW]at G;have aX:=fQ.set x' (d.take f++(a.eval y).cells.toList++d.drop (f+l.length)) aV az i xs p d q V (by grind) d4 d1;generalize d.take f++(a.eval y).cells.toList++d.drop (f+l.length)=d' at*;have J:(dM.arr e u xs).like (c.mu id) (.arr e u (iw xs i x')) (c.mu id):=⟨ae _,fun _=>⟨rfl,rfl⟩⟩;have aZ:(dM.arr e u xs).blk (c.mu id)=a6 B:=by simp[dM.blk,q1,Value.ownBlock]
     have M:c.w.heap.size<=(c.w.setRow B (p++d'++q++j.toList.drop (xs.length*e.size)).toArray).heap.size:=by simp
     have N: ∀b,b<c.w.heap.size->(dM.arr e u xs).blk (c.mu id)≠a6 b->(c.w.setRow B (p++d'++q++j.toList.drop (xs.length*e.size)).toArray).heap[b]? =c.w.heap[b]? :=
      fun b _ ad=>setRow_other _ _ _ _ (fun e=>ad (by rw[aZ,e]))
     have O: ∀b,(dM.arr e u (iw xs i x')).blk (c.mu id)=a6 b->(dM.arr e u xs).blk (c.mu id)=a6 b\/c.w.heap.size<=b:=fun b A=>.inl A;have S: ∀(b:Nat) (L:Loop),(dM.arr e u xs).blk (c.mu id)=a6 b->c.w.heap[b]? =a6 (Obj.loop L)-> ∃L':Loop,(c.w.setRow B (p++d'++q++j.toList.drop (xs.length*e.size)).toArray).heap[b]? =a6 (Obj.loop L'):=fun b L A U=>absurd U ((s.obj id _ I).no_loop (by simp) A);have Y:=Cx.Le.put (w:=c.w.setRow B (p++d'++q++j.toList.drop (xs.length*e.size)).toArray) s I J M N O S;have ag:Below W0.heap.size W0 (c.w.setRow B (p++d'++q++j.toList.drop (xs.length*e.size)).toArray):=
      s.bel.trans ⟨rfl,rfl,rfl,by simp,fun k hk=>setRow_other _ _ _ _ (by omega)⟩
     refine⟨c.put id _ (c.mu id) _,_,h,⟨by simp[Cx.put,W],ao,rfl,rfl,s.put I J ag M N O S ?_,Y⟩,ay _ _ G⟩;refine⟨aK,e0,p++d'++q, ?_,fQ.mono (eY.mono Y.free e) _ _ aX,aP⟩;have bd:(p++d'++q).length=xs.length*e.size:=by
      grind
     simp only[Cx.put,upd_same,iw,List.length_set];refine⟨bd,.inr ⟨B,aJ,_,q1,e2,setRow_heap c.w _ j _ e0 _ e3,e4,e5, ?_, ?_⟩⟩
     all_goals grind
    .cases h
   .cases h
  .cases h
 .cases h
theorem Ho {w:World} {B:Nat} {e:TypeId} {size n:Nat} {v d:Value} {i:List Value} (h:w.ownsRow B e size v n i) {hi:Int} (D:0<=hi) (E:hi<=n) (s:ja size v (a6 (0,hi)) d):
  w.ownsRow B e size d hi.toNat (i.take (hi.toNat*size))/\ ∀b,d.ownBlock=a6 b->v.ownBlock=a6 b:=by
 obtain⟨a,m,cp,j,_,_,G,u⟩:=s;have hk:hi.toNat<=n:=by omega
 have q:(i.take (hi.toNat*size)).length=hi.toNat*size:=by
  rw[List.length_take,h.1];simp_all
 rcases h.2 with ⟨f,l⟩|⟨g,I,x,f,l,y,J,z,A,K⟩
 .rw[j]at f;cases f;subst l;have:hi.toNat=0:=by omega
  have o:d=.slice a7 0 0:=by rw[u,this];rfl
  subst o;refine⟨⟨q,.inl ⟨rfl,this⟩⟩,fun b p=>by cases p⟩
 .rw[j]at f;cases f;have o:d=.slice (a6 ⟨g,0,a7⟩) hi.toNat cp:=by
   grind [Addr.add]
  subst o;subst j;refine⟨⟨q,.inr ⟨g,cp,x,rfl,l,y,by omega,z,A, ?_⟩⟩,fun b p=>p⟩
  grind
theorem ayJ {st:St} {c':Cx} {l:St} (hd:AU W0 c st c' l) {id off i:Nat} {o:TypeId} {cs:List bU} {e:Ty} {w:Nat} {xs:List e.den} {hi:Int} (an:id≠i)
  (v:dQ l.hp id=a6 (.box o cs)) (g:dQ l.hp i=a6 (.arr e w xs)) (ao:cs.getD off .undef=.slc i w (a6 (0,hi))):
  ∃x,AU W0 c st x {l with hp:=iU (iU l.hp i (.arr e (w+1) (xs.take hi.toNat))) id (.box o (cs.set off (.slc i (w+1) a7)))}/\x.w=c'.w:=by
 have p:=hd.ok;rw[<-hd.hp]at v g;obtain⟨hB,us,h3,y,J⟩:=p.obj id _ v;have av:cs.length=us.toList.length:=bK.length _ _ y;have aw:off<cs.length:=by
  grind
 have ax:off<us.toList.length:=by omega
 have K:bW c' (.slc i w (a6 (0,hi))) us.toList[off]:=by
  have:=bK.getD y off;simp_all
 obtain⟨M,N,O,z,d,S⟩:=p.obj i _ g;have q:=K;simp only[bW]at q;have A:=(q.2.2 _ _ _ g).2 rfl;have⟨U,V⟩:0<=hi/\hi<=bM xs:=by
  obtain⟨a1,n1,f,B,_,W,X,_⟩:=A;obtain⟨a2,c2,Y,_⟩:=qE z;rw[Y]at B;cases B;exact⟨W,X⟩
 obtain⟨ay,D⟩:=Ho z U V A;have hk:(dM.arr e w xs).like (c'.mu i) (.arr e (w+1) (xs.take hi.toNat)) ⟨(c'.mu i).blk,us.toList[off]⟩:=⟨by omega,fun e=>by omega⟩;have E:=Cx.Le.put (w:=c'.w) p g hk (ae _) (fun _ _ _=>rfl) (fun b j=>.inl (D b j)) (fun b L _ d=>⟨L,d⟩);have s:=Cx.Ok.put (w:=c'.w) p g hk p.bel (ae _) (fun _ _ _=>rfl) (fun b j=>.inl (D b j)) (fun b L _ d=>⟨L,d⟩) (by
  refine⟨M,N,O.take (hi.toNat*e.size), ?_,fQ.take _ _ _ (fQ.mono (eY.mono E.free e) _ _ d),S⟩;simp_all [bM,Cx.put,upd_same])
 have az:bW (c'.put i (dM.arr e (w+1) (List.take hi.toNat xs)) ⟨(c'.mu i).blk,us.toList[off]⟩ c'.w) (.slc i (w+1) a7) us.toList[off]:=by
  simp only[bW];refine⟨q.1,.inl ⟨_,Cx.put_get g⟩,fun t' u' aA Z=> ?_⟩;rw[Cx.put_get g]at Z;simp_all [ja,Cx.put,upd_same]
 have G:dQ (c'.put i (dM.arr e (w+1) (List.take hi.toNat xs)) ⟨(c'.mu i).blk,us.toList[off]⟩ c'.w).hp id=a6 (.box o cs):=by
  simp only[Cx.put,jm]
  grind
 have aB:(c'.put i (dM.arr e (w+1) (List.take hi.toNat xs)) ⟨(c'.mu i).blk,us.toList[off]⟩ c'.w).mu id=c'.mu id:=by
  simp_all [Cx.put,upd_ne]
 generalize u:c'.put i (dM.arr e (w+1) (List.take hi.toNat xs)) ⟨(c'.mu i).blk,us.toList[off]⟩ c'.w=f at*;have ab:f.w=c'.w:=by rw[<-u];rfl
 have ad:f.hp=iU c'.hp i (.arr e (w+1) (xs.take hi.toNat)):=by rw[<-u];rfl
 have ag:f.nxt=c'.nxt:=by rw[<-u];rfl
 have I:(dM.box o cs).like (f.mu id) (.box o (cs.set off (.slc i (w+1) a7))) (f.mu id):=rfl;have ak:=Cx.Le.put (w:=f.w) s G I (ae _) (fun _ _ _=>rfl) (fun b j=>.inl j) (fun b L _ d=>⟨L,d⟩);have al:=Cx.Ok.put (w:=f.w) s G I s.bel (ae _) (fun _ _ _=>rfl) (fun b j=>.inl j) (fun b L _ d=>⟨L,d⟩) (by
  refine⟨by simp_all [Cx.put,upd_same],us,by simp_all [Cx.put,upd_same], ?_,J⟩
  grind [bK.le,bK.setL])
 refine⟨_,⟨?_, ?_,hd.fr,hd.stk,al,(hd.le.trans E).trans ak⟩,ab⟩
 .simp only[Cx.put];rw[ad,hd.hp]
 .show f.nxt=l.nxt;rw[ag,hd.nxt]
theorem an7 {g:gQ} {st:St} {x y:bU} {K:St->Option R} {c':Cx} {f:St} (hd:AU W0 c st c' f) (h:adl g f x y K=a6 r): ∃d e,K e=a6 r/\AU W0 c st d e/\d.w=c'.w:=by
 have same:K f=a6 r-> ∃d e,K e=a6 r/\AU W0 c st d e/\d.w=c'.w:=fun h=>⟨c',f,h,hd,rfl⟩;unfold adl at h;split at h
 .split at h
  .split at h
   .rw[cond_eq_ite]at h;split at h
    .rename_i i
     simp only[af,aY]at i;split at h
     .rename_i l o
      split at h
      .rename_i p
       rw[cond_eq_ite]at h;split at h
       .rename_i j
        simp only[af,beq_iff_eq]at j
        grind [ah,ayJ]
       .exact same h
      .exact same h
     .exact same h
    .exact same h
   .exact same h
  .exact same h
 .exact same h
theorem azC (hT:TOk P T) (l:c.Ok W0) {cl:Bool} {call:gI R} {o:Oper} {st:St} {a:Act} {K:bU->St->Option R} {x y:Operand} (p:c.hp=st.hp) (q:c.nxt=st.nxt) (s:bK c st.fr a.tmps.toList)
  (d:o.op=.store t x y) (h:eH T cl call o st K=a6 r):Ia P W0 c st o a K r:=by
 obtain⟨e,G,f,g,i,j⟩:=o;simp only at d;subst d;simp only[eH]at h;obtain⟨I,J,u,hd,v⟩:=auy (dst:=e) (ty:=f) (pos:=g) (after:=i) (guard:=j) hT l p q s h;obtain⟨z,A,B,D,E⟩:=an7 hd u;exact⟨_,undef,z,A,B,D,by simp[bW],.inr ⟨by rw[E];exact v,rfl⟩⟩
theorem VQ (w:World) (t d ty:TypeId) (B size n:Nat) (v:Value) (f:List Value) (e:TypeId) (h:w.ownsRow B e size v n f) (i:P.underlying ty=a6 (.pointer d)):
  ∃u w',(Builtin.unsafeSliceData_ #[t] ty #[v]).run P w=.ok u w'/\Below w.heap.size w w'/\u.oneCell'=true/\(∃p,u=.pointer p)/\ ∀a m cp,v=.slice a m cp->m≠0->u=.pointer a:=by
 rcases h.2 with ⟨rfl,rfl⟩|⟨g,j,l,rfl,_,o,s,_⟩
 .exact⟨_,w,Lib.run_unsafeSliceData_nil w _ _ 0 0,Below.refl _ _,rfl,⟨_,rfl⟩,fun a m cp h q=>by simp_all⟩
 .by_cases hc:j=0
  .subst hc;refine⟨_,_,Lib.run_unsafeSliceData_zero w _ _ d i ⟨g,0,a7⟩ n (e,l.size) (by simp[World.shape?,o]),ni _ _,rfl,⟨_,rfl⟩,fun a m cp h q=> ?_⟩;cases h;omega
  .exact⟨_,w,Lib.run_unsafeSliceData_row w _ _ _ _ _ hc,Below.refl _ _,rfl,⟨_,rfl⟩,fun a m cp h _=>by cases h;rfl⟩
theorem aeo (hT:TOk P T) (s:c.Ok W0) {cl:Bool} {call:gI R} {o:Oper} {st:St} {a:Act} {K:bU->St->Option R} {args:Array Operand} {i:Array TypeId} (x:c.hp=st.hp) (G:c.nxt=st.nxt) (I:bK c st.fr a.tmps.toList)
  (y:o.op=.call {callee:=.builtin .unsafeSliceData,args:=args,argTypes:=i}) (h:eH T cl call o st K=a6 r):Ia P W0 c st o a K r:=by
 obtain⟨J,op,j,L,M,N⟩:=o;simp only at y;subst y;simp only[eH,kD]at h;split at h<;>try (cases h;done)
 all_goals try (rename_i z _;cases z;done)
 rename_i id ag z f
 split at h<;>try (cases h;done)
 rename_i t A
 split at h<;>try (cases h;done)
 rename_i e v xs d
 rw[cond_eq_ite]at h;split at h
 .rename_i B
  simp only[af,beq_iff_eq]at B;obtain⟨rfl,ak,O⟩:=B;obtain⟨i⟩:=i;simp only at A;subst A;obtain⟨S⟩:=args
  match S with
  |[]=>simp at f
  |_::_::_=>simp at f
  |[l]=>
   simp only[au,aU,List.cons.injEq,and_true]at f;have p:=dU I l;rw[f]at p;simp only[bW]at p;rw[<-x]at d;have D:=(p.2.2 _ _ _ d).2 rfl;simp only[ja]at D;obtain⟨_,U,V,W,hL,an⟩:=s.obj id _ d;obtain⟨X,Y⟩:=hT.isPtr O;obtain⟨u,q,hr,E,Z,hp,ab⟩:=VQ c.w t X j W0.heap.size e.size xs.length (c.mu id).v V U W Y;refine⟨_,u,c.at_ q,st,h,⟨x,G,rfl,rfl,s.ext E,Cx.Le.ext E⟩, ?_,.inl ?_⟩
   .simp only[bW];refine⟨Z,.inl ⟨_,d⟩,fun t' u' ad g=> ?_⟩;have g:dQ c.hp id=a6 (.arr t' u' ad):=g;rw[d]at g;cases g;exact⟨ae _,fun _=>⟨hp,ab⟩⟩
   .have:(execOp a.eval ⟨J,.call {callee:=.builtin .unsafeSliceData,args:=[l].toArray,argTypes:=[t].toArray},j,L,M,N⟩).run P c.w=
      ((Builtin.unsafeSliceData_ #[t] j #[a.eval l]).run P c.w).andThen fun v q=>.ok (.value v) q:=by
     simp[execOp,resolve,invoke,builtin,Sem.run_bind]
    rw[this,D,hr];rfl
 .cases h
theorem aym {w:World} {fr:Nat->Prop} (xs:List Int) (d:List Value) (h:fQ (eY w fr (.int .u8)) 1 xs d):d=xs.map (.int .u8):=BA xs d h
theorem KR (w:World): ∀(xs:List Int) (a:Addr) (d:ByteArray),(∀j x,xs[j]? =a6 x->w.cell? (a.add j)=a6 (.int .u8 x))->(loadBytes a d xs.length).run P w=.ok (xs.foldl (fun r n=>r.push (UInt8.ofNat n.toNat)) d) w
 |[],a,d,_=>by simp[loadBytes]
 |x::xs,a,d,h=>by
  have f:w.cell? a=a6 (.int .u8 x):=by
   have:=h 0 x rfl
   assumption
  have g:=KR w xs (a.add 1) (d.push (UInt8.ofNat x.toNat)) fun j y e=>by
   have:=h (j+1) y (by simpa using e)
   grind [Addr.add]
  simp_all [loadBytes]
theorem UE {d it ty e:TypeId} (hp:P.underlying d=a6 (.pointer e)) (i:P.cellsOf e=1) (w:World) (g cells:Nat) (l:w.shape? g=a6 (e,cells)) (xs:List Int) (o:xs≠[]) (D:xs.length<=cells) (E:xs.length<=9223372036854775807)
  (p: ∀j x,xs[j]? =a6 x->w.cell? ((⟨g,0,a7⟩:Addr).add j)=a6 (.int .u8 x)):
  (Builtin.unsafeString_ #[d,it] ty #[.pointer (a6 ⟨g,0,a7⟩),.int .i64 xs.length]).run P w=.ok (.string ⟨(ofBytes xs).toArray⟩) (w.freeze ⟨g,0,a7⟩ xs.length):=by
 have hl:xs.length≠0:=by simpa using o
 have q:=KR (P:=P) w xs ⟨g,0,a7⟩ .empty p;have u:=Lib.liesAt_bytes (P:=P) i (cells/P.cellsOf e) xs.length (by simp_all);have v: ¬(9223372036854775807:Int)<(xs.length:Int):=by omega
 have y:Builtin.unsafeString_ #[d,it] ty #[.pointer (a6 ⟨g,0,a7⟩),.int .i64 xs.length]=
   (do
    let n<-asInt (.int .i64 xs.length)
    if n<0 then runtimePanic (.error "unsafe.String: len out of range")
    if n>IntKind.i64.max then unsupported (.unsafePointer "String: a length above the largest int")
    if n=0 then pure (.string .empty)
    else if<-variablesAt ⟨g,0,a7⟩ (<-elemOf d) n.toNat then do
     let s<-loadBytes ⟨g,0,a7⟩ .empty n.toNat
     freeze ⟨g,0,a7⟩ n.toNat
     pure (.string s)
    else unsupported (.unsafePointer "String: not so many bytes at ptr")):=rfl
 rw[y];have z:IntKind.i64.max=9223372036854775807:=rfl;have A: ¬(xs.length:Int)<0:=by omega
 have f:=L9 xs [];have B:(⟨([]:List UInt8).toArray⟩:ByteArray)=.empty:=rfl;rw[B]at f;simp[asInt,asIntOf,z,v,A,hl,variablesAt,l,elemOf,run_underlying hp,u,q];exact f
theorem ael (d:c.Ok W0) {st:St} (x:c.hp=st.hp) (y:c.nxt=st.nxt) {id f:Nat} {e:Ty} {xs:List e.den} (i:dQ c.hp id=a6 (.arr e f xs)) {w':World} (j:c.w.heap.size<=w'.heap.size)
  (o: ∀b,(c.mu id).v.ownBlock≠a6 b->w'.heap[b]? =c.w.heap[b]?) (l:w'.os=c.w.os/\w'.tape=c.w.tape/\w'.output=c.w.output):
  ∃c',AU W0 c st c' {st with hp:=iU st.hp id .dead}/\c'.w=w':=by
 have p:(dM.arr e f xs).like (c.mu id) .dead (c.mu id):=trivial;have q: ∀(b:Nat) (L:Loop),(dM.arr e f xs).blk (c.mu id)=a6 b->c.w.heap[b]? =a6 (Obj.loop L)-> ∃z:Loop,w'.heap[b]? =a6 (Obj.loop z):=fun b L g A=>absurd A ((d.obj id _ i).no_loop (by simp) g);have s: ∀b,dM.dead.blk (c.mu id)=a6 b->(dM.arr e f xs).blk (c.mu id)=a6 b\/c.w.heap.size<=b:=fun b g=>by cases g
 have u: ∀b,b<c.w.heap.size->(dM.arr e f xs).blk (c.mu id)≠a6 b->w'.heap[b]? =c.w.heap[b]? :=fun b _ B=>o b B;have D:Below W0.heap.size W0 w':=by
  refine⟨l.1.trans d.bel.os,l.2.1.trans d.bel.tape,l.2.2.trans d.bel.output,aI d.bel.size j,fun b g=>(o b fun h=> ?_).trans (d.bel.block b g)⟩;have:=((d.obj id _ i).lt (b:=b) h).1;omega
 have E:=Cx.Le.put (w:=w') d i p j u s q;exact⟨c.put id .dead (c.mu id) w',⟨by simp[Cx.put,x],y,rfl,rfl,d.put i p D j u s q trivial,E⟩,rfl⟩
theorem Tn (hT:TOk P T) (y:c.Ok W0) {cl:Bool} {call:gI R} {o:Oper} {st:St} {a:Act} {K:bU->St->Option R} {args:Array Operand} {z:Array TypeId} (A:c.hp=st.hp) (U:c.nxt=st.nxt) (V:bK c st.fr a.tmps.toList)
  (W:o.op=.call {callee:=.builtin .unsafeString,args:=args,argTypes:=z}) (h:eH T cl call o st K=a6 r):Ia P W0 c st o a K r:=by
 obtain⟨an,op,i,ao,av,aw⟩:=o;simp only at W;subst W;simp only[eH,kD]at h;split at h<;>try (cases h;done)
 all_goals try (rename_i u _;cases u;done)
 rename_i id aV n u d
 split at h<;>try (cases h;done)
 rename_i B l X
 split at h<;>try (cases h;done)
 rename_i v xs q
 rw[cond_eq_ite]at h;split at h
 .rename_i Y
  simp only[af,beq_iff_eq]at Y;obtain⟨rfl,ax⟩:=Y;replace h:=gG h;obtain⟨D,h⟩:=h;have D:n=(xs.length:Int):=by simpa [bV,bM] using D
  subst D;obtain⟨z⟩:=z;simp only at X;subst X;obtain⟨al⟩:=args
  match al with
  |[]=>simp at d
  |[_]=>simp at d
  |_::_::_::_=>simp at d
  |[E,G]=>
   simp only[au,aU,List.cons.injEq,and_true]at d;have I:=dU V E;have f:=dU V G;rw[d.1]at I;rw[d.2]at f;simp only[bW]at I f;have f:=f.int_inv;rw[<-A]at q;obtain⟨hp,ay⟩:=(I.2.2 _ _ _ q).2 rfl;obtain⟨_,e0,Z,ab,hL,J⟩:=y.obj id _ q;have J:=J rfl;obtain⟨az,aA⟩:=hT.isBytes ax;have ad:(execOp a.eval ⟨an,.call {callee:=.builtin .unsafeString,args:=[E,G].toArray,argTypes:=[B,l].toArray},i,ao,av,aw⟩).run P c.w=
     ((Builtin.unsafeString_ #[B,l] i #[a.eval E,a.eval G]).run P c.w).andThen fun v L=>.ok (.value v) L:=by
    simp[execOp,resolve,invoke,builtin,Sem.run_bind]
   have aB:Z=xs.map (.int .u8):=BA xs Z hL;by_cases hx:xs=[]
   .subst hx;obtain⟨p,hp⟩:=hp;obtain⟨M,N,O⟩:=ael y A U q (w':=c.w) (ae _) (fun _ _=>rfl) ⟨rfl,rfl,rfl⟩;refine⟨_,.string .empty,M,_,h,N, ?_,.inl ?_⟩
    .simp only[bW];exact VD.str_mk
    .rw[ad,hp,f];have:=Lib.run_unsafeString_none (P:=P) c.w B l i p;simp only[List.length_nil,Int.natCast_zero]at this ⊢;rw[this,O];rfl
   .have s:xs.length≠0:=by simpa using hx
    rcases ab.2 with ⟨_,h0⟩|⟨g,aG,ag,S,aW,hg,aX,aH,ak,aZ⟩
    .exact absurd h0 s
    .have hp:=ay _ _ _ S s;have aJ: ∀b,(c.mu id).v.ownBlock≠a6 b->(c.w.freeze ⟨g,0,a7⟩ xs.length).heap[b]? =c.w.heap[b]? :=fun b u=>by
      have aK:g≠b:=fun e=>u (by rw[S,<-e];rfl);unfold World.freeze;rw[aq s];simp only[Array.getElem?_modify];rw[aq aK]
     have aP:(c.w.freeze ⟨g,0,a7⟩ xs.length).heap.size=c.w.heap.size:=by
      unfold World.freeze;rw[aq s];simp
     have aQ:(c.w.freeze ⟨g,0,a7⟩ xs.length).os=c.w.os/\(c.w.freeze ⟨g,0,a7⟩ xs.length).tape=c.w.tape/\(c.w.freeze ⟨g,0,a7⟩ xs.length).output=c.w.output:=by
      unfold World.freeze;rw[aq s];exact⟨rfl,rfl,rfl⟩
     obtain⟨M,N,O⟩:=ael y A U q (w':=c.w.freeze ⟨g,0,a7⟩ xs.length) (Nat.le_of_eq aP.symm) aJ aQ;refine⟨_,.string ⟨(ofBytes xs).toArray⟩,M,_,h,N, ?_,.inl ?_⟩
     .simp only[bW];exact VD.str_mk
     .rw[ad,hp,f];have aS: ∀j x,xs[j]? =a6 x->c.w.cell? ((⟨g,0,a7⟩:Addr).add j)=a6 (.int .u8 x):=fun j x hj=>by
       have:=ab.cells (g:=g) (by rw[S];rfl) j (.int .u8 x) (by rw[aB];simp[hj]);exact this
      have ak:ag.size=aG:=by simpa [Ty.size] using ak
      rw[UE (ty:=i) (it:=l) az aA c.w g ag.size (by rw[<-J];simp[World.shape?,hg]) xs hx (by omega) (by unfold maxLen at aH;omega) aS,O];rfl
 .cases h
end
end
section
open Option renaming some → a6, none → a7
open Bool renaming and_eq_true → af
open List renaming map_cons → au, cons_append → aH
open Go.RowKit
theorem Sm {d l:IntKind} {a:Int}: ∀(f:List MapEntry) (g:List (Int×Int)) (i:Nat),f.map (fun e=>(e.key,e.val))=g.map (fun p=>(Value.int d p.1,Value.int l p.2))->
  (Ed g a=a7/\Instr.findNow (.int d) (.int d a) f i=a6 a7/\ ∀b cl,(f++[(⟨.int d a,.int l b,cl⟩:MapEntry)]).map (fun e=>(e.key,e.val))=(lH g a b).map (fun p=>(Value.int d p.1,Value.int l p.2)))\/
  ∃v j,Ed g a=a6 v/\Instr.findNow (.int d) (.int d a) f i=a6 (a6 (i+j,.int l v))/\(∃q,f[j]? =a6 q/\q.key=.int d a)/\
   ∀b,(f.modify j (fun e=>{e with key:=.int d a,val:=.int l b})).map (fun e=>(e.key,e.val))=(lH g a b).map (fun p=>(Value.int d p.1,Value.int l p.2))
 |[],[],i,_=>.inl ⟨rfl,rfl,fun b cl=>rfl⟩
 |[],_::_,_,h=>by simp at h
 |_::_,[],_,h=>by simp at h
 |e::f,(k,v)::g,i,h=>by
  simp only[au,List.cons.injEq,Prod.mk.injEq]at h;obtain⟨⟨u,y⟩,x⟩:=h;have s:Instr.sameNow (.int d) (.int d a) e.key=a6 (a==k):=by rw[u];simp[Instr.sameNow]
  by_cases hak:a=k
  .subst hak;refine .inr ⟨v,0,by simp[Ed,bV], ?_,⟨e,rfl,u⟩,fun b=> ?_⟩
   .simp[Instr.findNow,s,y]
   .simp[lH,bV,x]
  .have o:(a==k)=false:=by simpa using hak
   rw[o]at s;rcases Sm (a:=a) f g (i+1) x with ⟨g1,g2,g3⟩|⟨z,j,g1,g2,⟨q,g3,g4⟩,g5⟩
   .refine .inl ⟨by simp[Ed,bV,o,g1],by simp[Instr.findNow,s,g2],fun b cl=> ?_⟩;have:=g3 b cl;simp only[lH,bV,o,ac,aH,au,List.cons.injEq,Prod.mk.injEq];simp_all
   .refine .inr ⟨z,j+1,by simp[Ed,bV,o,g1], ?_,⟨q,by simpa using g3,g4⟩,fun b=> ?_⟩
    .grind [Instr.findNow]
    .have:=g5 b;simp only[lH,bV,o,ac,List.modify_succ_cons,au,List.cons.injEq,Prod.mk.injEq];simp_all
section
variable {P:Program} {T:TT} {W0:World} {c:Cx} {R:Type} {r:R} {t:TypeId}
theorem TN (hT:TOk P T) {a b:IntKind} (h:T.mapOf t=a6 (a,b)): ∃k e,P.underlying t=a6 (.map k e)/\P.underlying k=a6 (.int a)/\ ∃i,P.info? e=a6 i/\i.zero=a6 (.int b 0):=by
 unfold TT.mapOf at h;replace h:=dG h;obtain⟨hk,h⟩:=h;split at h
 .rename_i k e g
  replace h:=dG h;obtain⟨d,h⟩:=h;simp only[af]at d;split at h
  .rename_i o p j l
   cases h;obtain⟨i,z,f,_⟩:=hT.info d.2;exact⟨k,e,hT.map hk g,hT.int d.1 j,i,f,hT.zero_int d.2 l f⟩
  .cases h
 .cases h
theorem aFD (g:c.Ok W0) {st:St} (i:c.hp=st.hp) (h2:c.nxt=st.nxt) {id n':Nat} (j:dQ st.hp id=a7) (p:st.nxt<=id) (u:st.nxt<=n') (d e:IntKind):
  ∃c',AU W0 c st c' {st with hp:=(id,.mp d e [])::st.hp,nxt:=n'}/\c'.w=c.w.alloc (.map #[] 0)/\bW c' (.mpv id) (.map (a6 c.w.heap.size)):=by
 have hk:=Ae i h2 j p;have f:=ni c.w (.map #[] 0);have hl: ∀b,dM.blk (.mp d e []) ⟨c.w.heap.size,undef⟩=a6 b->c.w.heap.size<=b:=fun b f=>by
  simp_all [dM.blk]
 have q:=Cx.Le.push (o:=.mp d e []) (l:=⟨c.w.heap.size,undef⟩) (nxt:=n') (w:=c.w.alloc (.map #[] 0)) hk (by omega) f.size f.block hl;have s:(c.push id (.mp d e []) ⟨c.w.heap.size,undef⟩ n' (c.w.alloc (.map #[] 0))).ORel W0.heap.size id (.mp d e []):=by
  refine⟨by simp[Cx.push,upd_same];exact g.size,#[],0, ?_,rfl⟩;simp only[Cx.push,upd_same];exact heap_alloc_new c.w _
 refine⟨_,⟨?_,rfl,rfl,rfl,g.push hk (by omega) f hl s,q⟩,rfl, ?_⟩
 .simp[Cx.push,i]
 .simp only[bW];refine⟨rfl,.inl ⟨.mp d e [],by simp[Cx.push,eG]⟩,fun _ _ _ _=>by simp[Cx.push,upd_same]⟩
theorem aoC (hT:TOk P T) (e:c.Ok W0) {cl:Bool} {call:gI R} {o:Oper} {st:St} {a:Act} {K:bU->St->Option R} {f:Option Operand} (g:c.hp=st.hp) (i:c.nxt=st.nxt) (d:o.op=.makeMap t f)
  (h:eH T cl call o st K=a6 r):Ia P W0 c st o a K r:=by
 obtain⟨z,A,B,D,E,G⟩:=o;simp only at d;subst d;simp only[eH]at h;split at h
 .rename_i j l I
  obtain⟨id,J,p,q,u,v⟩:=ji h;obtain⟨L,x,M,y⟩:=aFD e g i p q u j l;refine qi (s:=Instr.makeMap t a7) rfl v x y (by simp_all [Instr.makeMap])
 .cases h
theorem aux (hT:TOk P T) (f:c.Ok W0) {cl:Bool} {call:gI R} {o:Oper} {st:St} {a:Act} {K:bU->St->Option R} {x y:Operand} {ok:Bool} (g:c.hp=st.hp) (z:c.nxt=st.nxt) (A:bK c st.fr a.tmps.toList) (B:o.op=.lookup t x y ok)
  (h:eH T cl call o st K=a6 r):Ia P W0 c st o a K r:=by
 obtain⟨ab,op,ty,ad,ae,ag⟩:=o;simp only at B;subst B;simp only[eH]at h;split at h
 .rename_i kk vk id M N
  split at h
  .rename_i ah d O D n l S
   replace h:=dG h;obtain⟨hk,h⟩:=h;simp only[af,decide_eq_true_eq]at hk;obtain⟨rfl,rfl,rfl⟩:=hk;obtain⟨kt,U,E,e,i,V,W⟩:=TN hT M;have p:=dU A x;rw[N]at p;simp only[bW]at p;rw[<-g]at l;have G:=p.2.2 _ _ _ l;obtain⟨hB,X,ai,I,Y⟩:=f.obj id _ l;have q:=dU A y;rw[S]at q;simp only[bW]at q;have J:=q.int_inv;have Z:(zeroValue U).run P c.w=.ok (.int d 0) c.w:=by simp[zeroValue,typeInfo,V,W]
   have L:MapKept.IsKey (.int D) (.int D n):=rfl;rcases Sm (a:=n) X.toList O 0 Y with ⟨g1,g2,_⟩|⟨v,j,g1,g2,_,_⟩
   .simp only[lU,avf,g1]at h;refine qi (s:=Instr.lookup t (a.eval x) (a.eval y) ok) (u:=if ok then .tuple #[.int d 0,.bool false]else .int d 0) rfl h (AU.refl f g z) ?_ ?_
    .cases ok
     .simp_all [bW,VD.int_mk]
     .simp only[aa,bW,if_true];exact⟨_,rfl,by simp_all [bK,bW,VD.int_mk,VD.bool_mk]⟩
    .rw[G,J];simp[Instr.lookup,run_underlying E,MapKept.run_getObj_map I,MapKept.run_checkKey e L,MapKept.run_findKey e g2,Z,Result.andThen]
   .simp only[lU,avf,g1]at h;refine qi (s:=Instr.lookup t (a.eval x) (a.eval y) ok) (u:=if ok then .tuple #[.int d v,.bool true]else .int d v) rfl h (AU.refl f g z) ?_ ?_
    .cases ok
     .simp_all [bW,VD.int_mk]
     .simp only[aa,bW,if_true];exact⟨_,rfl,by simp_all [bK,bW,VD.int_mk,VD.bool_mk]⟩
    .rw[G,J];simp[Instr.lookup,run_underlying E,MapKept.run_getObj_map I,MapKept.run_checkKey e L,MapKept.run_findKey e g2,Result.andThen]
  .cases h
 .cases h
theorem aen (hT:TOk P T) (A:c.Ok W0) {cl:Bool} {call:gI R} {o:Oper} {st:St} {a:Act} {K:bU->St->Option R} {x y z:Operand} (U:c.hp=st.hp) (ag:c.nxt=st.nxt) (I:bK c st.fr a.tmps.toList) (V:o.op=.mapUpdate t x y z)
  (h:eH T cl call o st K=a6 r):Ia P W0 c st o a K r:=by
 obtain⟨ah,op,ty,ai,aj,ak⟩:=o;simp only at V;subst V;simp only[eH]at h;split at h
 .rename_i kk vk id hm al
  split at h
  .rename_i aA aB s f n q b u hn B
   replace h:=dG h;obtain⟨hk,h⟩:=h;simp only[af,decide_eq_true_eq]at hk;obtain⟨rfl,rfl,rfl,rfl⟩:=hk;obtain⟨kt,et,W,E,i,u3,u4⟩:=TN hT hm;have J:=dU I x;rw[al]at J;simp only[bW]at J;rw[<-U]at u;have hv:=J.2.2 _ _ _ u;obtain⟨hB,G,M,D,h4⟩:=A.obj id _ u;have N:=dU I y;rw[hn]at N;simp only[bW]at N;have an:=N.int_inv;have O:=dU I z;rw[B]at O;simp only[bW]at O;have ao:=O.int_inv;have S:MapKept.IsKey (.int f) (.int f n):=rfl;have X: ∃g l,(Instr.mapUpdate t (a.eval x) (a.eval y) (a.eval z)).run P c.w=.ok () {c.w with heap:=c.w.heap.setIfInBounds (c.mu id).blk (.map g l)}/\g.toList.map (fun e=>(e.key,e.val))=(lH s n b).map (fun p=>(Value.int f p.1,Value.int q p.2)):=by
    rw[hv,an,ao];rcases Sm (a:=n) G.toList s 0 h4 with ⟨g1,g2,g3⟩|⟨v,j,g1,g2,⟨e0,g3,g4⟩,g5⟩
    .exact⟨G.push ⟨.int f n,.int q b,M⟩,M+1,by
      simp[Instr.mapUpdate,run_underlying W,MapKept.run_getObj_map D,MapKept.run_checkKey E S,MapKept.run_findKey E g2,MapKept.run_setObj_map _ D,Result.andThen],by
      simp_all⟩
    .have hj:G[j]? =a6 e0:=by simpa using g3
     exact⟨G.modify j (fun e'=>{e' with key:=.int f n,val:=.int q b}),M,by
      simp[Instr.mapUpdate,run_underlying W,MapKept.run_getObj_map D,MapKept.run_checkKey E S,MapKept.run_findKey E g2,hj,g4,MapKept.run_keyThatStays S,MapKept.run_setObj_map _ D,Result.andThen],by
      simp_all⟩
   obtain⟨g,l,X,av⟩:=X;have aw:(execOp a.eval ⟨ah,.mapUpdate t x y z,ty,ai,aj,ak⟩).run P c.w=.ok .skip {c.w with heap:=c.w.heap.setIfInBounds (c.mu id).blk (.map g l)}:=by
    simp_all [execOp]
   have iU:=MapKept.heap_set (o':=Obj.map g l) D;have Y:(dM.mp f q s).like (c.mu id) (.mp f q (lH s n b)) (c.mu id):=rfl;have Z:c.w.heap.size<=({c.w with heap:=c.w.heap.setIfInBounds (c.mu id).blk (.map g l)}:World).heap.size:=by simp
   have ab: ∀d,d<c.w.heap.size->(dM.mp f q s).blk (c.mu id)≠a6 d->({c.w with heap:=c.w.heap.setIfInBounds (c.mu id).blk (.map g l)}:World).heap[d]? =c.w.heap[d]? :=
    fun d _ ax=>iU.2 d (fun e=>ax (by simp[dM.blk,e]))
   have ad: ∀d,(dM.mp f q (lH s n b)).blk (c.mu id)=a6 d->(dM.mp f q s).blk (c.mu id)=a6 d\/c.w.heap.size<=d:=fun d B=>.inl B;have ae: ∀(d:Nat) (L:Loop),(dM.mp f q s).blk (c.mu id)=a6 d->c.w.heap[d]? =a6 (Obj.loop L)-> ∃L':Loop,({c.w with heap:=c.w.heap.setIfInBounds (c.mu id).blk (.map g l)}:World).heap[d]? =a6 (Obj.loop L'):=fun d L B hL=>absurd hL ((A.obj id _ u).no_loop (by simp) B);have ay:=Cx.Le.put (w:={c.w with heap:=c.w.heap.setIfInBounds (c.mu id).blk (.map g l)}) A u Y Z ab ad ae;have az:Below W0.heap.size W0 {c.w with heap:=c.w.heap.setIfInBounds (c.mu id).blk (.map g l)}:=
    A.bel.trans ⟨rfl,rfl,rfl,by simp,fun k hk=>iU.2 k (by omega)⟩
   refine⟨_,undef,c.put id _ (c.mu id) _,_,h,⟨by simp[Cx.put,U],ag,rfl,rfl,A.put u Y az Z ab ad ae ?_,ay⟩,by simp[bW],.inr ⟨aw,rfl⟩⟩;refine⟨by simp only[Cx.put,upd_same];exact hB,g,l, ?_,av⟩;simp_all [Cx.put,upd_same]
  .cases h
 .cases h
end
end
section
open Option renaming some → a6, none → a7
open Nat renaming le_refl → ae, le_trans → aI
open Go.RowKit
def FW (rd:Option Nat):Fence:={Fence.wide with round:=rd}
theorem aLk:FW a7=Fence.wide:=rfl
theorem aMA (rd:Option Nat) (f:FuncId):(FW rd).fn f:=trivial
theorem oK (rd:Option Nat) {n:Nat}:(FW rd).depth.isSome=true->1<=n:=fun h=>by simp[FW,Fence.wide]at h
theorem aH6 (rd:Option Nat):(FW rd).round=rd:=rfl
theorem aLl (rd:Option Nat) (n:Nat):(FW rd).room n:=fun _ h=>by simp[FW,Fence.wide]at h
def mkD (r:Nat):Deferred:={target:=.collected r,args:= #[]}
def Dh (c:Cx):List (List bU)->List (Array Value)->Prop
 |[],[]=>True
 |f::d,t::e=>bK c f t.toList/\Dh c d e
 |_,_=>False
theorem Dh.le {c c':Cx} (h:c.Le c'): ∀(e:List (List bU)) (g:List (Array Value)),Dh c e g->Dh c' e g
 |[],[],_=>trivial
 |f::e,t::g,d=>⟨bK.le h _ _ d.1,Dh.le h e g d.2⟩
 |[],_::_,d=>d.elim
 |_::_,[],d=>d.elim
structure Cx.Mono (c c':Cx):Prop where
 mks: ∀r,r∈c.mks->r∈c'.mks
 lp: ∀(b:Nat) (L:Loop),c.w.heap[b]? =a6 (Obj.loop L)-> ∃L':Loop,c'.w.heap[b]? =a6 (Obj.loop L')
 size:c.w.heap.size<=c'.w.heap.size
 bar:c'.bar=c.bar
 out: ∀b,c.out b->c'.out b/\c'.w.heap[b]? =c.w.heap[b]?
theorem Cx.Le.mono {c c':Cx} (h:c.Le c'):c.Mono c':=⟨h.mks,h.lp,h.size,h.bar,h.out⟩
theorem Cx.Mono.refl (c:Cx):c.Mono c:=⟨fun _ h=>h,fun b L h=>⟨L,h⟩,ae _,rfl,fun _ h=>⟨h,rfl⟩⟩
theorem Cx.Mono.trans {a b c:Cx} (h:a.Mono b) (k:b.Mono c):a.Mono c:=
 ⟨fun r hr=>k.mks r (h.mks r hr),fun b L e=>let⟨f,g⟩:=h.lp b L e;k.lp b f g,aI h.size k.size,k.bar.trans h.bar,fun x d=>⟨(k.out x (h.out x d).1).1,(k.out x (h.out x d).1).2.trans (h.out x d).2⟩⟩
structure iM (W0:World) (b0:Nat) (rd:Option Nat) (c:Cx) (st:St) (a:Act) (ats:List (Array Value)):Prop where
 hp:c.hp=st.hp
 nxt:c.nxt=st.nxt
 ok:c.Ok W0
 fr:bK c st.fr a.tmps.toList
 stk:Dh c st.stk ats
 df: ∃ds:List Nat,a.defers=ds.map mkD/\ds.Nodup/\ ∀r∈ds,r∈c.mks/\b0<=r
 rd: ∀l,rd=a6 l-> ∃L:Loop,c.w.heap[l]? =a6 (Obj.loop L)
section
variable {P:Program} {T:TT} {W0:World} {b0 n:Nat} {rd:Option Nat} {c:Cx} {R:Type} {r:R} {st:St} {a:Act} {ats:List (Array Value)}
theorem avI (a:Act) (dst:Option Nat) (v:Value) (fr:List bU) (z:bU) (h:bK c fr a.tmps.toList) (e:bW c z v):bK c (match dst with|some d=>fr.set d z|none=>fr) (a.put dst v).tmps.toList:=by
 grind [Act.put,bK.set]
theorem aF9 (st:St) (dst:Option Nat) (z:bU):(st.put dst z).fr=(match dst with|some d=>st.fr.set d z|none=>st.fr)/\(st.put dst z).hp=st.hp/\(st.put dst z).nxt=st.nxt/\(st.put dst z).stk=st.stk:=by
 cases dst<;>exact⟨rfl,rfl,rfl,rfl⟩
theorem put_defers (a:Act) (dst:Option Nat) (v:Value):(a.put dst v).defers=a.defers:=by cases dst<;>rfl
theorem iM.put (h:iM W0 b0 rd c st a ats) {dst:Option Nat} {z:bU} {v:Value} (d:bW c z v):iM W0 b0 rd c (st.put dst z) (a.put dst v) ats:=by
 obtain⟨e,f,g,i⟩:=aF9 st dst z;exact⟨h.hp.trans f.symm,h.nxt.trans g.symm,h.ok,by rw[e];exact avI a dst v _ z h.fr d,by rw[i];exact h.stk,by rw[put_defers];exact h.df,h.rd⟩
theorem iM.did (h:iM W0 b0 rd c st a ats) {c':Cx} {d:St} (hd:AU W0 c st c' d):iM W0 b0 rd c' d a ats:=
 ⟨hd.hp,hd.nxt,hd.ok,by rw[hd.fr];exact bK.le hd.le _ _ h.fr,by rw[hd.stk];exact Dh.le hd.le _ _ h.stk,
  let⟨f,g,i,e⟩:=h.df;⟨f,g,i,fun r hr=>⟨hd.le.mks r (e r hr).1,(e r hr).2⟩⟩,fun l hl=>let⟨L,j⟩:=h.rd l hl;hd.le.lp l L j⟩
def After (W0:World) (b0:Nat) (rd:Option Nat) (c:Cx) (ats:List (Array Value)) (K:St->Option R) (r:R) (f:Act) (w':World):Prop:=
 ∃d e,K e=a6 r/\iM W0 b0 rd d e f ats/\c.Mono d/\d.w=w'
def lV (P:Program) (W0:World) (n:Nat) (call:gI R):Prop:=
 ∀(b0:Nat) (rd:Option Nat) (f:bU) (g:List bU) (p:Option Nat) (st:St) (K:bU->St->Option R) (r:R),call f g p st K=a6 r->
  ∀(c:Cx) (a:Act) (ats:List (Array Value)) (i:Value) (j:Array Value),iM W0 b0 rd c st a ats->bW c f i->bK c g j.toList->
   ∀(o:Oper) (next:Act->World->Prop) (Q:Exit->Act->World->Prop),(∀e z u l,K z l=a6 r->iM W0 b0 rd e l a ats->bW e z u->c.Mono e->next (a.put o.dst u) e.w)->
    o.uponIn (FW rd) n P a next Q ((do let d<-Deferred.ofValue i j;invoke d.target d.args:Sem Next).run P c.w)
def qh:Op->Bool
 |.defer _=>true
 |_=>false
theorem wU {o:Oper} (h:qh o.op=false) (rd:Option Nat) (d:Operand->Value):Oper.semAt rd d o=execOp d o:=
 Oper.semAt_eq rd d o fun c e=>by rw[e]at h;cases h
theorem pX (o:Oper) (w:World) (d:Operand->Value): ∀f,o.about P w d=a6 f->(FW rd).fn f:=fun _ _=>trivial
theorem mX {o:Oper} {K:bU->St->Option R} (hd:qh o.op=false) (h:Ia P W0 c st o a K r) (hr:iM W0 b0 rd c st a ats) {next:Act->World->Prop} {Q:Exit->Act->World->Prop}
  (g: ∀c' z u e,K z e=a6 r->iM W0 b0 rd c' e a ats->bW c' z u->c.Mono c'->next (a.put o.dst u) c'.w):o.wpIn (FW rd) n P a c.w next Q:=by
 obtain⟨z,u,c',e,i,f,j,d⟩:=h;refine⟨pX o c.w _, ?_⟩;rw[wU hd];have:=g c' z u e i (hr.did f) j f.le.mono;rcases d with d|⟨d,rfl⟩
 .rw[d];exact this
 .rw[d];exact this
theorem Ua (hT:TOk P T) {cl:Bool} {call:gI R} (G:lV P W0 n call) {o:Oper} {K:bU->St->Option R} (h:eH T cl call o st K=a6 r) (hr:iM W0 b0 rd c st a ats) {next:Act->World->Prop} {Q:Exit->Act->World->Prop}
  (d: ∀c' z u A,K z A=a6 r->iM W0 b0 rd c' A a ats->bW c' z u->c.Mono c'->next (a.put o.dst u) c'.w):o.wpIn (FW rd) n P a c.w next Q:=by
 by_cases hq:iy o.op=true
 .obtain⟨z,u,I,q,J⟩:=Ai hT hr.ok hq hr.hp hr.fr h;have hd:qh o.op=false:=by cases ho:o.op<;>simp_all [iy,jM,qh]
  exact mX hd ⟨z,u,c,st,I,AU.refl hr.ok hr.hp hr.nxt,q,.inl (J c.w (Below.refl _ _))⟩ hr d
 .cases ho:o.op with
  |alloc t=>exact mX (by rw[ho];rfl) (azB hT hr.ok hr.hp hr.nxt ho h) hr d
  |box t x=>exact mX (by rw[ho];rfl) (aJD hT hr.ok hr.hp hr.nxt hr.fr ho h) hr d
  |buildSlice t k N=>exact mX (by rw[ho];rfl) (Zh hT hr.ok hr.hp hr.nxt hr.fr ho h) hr d
  |makeSlice t l cp=>exact mX (by rw[ho];rfl) (aem hT hr.ok hr.hp hr.nxt hr.fr ho h) hr d
  |store t x y=>exact mX (by rw[ho];rfl) (azC hT hr.ok hr.hp hr.nxt hr.fr ho h) hr d
  |makeFunc fn first s=>
   obtain⟨dst,v,e,g,i,j⟩:=o;simp only at ho;subst ho;simp only[eH]at h;split at h
   .rename_i f B
    obtain⟨O⟩:=first
    simp only at B;subst B;refine mX rfl ⟨_,.func (.func f) #[] (s.map a.eval),c,st,h,AU.refl hr.ok hr.hp hr.nxt, ?_,.inl ?_⟩ hr d
    .simp only[bW];refine⟨_,rfl, ?_⟩;have:=bK.map_eval (c:=c) hr.fr s.toList;simpa using this
    simp_all [execOp,Instr.makeFunc]
   .rename_i l f S
    replace h:=dG h;obtain⟨U,h⟩:=h;have L:s= #[]:=by
     simp_all
    subst L;refine mX rfl ⟨_,.func (.func f) (first.map a.eval) #[],c,st,h,AU.refl hr.ok hr.hp hr.nxt, ?_,.inl ?_⟩ hr d
    .simp only[bW];refine⟨_,rfl, ?_⟩;have:=bK.map_eval (c:=c) hr.fr first.toList;simpa using this
    simp_all [execOp,Instr.makeFunc]
   .cases h
  |makeMap t V=>exact mX (by rw[ho];rfl) (aoC hT hr.ok hr.hp hr.nxt ho h) hr d
  |lookup t x y k=>exact mX (by rw[ho];rfl) (aux hT hr.ok hr.hp hr.nxt hr.fr ho h) hr d
  |mapUpdate t x y z=>exact mX (by rw[ho];rfl) (aen hT hr.ok hr.hp hr.nxt hr.fr ho h) hr d
  |call M=>
   obtain⟨D,p,E⟩:=M;cases D with
   |builtin b=>
    cases b with
    |append=>exact mX (by rw[ho];rfl) (auw hT hr.ok hr.hp hr.nxt hr.fr ho h) hr d
    |unsafeSliceData=>exact mX (by rw[ho];rfl) (aeo hT hr.ok hr.hp hr.nxt hr.fr ho h) hr d
    |unsafeString=>exact mX (by rw[ho];rfl) (Tn hT hr.ok hr.hp hr.nxt hr.fr ho h) hr d
    |len=>rw[ho]at hq;exact absurd rfl hq
    |min=>rw[ho]at hq;exact absurd rfl hq
    |max=>rw[ho]at hq;exact absurd rfl hq
    |_=>
     obtain⟨dst,v,e,g,i,j⟩:=o;simp only at ho;subst ho;simp[eH,kD]at h
   |invoke x m=>
    simp_all [eH]
   |value f=>
    obtain⟨dst,v,e,g,i,j⟩:=o;simp only at ho;subst ho;simp only[eH]at h;refine⟨pX _ c.w _, ?_⟩;rw[wU rfl];have q:=G b0 rd _ _ dst st K r h c a ats (a.eval f) (p.map a.eval) hr (dU hr.fr f) (by
     have:=bK.map_eval (c:=c) hr.fr p.toList;simpa using this) ⟨dst,.call {callee:=.value f,args:=p,argTypes:=E},e,g,i,j⟩ next Q d
    exact q
  |_=>
   obtain⟨dst,v,e,g,i,j⟩:=o;simp only at ho;subst ho
   first
    |(simp[iy,jM]at hq;done)
    |(simp[eH]at h;done)
theorem Je (ops:Array Oper) (j d:Nat) (h:(ops[j]?).bind (·.dst)=a6 d) (tmps:Array Value):yielded ops tmps j=(match tmps[d]? with|some (.bool b)=>a6 b|_=>a7):=by
 grind [yielded]
theorem Na (hT:TOk P T) {cl:Bool} {call:gI R} (s:lV P W0 n call) (ops:Array Oper) {K:St->Option R} {Q:Exit->Act->World->Prop}: ∀(l:List Oper) (c:Cx) (st:St) (a:Act),ig T cl call ops K l st=a6 r->iM W0 b0 rd c st a ats->
  (∀c' e p,K e=a6 r->iM W0 b0 rd c' e p ats->c.Mono c'->Q .normal p c'.w)->wpListIn (FW rd) n P ops Q l a c.w
 |[],c,st,a,h,hr,q=>by
  simp only[ig]at h;exact q c st a h hr (Cx.Mono.refl c)
 |o::l,c,st,a,h,hr,q=>by
  simp only[ig]at h;have Y: ∀(c:Cx) (st:St) (a:Act),iM W0 b0 rd c st a ats->(∀c' e p,K e=a6 r->iM W0 b0 rd c' e p ats->c.Mono c'->Q .normal p c'.w)->eH T cl call o st (fun v st=>ig T cl call ops K l (st.put o.dst v))=a6 r->
    o.wpIn (FW rd) n P a c.w (wpListIn (FW rd) n P ops Q l) Q:=fun c st a hr q h=>
   Ua hT s h hr fun c' z u e E G I J=>Na hT s ops l c' (e.put o.dst z) (a.put o.dst u) E (G.put I) fun L M N k1 k2 k3=>q L M N k1 k2 (J.trans k3)
  have y: ∀(st:St),iM W0 b0 rd c st a ats->ig T cl call ops K l (st.put o.dst (.tup []))=a6 r->(∀f,o.about P c.w a.eval=a6 f->(FW rd).fn f)/\wpListIn (FW rd) n P ops Q l (a.put o.dst undef) c.w:=fun st hr h=>
   ⟨pX o c.w _,Na hT s ops l c (st.put o.dst (.tup [])) (a.put o.dst undef) h (hr.put (by simp only[bW];exact⟨#[],rfl,by simp[bK]⟩)) q⟩
  simp only[wpListIn];cases hg:o.guard with
  |none=>
   rw[hg]at h;rw[am (by simp[Region.wanted,hg])]
   grind
  |some O=>
   obtain⟨j,S⟩:=O;rw[hg]at h;simp only at h;split at h
   .cases h
   .rename_i d hd
    have g:=Je ops j d hd a.tmps;have i:=hr.fr.getD d;have U:=bK.length _ _ hr.fr;rw[Array.length_toList]at U;split at h
    .rename_i b A
     rw[A]at i;simp only[bW]at i;have V:=i.bool_inv;have Z:d<a.tmps.size:=by
      grind
     have B:a.tmps[d]? =a6 (.bool b):=by
      simp_all
     rw[B]at g;simp only at g;have W:a.put (a6 d) (.bool b)=a:=by
      simp only[Act.put];obtain⟨ab,ad⟩:=Array.getElem?_eq_some_iff.1 B;have:a.tmps.setIfInBounds d (.bool b)=a.tmps:=by
       grind
      rw[this]
     have D:iM W0 b0 rd c (st.put (a6 d) (.val .bool b)) a ats:=by
      have:=hr.put (dst:=a6 d) (z:=.val .bool b) (v:=.bool b) (by simp_all [bW]);rwa [W]at this
     cases b<;>cases S<;>(try simp only[aa,ac]at h)
     .rw[am (by simp[Region.wanted,hg,g])]
      grind
     .rw[aq (by simp[Region.wanted,hg,g])];exact y _ D h
     .rw[aq (by simp[Region.wanted,hg,g])];exact y _ D h
     .rw[am (by simp[Region.wanted,hg,g])]
      grind
    .rename_i A
     rw[A]at i;simp only[bW]at i;obtain⟨vs,V,_⟩:=i;have X:yielded ops a.tmps j=a7:=by
      rw[g];cases he:a.tmps[d]? with
      |none=>rfl
      |some x=>
       simp_all
     rw[aq (by simp[Region.wanted,hg,X])];exact y st hr h
    .cases h
end
end
section
open Bool renaming not_eq_true' → aY
open List renaming mem_cons_of_mem → ak, map_cons → au, mem_append_right → bn, mem_append_left → bF
open Nat renaming le_refl → ae
open Go.RowKit
structure Cx.Keeps (c c':Cx) (l:List Nat):Prop where
 free: ∀b,c.free b->c'.free b/\c'.w.heap[b]? =c.w.heap[b]?
 ref: ∀id∈l,c.known id->c'.known id
 obj: ∀id∈l,∀o',dQ c'.hp id=some o'-> ∃o,dQ c.hp id=some o/\o.like (c.mu id) o' (c'.mu id)
theorem Cx.Keeps.sub {c c':Cx} {l m:List Nat} (h:c.Keeps c' l) (e: ∀i∈m,i∈l):c.Keeps c' m:=⟨h.free,fun i d=>h.ref i (e i d),fun i d=>h.obj i (e i d)⟩
theorem Cx.Keeps.left {c c':Cx} {l m:List Nat} (h:c.Keeps c' (l++m)):c.Keeps c' l:=h.sub fun i d=>bF _ d
theorem Cx.Keeps.right {c c':Cx} {l m:List Nat} (h:c.Keeps c' (l++m)):c.Keeps c' m:=h.sub fun i d=>bn _ d
mutual
theorem bW.keeps {c c':Cx}: ∀(v:bU) (x:Value),c.Keeps c' (refs v)->bW c v x->bW c' v x
 |.undef,_,_,_=>by simp[bW]
 |.val t x,v,h,d=>by
  simp only[bW]at d ⊢;exact⟨fun e=>let⟨cs,j,g⟩:=d.1 e;⟨cs,j,eY.mono h.free t x _ g⟩,fun e=>eY.mono h.free t x _ (d.2 e)⟩
 |.nils,_,_,d=>by assumption
 |.emp,_,_,d=>by assumption
 |.lst t x b,v,h,d=>by
  simp only[bW]at d ⊢;exact⟨⟨fun e=>let⟨cs,j,g⟩:=d.1.1 e;⟨cs,j,eY.mono h.free (.list t) x _ g⟩,fun e=>eY.mono h.free (.list t) x _ (d.1.2 e)⟩,d.2⟩
 |.nilp,_,_,d=>by assumption
 |.nilfn,_,_,d=>by assumption
 |.tup l,v,h,d=>by simp only[bW]at d ⊢;obtain⟨y,j,g⟩:=d;exact⟨y,j,bK.keeps l _ (by simpa [refs] using h) g⟩
 |.agg l,v,h,d=>by simp only[bW]at d ⊢;obtain⟨y,j,g,z⟩:=d;exact⟨y,j,bK.keeps l _ (by simpa [refs] using h) g,z⟩
 |.cellp t x,v,h,d=>by
  simp only[bW]at d ⊢;obtain⟨b,o,D,j,g,z,E⟩:=d;exact⟨b,o,D,j,(h.free b g).1,z.of_block (h.free b g).2,eY.mono h.free t x _ E⟩
 |.ptr id G,v,h,d=>by
  simp only[bW]at d ⊢;obtain⟨q,d⟩:=d;refine⟨q,h.ref id (by simp[refs]) d.1,fun t cs s=> ?_⟩;obtain⟨o,j,g⟩:=h.obj id (by simp[refs]) _ s;cases o<;>simp only[dM.like]at g;simp_all
 |.slf id,v,h,d=>by
  simp only[bW]at d ⊢;obtain⟨q,d⟩:=d;refine⟨q,h.ref id (by simp[refs]) d.1,fun t cs s=> ?_⟩;obtain⟨o,j,g⟩:=h.obj id (by simp[refs]) _ s;cases o<;>simp only[dM.like]at g;simp_all
 |.sd id A,v,h,d=>by
  simp only[bW]at d ⊢;obtain⟨q,d⟩:=d;refine⟨q,h.ref id (by simp[refs]) d.1,fun t u xs s=> ?_⟩;obtain⟨o,j,g⟩:=h.obj id (by simp[refs]) _ s;cases o with
  |arr t' v' B=>
   grind [dM.like]
  |box _ _=>simp[dM.like]at g
  |lp _ _ _ _ _ _ _ _=>simp[dM.like]at g
  |dead=>simp[dM.like]at g
  |mp _ _ _=>simp[dM.like]at g
 |.slc id A I,v,h,d=>by
  simp only[bW]at d ⊢;obtain⟨q,d⟩:=d;refine⟨q,h.ref id (by simp[refs]) d.1,fun t u xs s=> ?_⟩;obtain⟨o,j,g⟩:=h.obj id (by simp[refs]) _ s;cases o with
  |arr t' v' B=>
   grind [dM.like]
  |box _ _=>simp[dM.like]at g
  |lp _ _ _ _ _ _ _ _=>simp[dM.like]at g
  |dead=>simp[dM.like]at g
  |mp _ _ _=>simp[dM.like]at g
 |.ep id A i G,v,h,d=>by
  simp only[bW]at d ⊢;obtain⟨q,d⟩:=d;refine⟨q,h.ref id (by simp[refs]) d.1,fun t u xs s=> ?_⟩;obtain⟨o,j,g⟩:=h.obj id (by simp[refs]) _ s;cases o with
  |arr t' v' B=>
   grind [dM.like]
  |box _ _=>simp[dM.like]at g
  |lp _ _ _ _ _ _ _ _=>simp[dM.like]at g
  |dead=>simp[dM.like]at g
  |mp _ _ _=>simp[dM.like]at g
 |.fn f l,v,h,d=>by simp only[bW]at d ⊢;obtain⟨y,j,g⟩:=d;exact⟨y,j,bK.keeps l _ (by simpa [refs] using h) g⟩
 |.mfn f l,v,h,d=>by simp only[bW]at d ⊢;obtain⟨y,j,g⟩:=d;exact⟨y,j,bK.keeps l _ (by simpa [refs] using h) g⟩
 |.mpv id,v,h,d=>by
  simp only[bW]at d ⊢;obtain⟨q,d⟩:=d;refine⟨q,h.ref id (by simp[refs]) d.1,fun J K L s=> ?_⟩;obtain⟨o,j,g⟩:=h.obj id (by simp[refs]) _ s;cases o<;>simp only[dM.like]at g;simp_all
 |.yld id,v,h,d=>by
  simp only[bW]at d ⊢;obtain⟨q,d⟩:=d;refine⟨q,h.ref id (by simp[refs]) d.1,fun f M N asg O S n p s=> ?_⟩;obtain⟨o,j,g⟩:=h.obj id (by simp[refs]) _ s;cases o<;>simp only[dM.like]at g;simp_all
theorem bK.keeps {c c':Cx}: ∀(l:List bU) (xs:List Value),c.Keeps c' (lq l)->bK c l xs->bK c' l xs
 |[],[],_,_=>by simp[bK]
 |v::l,x::xs,h,d=>by
  simp only[lq]at h;simp only[bK]at d ⊢;exact⟨bW.keeps v x h.left d.1,bK.keeps l xs h.right d.2⟩
 |[],_::_,_,d=>by simp[bK]at d
 |_::_,[],_,d=>by simp[bK]at d
end
theorem Dh.keeps {c c':Cx}: ∀(e:List (List bU)) (g:List (Array Value)),c.Keeps c' (qZ e)->Dh c e g->Dh c' e g
 |[],[],_,_=>trivial
 |f::e,t::g,h,d=>by
  simp only[qZ]at h;exact⟨bK.keeps _ _ h.left d.1,Dh.keeps e g h.right d.2⟩
 |[],_::_,_,d=>d.elim
 |_::_,[],_,d=>d.elim
theorem jW (p:Nat->Bool): ∀(h:gQ) (i:Nat),dQ (h.filter fun e=>p e.1) i=if p i=true then dQ h i else none
 |[],i=>by simp[dQ]
 |(k,o)::h,i=>by
  rw[List.filter_cons];by_cases hk:p k=true
  .simp only[hk,if_true,eG,jW p h i]
   grind
  .rw[aq hk,jW p h i,eG]
   grind
theorem wL: ∀(h:gQ) (i:Nat) (o:dM),dQ h i=some o->(i,o)∈h
 |[],i,o,d=>by simp[dQ]at d
 |(k,e)::h,i,o,d=>by
  rw[eG]at d;split at d
  .simp_all
  .exact ak _ (wL h i o d)
theorem Aj: ∀(h:gQ) (e:Nat×dM),e∈h-> ∀i∈e.2.refs,i∈wS h
 |[],e,d,i,f=>by simp at d
 |(k,o)::h,e,d,i,f=>by
  simp only[wS,List.mem_append];rcases List.mem_cons.1 d with g|g
  .simp_all
  .right;exact Aj h e g i f
theorem tN {d l:List Nat} (h:Eg d l=true): ∀i∈l,i∉d:=by
 intro i e hd;have:=List.all_eq_true.1 h i e;simp only[aY,Zx]at this;have f:d.any (Nat.beq i)=true:=List.any_eq_true.2 ⟨i,hd,by simp⟩;simp_all
theorem Cx.keeps_filter {c:Cx} {p:Nat->Bool} {l:List Nat} (s: ∀i∈l,i∉((c.hp.filter fun e=> !p e.1).map (·.1))):c.Keeps {c with hp:=c.hp.filter fun e=>p e.1} l:=by
 refine⟨fun b g=>⟨⟨g.1, ?_,g.2.2⟩,rfl⟩,fun i j hk=> ?_,fun i j q d=> ?_⟩
 .rintro ⟨i,o,f,u⟩;rw[jW]at f;split at f
  .exact g.2.1 ⟨i,o,f,u⟩
  .cases f
 .rcases hk with ⟨o,d⟩|hk
  .left;refine⟨o, ?_⟩;rw[jW];split
   .exact d
   .rename_i hp
    exfalso;refine s i j (List.mem_map.2 ⟨(i,o),List.mem_filter.2 ⟨wL _ _ _ d,by simp[hp]⟩,rfl⟩)
  .exact .inr hk
 .rw[jW]at d;split at d
  .exact⟨q,d,q.like_refl _⟩
  .cases d
section
variable {P:Program} {T:TT} {W0:World} {b0 n:Nat} {rd:Option Nat} {c:Cx} {R:Type} {r:R} {st:St} {a:Act} {ats:List (Array Value)}
theorem Uc (c:Cx) (p:Nat->Bool): ∀b,c.out b->({c with hp:=c.hp.filter fun e=>p e.1}:Cx).out b/\({c with hp:=c.hp.filter fun e=>p e.1}:Cx).w.heap[b]? =c.w.heap[b]? :=fun b f=>⟨⟨f.1,(by
 rintro ⟨i,o,d,g⟩;simp only at d g;rw[jW]at d;split at d
 .exact f.2.1 ⟨i,o,d,g⟩
 .cases d),f.2.2⟩,rfl⟩
theorem Cx.Ok.filter (l:c.Ok W0) {p:Nat->Bool} (hk:c.Keeps {c with hp:=c.hp.filter fun e=>p e.1} (wS (c.hp.filter fun e=>p e.1))):({c with hp:=c.hp.filter fun e=>p e.1}:Cx).Ok W0:=by
 have sub: ∀i o,dQ (c.hp.filter fun e=>p e.1) i=some o->dQ c.hp i=some o:=fun i o h=>by
  simp_all [jW]
 refine⟨l.bel,fun i o z=> ?_,fun i j o q b d g=>l.inj i j o q b (sub i o d) (sub j q g),l.mks,fun b v=>⟨(l.bar b v).1,(fun⟨i,o,d,g⟩=>(l.bar b v).2.1 ⟨i,o,sub i o d,g⟩),(l.bar b v).2.2⟩,l.phi⟩;have s:=l.obj i o (sub i o z);have A:=wL _ _ _ z;cases o with
 |box e cs=>
  obtain⟨d,B,g,u,x⟩:=s;exact⟨d,B,g,bK.keeps _ _ (hk.sub fun j y=>Aj _ _ A j y) u,x⟩
 |arr t ver xs=>
  obtain⟨s,e,D,d,g,u⟩:=s;exact⟨s,e,D,d,fQ.mono (eY.mono hk.free t) _ _ g,u⟩
 |lp f fr ps asg bd ky n p=>
  obtain⟨s,d,L,g,u,x⟩:=s;exact⟨s,d,L,g,bK.keeps _ _ (hk.sub fun j y=>Aj _ _ A j y) u,x⟩
 |dead=>trivial
 |mp kk vk E=>exact s
theorem iM.gc (hr:iM W0 b0 rd c st a ats) {d:Nat} {v:bU} {u:Value} (l:bW c v u) {f:St} (h:gc d v st=some f):
  ∃c',iM W0 b0 rd c' f a ats/\bW c' v u/\c.Mono c'/\c'.w=c.w/\f.stk=st.stk/\f.fr=st.fr:=by
 obtain⟨fr,stk,o,q⟩:=st;simp only[Go.Proofs.YtlhpdcadgbjhiaaGreatDoor.gc]at h;rw[cond_eq_ite]at h;split at h
 .rename_i g
  cases h;have j:=hr.hp;simp only at j;subst j;have s: ∀p:Nat->Bool,Eg ((c.hp.filter fun e=> !p e.1).map (·.1)) (refs v++lq fr++qZ stk++wS (c.hp.filter fun e=>p e.1))=true->
    ∃c',iM W0 b0 rd c' ⟨fr,stk,c.hp.filter fun e=>p e.1,q⟩ a ats/\bW c' v u/\c.Mono c'/\c'.w=c.w/\stk=stk/\fr=fr:=fun p g=>by
   have x:=tN g;have hk:=Cx.keeps_filter (c:=c) (p:=p) x;exact⟨{c with hp:=c.hp.filter fun e=>p e.1},⟨rfl,hr.nxt,hr.ok.filter (p:=p) hk.right,bK.keeps _ _ hk.left.left.right hr.fr,Dh.keeps _ _ hk.left.right hr.stk,hr.df,hr.rd⟩,bW.keeps _ _ hk.left.left.left l,⟨fun _ h=>h,fun b L h=>⟨L,h⟩,ae _,rfl,Uc c p⟩,rfl,rfl,rfl⟩
  exact s (fun i=>Nat.blt i d||Zx (avN (c.hp.filter fun e=> !Nat.blt e.1 d) 3 (refs v++lq fr++qZ stk++wS (c.hp.filter fun e=>Nat.blt e.1 d))) i) g
 .cases h
theorem adT (f:dM->dM): ∀(h:gQ) (i:Nat),dQ (h.map fun e=>(e.1,f e.2)) i=(dQ h i).map f
 |[],i=>rfl
 |(k,o)::h,i=>by
  simp only[au,eG,adT f h i];split<;>rfl
def Cx.anew (c:Cx):Cx:={c with hp:=c.hp.map fun e=>(e.1,e.2.anew c.hp)}
theorem dM.anew_blk (h:gQ) (o:dM) (l:Loc):(o.anew h).blk l=o.blk l:=by cases o<;>rfl
theorem Cx.anew_get (c:Cx) (i:Nat):dQ c.anew.hp i=(dQ c.hp i).map (dM.anew c.hp):=adT _ _ _
theorem Cx.anew_free (c:Cx): ∀b,c.free b->c.anew.free b/\c.anew.w.heap[b]? =c.w.heap[b]? :=fun b d=>⟨⟨d.1,by
 rintro ⟨i,o,e,f⟩;rw[Cx.anew_get]at e;obtain⟨g,j,rfl⟩:=Option.map_eq_some_iff.1 e;rw[dM.anew_blk]at f;exact d.2.1 ⟨i,g,j,f⟩,d.2.2⟩,rfl⟩
theorem Cx.anew_out (c:Cx): ∀b,c.out b->c.anew.out b/\c.anew.w.heap[b]? =c.w.heap[b]? :=fun b d=>⟨⟨d.1,(by
 rintro ⟨i,o,e,f⟩;rw[Cx.anew_get]at e;obtain⟨g,j,rfl⟩:=Option.map_eq_some_iff.1 e;rw[dM.anew_blk]at f;exact d.2.1 ⟨i,g,j,f⟩),d.2.2⟩,rfl⟩
theorem Cx.anew_known (c:Cx) {i:Nat} (h:c.known i):c.anew.known i:=by
 rcases h with ⟨o,d⟩|h
 .exact .inl ⟨_,by rw[Cx.anew_get,d];rfl⟩
 .exact .inr h
theorem DU {h:gQ} {id d:Nat} (hf:SK h id d=true): ∃t xs,dQ h id=some (.arr t d xs):=by
 simp only[SK,aDl]at hf
 grind
mutual
theorem bW.anew {c:Cx}: ∀(v:bU) (x:Value),bW c v x->bW c.anew (Go.Proofs.YtlhpdcadgbjhiaaGreatDoor.anew c.hp v) x
 |.undef,_,_=>by simp[bW,Go.Proofs.YtlhpdcadgbjhiaaGreatDoor.anew]
 |.val t x,v,d=>by
  simp only[bW,Go.Proofs.YtlhpdcadgbjhiaaGreatDoor.anew]at d ⊢;exact⟨fun e=>let⟨cs,j,g⟩:=d.1 e;⟨cs,j,eY.mono c.anew_free t x _ g⟩,fun e=>eY.mono c.anew_free t x _ (d.2 e)⟩
 |.nils,_,d=>by simpa only[bW,Go.Proofs.YtlhpdcadgbjhiaaGreatDoor.anew] using d
 |.emp,_,d=>by simpa only[bW,Go.Proofs.YtlhpdcadgbjhiaaGreatDoor.anew] using d
 |.lst t x b,v,d=>by
  simp only[bW,Go.Proofs.YtlhpdcadgbjhiaaGreatDoor.anew]at d ⊢;exact⟨⟨fun e=>let⟨cs,j,g⟩:=d.1.1 e;⟨cs,j,eY.mono c.anew_free (.list t) x _ g⟩,fun e=>eY.mono c.anew_free (.list t) x _ (d.1.2 e)⟩,d.2⟩
 |.nilp,_,d=>by simpa only[bW,Go.Proofs.YtlhpdcadgbjhiaaGreatDoor.anew] using d
 |.nilfn,_,d=>by simpa only[bW,Go.Proofs.YtlhpdcadgbjhiaaGreatDoor.anew] using d
 |.tup l,v,d=>by simp only[bW,Go.Proofs.YtlhpdcadgbjhiaaGreatDoor.anew]at d ⊢;obtain⟨y,j,g⟩:=d;exact⟨y,j,bK.anew l _ g⟩
 |.agg l,v,d=>by simp only[bW,Go.Proofs.YtlhpdcadgbjhiaaGreatDoor.anew]at d ⊢;obtain⟨y,j,g,B⟩:=d;exact⟨y,j,bK.anew l _ g,B⟩
 |.cellp t x,v,d=>by
  simp only[bW,Go.Proofs.YtlhpdcadgbjhiaaGreatDoor.anew]at d ⊢;obtain⟨b,o,K,j,g,B,L⟩:=d;exact⟨b,o,K,j,(c.anew_free b g).1,B.of_block (c.anew_free b g).2,eY.mono c.anew_free t x _ L⟩
 |.ptr id M,v,d=>by
  simp only[bW,Go.Proofs.YtlhpdcadgbjhiaaGreatDoor.anew]at d ⊢;obtain⟨s,d⟩:=d;refine⟨s,c.anew_known d.1,fun t cs q=> ?_⟩;rw[Cx.anew_get]at q;obtain⟨o,j,g⟩:=Option.map_eq_some_iff.1 q;cases o<;>simp only[dM.anew,reduceCtorEq]at g;exact d.2 _ _ j
 |.slf id,v,d=>by
  simp only[bW,Go.Proofs.YtlhpdcadgbjhiaaGreatDoor.anew]at d ⊢;obtain⟨s,d⟩:=d;refine⟨s,c.anew_known d.1,fun t cs q=> ?_⟩;rw[Cx.anew_get]at q;obtain⟨o,j,g⟩:=Option.map_eq_some_iff.1 q;cases o<;>simp only[dM.anew,reduceCtorEq]at g;exact d.2 _ _ j
 |.sd id E,v,d=>by
  simp only[bW,Go.Proofs.YtlhpdcadgbjhiaaGreatDoor.anew]at d ⊢;rw[cond_eq_ite];split
  .rename_i A
   obtain⟨G,I,z⟩:=DU A;simp only[bW];obtain⟨s,d⟩:=d;refine⟨s,c.anew_known d.1,fun t u xs q=>⟨Nat.zero_le _,fun J=> ?_⟩⟩;exact(d.2 _ _ _ z).2 rfl
  .simp[bW]
 |.slc id E N,v,d=>by
  simp only[bW,Go.Proofs.YtlhpdcadgbjhiaaGreatDoor.anew]at d ⊢;rw[cond_eq_ite];split
  .rename_i A
   obtain⟨G,I,z⟩:=DU A;simp only[bW];obtain⟨s,d⟩:=d;refine⟨s,c.anew_known d.1,fun t u xs q=>⟨Nat.zero_le _,fun J=> ?_⟩⟩;rw[Cx.anew_get,z]at q;simp only[Option.map_some,dM.anew,Option.some.injEq,dM.arr.injEq]at q;obtain⟨D,_,_⟩:=q;rw[<-D];exact(d.2 _ _ _ z).2 rfl
  .simp[bW]
 |.ep id E i M,v,d=>by
  simp only[bW,Go.Proofs.YtlhpdcadgbjhiaaGreatDoor.anew]at d ⊢;rw[cond_eq_ite];split
  .rename_i A
   obtain⟨G,I,z⟩:=DU A;simp only[bW];obtain⟨s,d⟩:=d;refine⟨s,c.anew_known d.1,fun t u xs q=>⟨Nat.zero_le _,fun J=> ?_⟩⟩;rw[Cx.anew_get,z]at q;simp only[Option.map_some,dM.anew,Option.some.injEq,dM.arr.injEq]at q;obtain⟨D,_,_⟩:=q;rw[<-D];exact(d.2 _ _ _ z).2 rfl
  .simp[bW]
 |.fn f l,v,d=>by simp only[bW,Go.Proofs.YtlhpdcadgbjhiaaGreatDoor.anew]at d ⊢;obtain⟨y,j,g⟩:=d;exact⟨y,j,bK.anew l _ g⟩
 |.mfn f l,v,d=>by simp only[bW,Go.Proofs.YtlhpdcadgbjhiaaGreatDoor.anew]at d ⊢;obtain⟨y,j,g⟩:=d;exact⟨y,j,bK.anew l _ g⟩
 |.mpv id,v,d=>by
  simp only[bW,Go.Proofs.YtlhpdcadgbjhiaaGreatDoor.anew]at d ⊢;obtain⟨s,d⟩:=d;refine⟨s,c.anew_known d.1,fun O S U q=> ?_⟩;rw[Cx.anew_get]at q;obtain⟨o,j,g⟩:=Option.map_eq_some_iff.1 q;cases o<;>simp only[dM.anew,reduceCtorEq]at g;exact d.2 _ _ _ j
 |.yld id,v,d=>by
  simp only[bW,Go.Proofs.YtlhpdcadgbjhiaaGreatDoor.anew]at d ⊢;obtain⟨s,d⟩:=d;refine⟨s,c.anew_known d.1,fun f V W asg X Y n p q=> ?_⟩;rw[Cx.anew_get]at q;obtain⟨o,j,g⟩:=Option.map_eq_some_iff.1 q;cases o<;>simp only[dM.anew,reduceCtorEq]at g;exact d.2 _ _ _ _ _ _ _ _ j
theorem bK.anew {c:Cx}: ∀(l:List bU) (xs:List Value),bK c l xs->bK c.anew (zF c.hp l) xs
 |[],[],_=>by simp[bK,zF]
 |v::l,x::xs,d=>by
  simp only[bK,zF]at d ⊢;exact⟨bW.anew v x d.1,bK.anew l xs d.2⟩
 |[],_::_,d=>by simp[bK]at d
 |_::_,[],d=>by simp[bK]at d
end
theorem Dh.anew {c:Cx}: ∀(e:List (List bU)) (g:List (Array Value)),Dh c e g->Dh c.anew (e.map (zF c.hp)) g
 |[],[],_=>trivial
 |f::e,t::g,d=>⟨bK.anew _ _ d.1,Dh.anew e g d.2⟩
 |[],_::_,d=>d.elim
 |_::_,[],d=>d.elim
theorem iM.anew (hr:iM W0 b0 rd c st a ats): ∃c',iM W0 b0 rd c' (Yf st) a ats/\c.Mono c'/\c'.w=c.w:=by
 obtain⟨z,K,M,N⟩:=st;have v:=hr.hp;simp only at v;subst v;refine⟨c.anew,⟨rfl,hr.nxt,⟨hr.ok.bel,fun i o x=> ?_,fun i j o q b d g l u=> ?_,hr.ok.mks,fun b A=>(Cx.anew_out c b (hr.ok.bar b A)).1,hr.ok.phi⟩,bK.anew _ _ hr.fr,Dh.anew _ _ hr.stk,hr.df,hr.rd⟩,⟨fun _ h=>h,fun b L h=>⟨L,h⟩,ae _,rfl,Cx.anew_out c⟩,rfl⟩
 .rw[Cx.anew_get]at x;obtain⟨y,d,rfl⟩:=Option.map_eq_some_iff.1 x;have s:=hr.ok.obj i y d;cases y with
  |box e cs=>
   obtain⟨d,B,g,l,u⟩:=s;exact⟨d,B,g,bK.anew _ _ l,u⟩
  |arr t ver xs=>
   obtain⟨s,e,D,d,g,l⟩:=s;exact⟨s,e,D,d,fQ.mono (eY.mono c.anew_free t) _ _ g,l⟩
  |lp f z ps asg bd ky n p=>
   obtain⟨s,d,L,g,l,u⟩:=s;exact⟨s,d,L,g,bK.anew _ _ l,u⟩
  |dead=>trivial
  |mp kk vk O=>exact s
 .rw[Cx.anew_get]at d g;obtain⟨E,G,rfl⟩:=Option.map_eq_some_iff.1 d;obtain⟨I,J,rfl⟩:=Option.map_eq_some_iff.1 g;rw[dM.anew_blk]at l u;exact hr.ok.inj i j E I b G J l u
theorem zU {l:List Nat}: ∀(i:Nat) (fr:List bU) (xs:List Value),bK c fr xs->bK c (Hg l i fr) xs
 |i,[],[],_=>by simp[bK,Hg]
 |i,v::fr,x::xs,h=>by
  simp only[bK,Hg]at h ⊢;refine⟨?_,zU (i+1) fr xs h.2⟩;rw[cond_eq_ite]
  grind [bW]
 |i,[],_::_,h=>by simp[bK]at h
 |i,_::_,[],h=>by simp[bK]at h
end
end
end Go.Proofs.YtlhpdcadgbjhiaaGreatDoor
