/- Parts of the proof, joined and shortened by a program: the plain machine, the functions as it prints them, and the mathematics over them. -/
import Derived.Calls
import Derived.Still
import Derived.Orders
import Derived.Laws.Sem
import Derived.Test.YtlhpdcadgbjhiaaGreatDoorProg
import Derived.WalkKit
import Derived.WalkSmall
import Derived.Below
import Derived.Laws.AppendOwn
import Derived.Lib.LaidTab
import Derived.Lib.ItoaNum
import Derived.KernelRfl
import Derived.Laws.StructEq
import Derived.Laws.Slices
import Derived.Laws.Cells
import Derived.Laws.Strings
import Derived.Laws.MakeOwn
import Derived.Laws.BytesString
import Derived.Maps.AppendAt
import Derived.Lib.AppendStr
import Derived.Lib.UnsafeStr
import Derived.MapKept
import Derived.TacticsIn
import Derived.RangeFuncIn
import Derived.RangeFuncLeaves
import Derived.Sort.QuietThIn
set_option linter.unusedVariables false
set_option linter.unusedSimpArgs false
set_option maxRecDepth 100000
set_option maxHeartbeats 4000000
namespace Go.Proofs.YtlhpdcadgbjhiaaGreatDoor
section
open Option renaming some → a6, none → a7
theorem aa.{u} {d:Sort u} (a b:d):cond true a b=a:=rfl
theorem ac.{u} {d:Sort u} (a b:d):cond false a b=b:=rfl
theorem am.{u} {c:Prop} {h:Decidable c} (d:c) {f:Sort u} {t e:f}:ite c t e=t:=if_pos d
theorem aq.{u} {c:Prop} {h:Decidable c} (d:¬c) {f:Sort u} {t e:f}:ite c t e=e:=if_neg d
inductive Ty where
 |unit
 |bool
 |int (k:IntKind)
 |str
 |list (t:Ty)
 |pair (a b:Ty)
 deriving DecidableEq
@[reducible] def Ty.den:Ty->Type
 |.unit=>Unit
 |.bool=>Bool
 |.int _=>Int
 |.str=>List UInt8
 |.list t=>List t.den
 |.pair a b=>a.den×b.den
def Ty.dflt:(t:Ty)->t.den
 |.unit=>()
 |.bool=>false
 |.int _=>0
 |.str=>[]
 |.list _=>[]
 |.pair a b=>(a.dflt,b.dflt)
def Ty.size:Ty->Nat
 |.unit=>0
 |.pair a b=>a.size+b.size
 |_=>1
def Ty.isAgg:Ty->Bool
 |.unit=>true
 |.pair _ _=>true
 |_=>false
def jD {t':Ty} (t:Ty) (x:t'.den):Option t.den:=if h:t'=t then a6 (cast (congrArg Ty.den h) x)else a7
def Ty.same:(t:Ty)->t.den->t.den->Bool
 |.unit,_,_=>true
 |.bool,x,y=>x==y
 |.int _,x,y=>x==y
 |.str,x,y=>x==y
 |.list _,_,_=>false
 |.pair a b,x,y=>a.same x.1 y.1&&b.same x.2 y.2
def sub {d:Type} (l:List d) (lo hi:Int):List d:=(l.take hi.toNat).drop lo.toNat
inductive bQ where
 |undef
 |val (t:Ty) (x:t.den)
 |nils
 |nilp
 |nilfn
 |tup (l:List bQ)
 |agg (l:List bQ)
 |cellp (t:Ty) (x:t.den)
 |ptr (id off:Nat)
 |slc (id ver:Nat) (view:Option (Int×Int))
 |ep (id ver:Nat) (i:Nat) (off:Nat)
 |fn (f:FuncId) (caps:List bQ)
 |mfn (f:FuncId) (fst:List bQ)
 |mpv (id:Nat)
 |yld (id:Nat)
 |emp
 |lst (t:Ty) (x:List t.den) (nil:Bool)
 |slf (id:Nat)
 |sd (id ver:Nat)
inductive Ex where
 |normal
 |exit (id:Nat)
 |goto (l:Nat)
 |ret
inductive dL where
 |box (t:TypeId) (cells:List bQ)
 |arr (t:Ty) (ver:Nat) (xs:List t.den)
 |lp (f:FuncId) (fr:List bQ) (ps:List Nat) (jo bd:Code) (key:Option Nat) (state:Nat) (pend:Option Ex)
 |dead
 |mp (kk vk:IntKind) (es:List (Int×Int))
abbrev gK:=List (Nat×dL)
def dO:gK->Nat->Option dL
 |[],_=>a7
 |(k,o)::h,i=>bif k==i then a6 o else dO h i
def iV:gK->Nat->dL->gK
 |[],_,_=>[]
 |(k,o)::h,i,d=>bif k==i then(k,d)::h else(k,o)::iV h i d
structure St where
 fr:List bQ
 stk:List (List bQ)
 hp:gK
 nxt:Nat
inductive TK where
 |bool|str|other
 |int (k:IntKind)
 |slice (e:TypeId)
 |struct (fs:List (Nat×TypeId))
 |fn
 |ptr (e:TypeId)
 |map (k e:TypeId)
structure TI where
 known:Bool
 k:TK
 size:Nat
 bytes:Nat
 ty:Option Ty
 zero:List bQ
 eq:Bool
 bld:Bool:=false
 keep:Bool:=false
instance:Inhabited TI:=⟨⟨false,.other,0,0,a7,[],false,false,false⟩⟩
inductive TT where
 |nil
 |node (k:Nat) (i:TI) (l r:TT)
def TT.at:TT->TypeId->TI
 |.nil,_=>default
 |.node k i l r,t=>bif Nat.beq k t then i else bif Nat.blt t k then l.at t else r.at t
def TI.isAgg (i:TI):Bool:=match i.k with|.struct _=>true|_=>false
def flat:(t:Ty)->t.den->List bQ
 |.unit,_=>[]
 |.pair a b,x=>flat a x.1++flat b x.2
 |.bool,x=>[.val .bool x]
 |.int k,x=>[.val (.int k) x]
 |.str,x=>[.val .str x]
 |.list t,x=>[.val (.list t) x]
def bQ.cells:bQ->Option (List bQ)
 |.val t x=>a6 (flat t x)
 |.agg l=>a6 l
 |.undef=>a7
 |.tup _=>a7
 |v=>a6 [v]
def leaf (t:Ty):bQ->Option t.den
 |.val t' x=>jD t x
 |.nils=>match t with|.list _=>a6 []|_=>a7
 |_=>a7
def mk:(t:Ty)->List bQ->Option (t.den×List bQ)
 |.unit,l=>a6 ((),l)
 |.pair a b,l=>
  match mk a l with
  |some (x,d)=>match mk b d with
   |some (y,e)=>a6 ((x,y),e)
   |none=>a7
  |none=>a7
 |.bool,c::l=>match leaf .bool c with|some x=>a6 (x,l)|none=>a7
 |.int k,c::l=>match leaf (.int k) c with|some x=>a6 (x,l)|none=>a7
 |.str,c::l=>match leaf .str c with|some x=>a6 (x,l)|none=>a7
 |.list t,c::l=>match leaf (.list t) c with|some x=>a6 (x,l)|none=>a7
 |_,[]=>a7
def G6 (t:Ty) (l:List bQ):Option t.den:=
 match mk t l with
 |some (x,[])=>a6 x
 |_=>a7
def bQ.isNils:bQ->Bool
 |.nils=>true
 |_=>false
def norm (i:TI) (l:List bQ):bQ:=
 match i.k with
 |.struct _=>match i.ty with
  |some t=>match G6 t l with
   |some x=>bif i.keep&&l.any bQ.isNils then .agg l else .val t x
   |none=>.agg l
  |none=>.agg l
 |_=>match l with
  |[v]=>v
  |_=>.undef
def acy {d:Type} (xs:List d):Option (Int×Int)->List d
 |none=>xs
 |some (lo,e)=>sub xs lo e
def Bg (hp:gK) (t:Ty) (id d:Nat) (e:Option (Int×Int)):Option (List t.den):=
 match dO hp id with
 |some (.arr t' v xs)=>bif v==d then(match jD (.list t) (t':=.list t') xs with|some ys=>a6 (acy ys e)|none=>a7)else a7
 |_=>a7
def bQ.as (hp:gK) (t:Ty):bQ->Option t.den
 |.val t' x=>jD t x
 |.nils=>match t with|.list _=>a6 []|_=>a7
 |.emp=>match t with|.list _=>a6 []|_=>a7
 |.lst e xs _=>jD (t':=.list e) t xs
 |.slc id ver d=>match t with|.list e=>Bg hp e id ver d|_=>a7
 |.agg l=>bif t.isAgg then G6 t l else a7
 |_=>a7
def Yy:(t:Ty)->t.den->Nat->bQ
 |.pair a _,x,0=>.val a x.1
 |.pair _ b,x,n+1=>Yy b x.2 n
 |_,_,_=>.undef
def Sm:(t:Ty)->t.den->Nat->bQ
 |.pair a _,x,0=>.cellp a x.1
 |.pair _ b,x,n+1=>Sm b x.2 n
 |_,_,_=>.undef
def wO:Value->bQ
 |.bool b=>.val .bool b
 |.int k n=>.val (.int k) n
 |.string s=>.val .str s.data.toList
 |.slice a7 0 0=>.nils
 |.pointer a7=>.nilp
 |.nilFunc=>.nilfn
 |_=>.undef
def Yl:Value->bQ
 |.agg cs=>bif cs.toList.all Value.oneCell' then .agg (cs.toList.map wO)else .undef
 |.tuple _=>.undef
 |v=>wO v
def gY (fr:List bQ):Operand->bQ
 |.tmp t=>fr.getD t .undef
 |.const v=>Yl v
 |.global _=>.undef
 |.func f=>.fn f []
def kH:Nat:=140737488355328
def di (k:IntKind) (a b:Int):Int:=k.wrap (a+b)
def eU (k:IntKind) (a b:Int):Int:=k.wrap (a-b)
def aol (k:IntKind) (a b:Int):Int:=k.wrap (a*b)
def aHq (k:IntKind) (a b:Int):Int:=k.wrap (a.tdiv b)
def aqa (d:BinOp) (k:IntKind) (a b:Int):Int:=
 let x:=BitVec.ofInt k.bits a
 let y:=BitVec.ofInt k.bits b
 match d with
 |.and=>k.wrap (x&&& y).toNat
 |.or=>k.wrap (x|||y).toNat
 |.xor=>k.wrap (x^^^y).toNat
 |_=>k.wrap (x&&& ~~~y).toNat
def aAU (k:IntKind) (a b:Int):Int:=k.wrap (a*2^(min b.toNat k.bits))
def UJ (k:IntKind) (a b:Int):Int:=a.fdiv (2^(min b.toNat k.bits))
def gV (a b:Int):Bool:=decide (a<b)
def leI (a b:Int):Bool:=decide (a<=b)
def bP (a b:Int):Bool:=a==b
def bI {d:Type} (l:List d):Int:=(l.length:Int)
def PG (a b:Nat):Bool:=decide (a<b)
def eqN (a b:Nat):Bool:=Nat.beq a b
def leN (a b:Nat):Bool:=decide (a<=b)
def Iz (a b:Int):Int:=if b<a then b else a
def BM (a b:Int):Int:=if b>a then b else a
def bY (s:List UInt8) (i:Int):Int:=((s.getD i.toNat 0).toNat:Int)
def dw {e:Type} (l:List e) (d:e) (i:Int):e:=l.getD i.toNat d
def gG (a b:List UInt8):Bool:=a==b
def FT (a b:List UInt8):Bool:=Op.bytesLess a b
def dD (l:List UInt8):List Int:=l.map fun b=>(b.toNat:Int)
def ofBytes (l:List Int):List UInt8:=l.map fun n=>UInt8.ofNat n.toNat
def aJV (l:List UInt8):Bool:=decide (l.length<=kH)
def dY {d:Type} (l:List d) (e:Nat):Bool:=decide (l.length*e<=kH)
def fD {d:Type} (l:List d) (i:Int):Bool:=decide (0<=i)&&decide (i<(l.length:Int))
def fE (n lo hi:Int):Bool:=decide (0<=lo)&&(decide (lo<=hi)&&decide (hi<=n))
def gX {d:Type} (l:List d) (i:Nat) (x:d):List d:=l.set i x
def yN (d:BinOp) (k:IntKind) (a b:Int):bQ:=
 match d with
 |.add=>.val (.int k) (di k a b)
 |.sub=>.val (.int k) (eU k a b)
 |.mul=>.val (.int k) (aol k a b)
 |.eql=>.val .bool (bP a b)
 |.neq=>.val .bool (!bP a b)
 |.lss=>.val .bool (gV a b)
 |.leq=>.val .bool (leI a b)
 |.gtr=>.val .bool (gV b a)
 |.geq=>.val .bool (leI b a)
 |_=>.undef
def X8 (d:BinOp) (a b:List UInt8):bQ:=
 match d with
 |.eql=>.val .bool (gG a b)
 |.neq=>.val .bool (!gG a b)
 |.lss=>.val .bool (FT a b)
 |.leq=>.val .bool (FT a b||gG a b)
 |.gtr=>.val .bool (!(FT a b||gG a b))
 |.geq=>.val .bool (!FT a b)
 |_=>.undef
def TT.eqOk (T:TT):Nat->TypeId->Bool
 |0,_=>false
 |n+1,t=>(T.at t).known&&(match(T.at t).k with
  |.bool|.int _|.str=>true
  |.struct d=>(T.at t).eq&&d.all fun f=>T.eqOk n f.2
  |_=>false)
section
variable {R:Type}
def mO (b:Bool) (k:Option R):Option R:=cond b k a7
def ac4 (T:TT) (d:BinOp) (t:TypeId) (x y:bQ) (K:bQ->Option R):Option R:=
 match x,y with
 |.val (.int k) a,.val (.int f) b=>
  if k=f then
   match d with
   |.quo=>mO (!bP b 0) (K (.val (.int k) (aHq k a b)))
   |.rem=>mO (!bP b 0) (K (.val (.int k) (a.tmod b)))
   |.add|.sub|.mul|.eql|.neq|.lss|.leq|.gtr|.geq=>K (yN d k a b)
   |.and|.or|.xor|.andNot=>K (.val (.int k) (aqa d k a b))
   |.shl=>mO (leI 0 b) (K (.val (.int k) (aAU k a b)))
   |.shr=>mO (leI 0 b) (K (.val (.int k) (UJ k a b)))
  else
   match d with
   |.shl=>mO (leI 0 b) (K (.val (.int k) (aAU k a b)))
   |.shr=>mO (leI 0 b) (K (.val (.int k) (UJ k a b)))
   |_=>a7
 |.val .bool a,.val .bool b=>
  bif(T.at t).known then
   match(T.at t).k,d with
   |.bool,.eql=>K (.val .bool (a==b))
   |.bool,.neq=>K (.val .bool (!(a==b)))
   |_,_=>a7
  else a7
 |.val .str a,.val .str b=>
  match d with
  |.add=>mO (decide (a.length+b.length<=kH)) (K (.val .str (a++b)))
  |.eql|.neq|.lss|.leq|.gtr|.geq=>K (X8 d a b)
  |_=>a7
 |.lst _ _ b,.nils=>bif(T.at t).known then(match(T.at t).k,d with
  |.slice _,.eql=>K (.val .bool b)
  |.slice _,.neq=>K (.val .bool (!b))
  |_,_=>a7)else a7
 |x,y=>
  bif !T.eqOk 6 t then a7 else
  match(T.at t).k,(T.at t).ty with
  |.struct _,a6 e=>
   match x.as [] e,y.as [] e,d with
   |some a,a6 b,.eql=>K (.val .bool (e.same a b))
   |some a,a6 b,.neq=>K (.val .bool (!e.same a b))
   |_,_,_=>a7
  |_,_=>a7
def D8:List (Int×Int)->Int->Option Int
 |[],_=>a7
 |(k,v)::l,a=>bif bP a k then a6 v else D8 l a
def kN (l:List (Int×Int)) (a:Int):Int:=match D8 l a with
 |some v=>v
 |none=>0
def auQ (l:List (Int×Int)) (a:Int):Bool:=match D8 l a with
 |some _=>true
 |none=>false
def nS:List (Int×Int)->Int->Int->List (Int×Int)
 |[],a,b=>[(a,b)]
 |(k,v)::l,a,b=>bif bP a k then(k,b)::l else(k,v)::nS l a b
def TT.mapOf (T:TT) (t:TypeId):Option (IntKind×IntKind):=bif(T.at t).known then(match(T.at t).k with
 |.map k e=>bif(T.at k).known&&(T.at e).known then(match(T.at k).k,(T.at e).k with
  |.int a,.int b=>a6 (a,b)
  |_,_=>a7)else a7
 |_=>a7)else a7
def awd (hp:gK) (x y:bQ):Bool:=match x with
 |.slc id ver _=>(match y with
  |.nils=>(match dO hp id with
   |some (.arr _ v d)=>v==ver&&PG 0 d.length
   |_=>false)
  |_=>false)
 |_=>false
def avm (hp:gK) (x y:bQ):Bool:=match x with
 |.ptr id _=>(match y with
  |.nilp=>(match dO hp id with
   |some (.box _ _)=>true
   |_=>false)
  |_=>false)
 |_=>false
def Sj (T:TT) (hp:gK) (d:BinOp) (t:TypeId) (x y:bQ) (K:bQ->Option R):Option R:=
 bif awd hp x y then(bif(T.at t).known then(match(T.at t).k,d with
  |.slice _,.eql=>K (.val .bool false)
  |.slice _,.neq=>K (.val .bool true)
  |_,_=>a7)else a7)else bif avm hp x y then(bif(T.at t).known then(match(T.at t).k,d with
  |.ptr _,.eql=>K (.val .bool false)
  |.ptr _,.neq=>K (.val .bool true)
  |_,_=>a7)else a7)else ac4 T d t x y K
def asf (d:UnOp) (x:bQ) (K:bQ->Option R):Option R:=
 match d,x with
 |.not,.val .bool b=>K (.val .bool (!b))
 |.neg,.val (.int k) a=>K (.val (.int k) (eU k 0 a))
 |_,_=>a7
def D9 (cl:Bool) (st:St) (dst:Option Nat):Nat:=cond cl st.nxt<|1000000*st.stk.length+dst.getD 0
def alloc (cl:Bool) (dst:Option Nat) (o:dL) (st:St) (K:Nat->St->Option R):Option R:=
 match dO st.hp (D9 cl st dst)with
 |some _=>a7
 |none=>bif st.nxt.ble (D9 cl st dst)then K (D9 cl st dst) {st with hp:=(D9 cl st dst,o)::st.hp,nxt:=bif cl then D9 cl st dst+1 else st.nxt}else a7
def Jn (cs:List bQ) (off k:Nat):Option (List bQ):=cond ((off+k).ble cs.length) (a6 ((cs.drop off).take k)) a7
def putCells (cs:List bQ) (off:Nat) (vs:List bQ):Option (List bQ):=cond ((off+vs.length).ble cs.length) (a6 (cs.take off++vs++cs.drop (off+vs.length))) a7
def LX (T:TT) (hp:gK) (t:TypeId) (a:bQ) (K:bQ->Option R):Option R:=
 bif !(T.at t).known then a7 else
 match a with
 |.cellp u x=>match(T.at t).ty with
  |some e=>match jD e x with
   |some y=>K (.val e y)
   |none=>a7
  |none=>a7
 |.ptr id d=>match dO hp id with
  |some (.box _ cs)=>match Jn cs d (T.at t).size with
   |some l=>K (norm (T.at t) l)
   |none=>a7
  |_=>a7
 |.ep id ver i d=>match dO hp id with
  |some (.arr u v xs)=>bif v==ver then
    (bif PG i xs.length then
     (match Jn (flat u (xs.getD i u.dflt)) d (T.at t).size with
     |some l=>K (norm (T.at t) l)
     |none=>a7)else a7)else a7
  |_=>a7
 |_=>a7
def JB (T:TT) (st:St) (t:TypeId) (a v:bQ) (K:St->Option R):Option R:=
 match v.cells with
 |none=>a7
 |some d=>
  bif(T.at t).known&&d.length==(T.at t).size then
   match a with
   |.ptr id e=>match dO st.hp id with
    |some (.box bt cs)=>match putCells cs e d with
     |some f=>K {st with hp:=iV st.hp id (.box bt f)}
     |none=>a7
    |_=>a7
   |.ep id ver i e=>match dO st.hp id with
    |some (.arr u w xs)=>bif w==ver then
      (bif PG i xs.length then
       (match putCells (flat u (xs.getD i u.dflt)) e d with
       |some cs=>match G6 u cs with
        |some x=>K {st with hp:=iV st.hp id (.arr u w (gX xs i x))}
        |none=>a7
       |none=>a7)else a7)else a7
    |_=>a7
   |_=>a7
  else a7
def ac5 (f:gK) (st:St) (a v:bQ) (K:St->Option R):Option R:=
 match a,v with
 |.ptr id d,.slc i _ (a6 _)=>match dO f id with
  |some (.box _ g)=>match g.getD d .undef with
   |.slc i0 _ a7=>bif Nat.beq i0 i&& !Nat.beq i id then
     (match dO st.hp id,dO st.hp i with
     |some (.box bt cs),a6 (.arr e w xs)=>match cs.getD d .undef with
      |.slc i1 w1 (a6 (lo,h))=>bif Nat.beq i1 i&&(w1==w&&lo==0)then
        K {st with hp:=iV (iV st.hp i (.arr e (w+1) (xs.take h.toNat))) id (.box bt (cs.set d (.slc i (w+1) a7)))}else K st
      |_=>K st
     |_,_=>K st)else K st
   |_=>K st
  |_=>K st
 |_,_=>K st
def Jw (T:TT) (d:List (Nat×TypeId)) (cs:List bQ):List (Nat×bQ)->Option (List bQ)
 |[]=>a6 cs
 |(i,v)::g=>match d[i]?,v.cells with
  |some (h,e),a6 f=>bif(T.at e).known&&f.length==(T.at e).size then
    (match putCells cs h f with
    |some j=>Jw T d j g
    |none=>a7)else a7
  |_,_=>a7
def Jz (e:Ty) (xs:List e.den):List (Nat×bQ)->Option (List e.den)
 |[]=>a6 xs
 |(i,v)::d=>match v.as [] e with
  |some x=>bif PG i xs.length then Jz e (xs.set i x) d else a7
  |none=>a7
def intOf:bQ->Option Int
 |.val (.int _) n=>a6 n
 |_=>a7
def bound (d:Int):Option bQ->Option Int
 |none=>a6 d
 |some v=>intOf v
def TT.rowOf (T:TT) (t:TypeId) (size:Nat):Bool:=
 match(T.at t).k with
 |.slice e=>(T.at t).known&&((T.at e).known&&((T.at e).size==size&&(PG 0 size&&PG 0 (T.at e).bytes)))
 |_=>false
def TT.isPtr (T:TT) (t:TypeId):Bool:=
 match(T.at t).k with
 |.ptr _=>(T.at t).known
 |_=>false
def TT.isBytes (T:TT) (t:TypeId):Bool:=
 match(T.at t).k with
 |.ptr e=>(T.at t).known&&((T.at e).known&&(match(T.at e).ty with|some (.int .u8)=>Nat.beq (T.at e).size 1|_=>false))
 |_=>false
def TT.isStr (T:TT) (t:TypeId):Bool:=
 match(T.at t).k with
 |.str=>(T.at t).known
 |_=>false
def JA (T:TT) (hp:gK) (t:TypeId) (x:bQ) (lo hi d:Option bQ) (K:bQ->Option R):Option R:=
 match x,d with
 |.val .str s,a7=>match bound 0 lo,bound (bI s) hi with
  |some l,a6 h=>mO (T.isStr t&&fE (bI s) l h) (K (.val .str (sub s l h)))
  |_,_=>a7
 |.val (.list e) xs,a7=>match bound 0 lo,bound (bI xs) hi with
  |some l,a6 h=>mO (T.rowOf t e.size&&fE (bI xs) l h) (K (.val (.list e) (sub xs l h)))
  |_,_=>a7
 |.val (.list e) xs,a6 m=>match bound 0 lo,hi.bind intOf,intOf m with
  |some l,a6 h,a6 k=>mO (T.rowOf t e.size&&(l==0&&(h==0&&k==0))) (K .emp)
  |_,_,_=>a7
 |.nils,a7=>match bound 0 lo,bound 0 hi with
  |some l,a6 h=>mO (T.rowOf t (T.at (match(T.at t).k with|.slice e=>e|_=>0)).size&&(bP l 0&&bP h 0)) (K .nils)
  |_,_=>a7
 |.slc id ver a7,a7=>match dO hp id with
  |some (.arr e v xs)=>bif v==ver then
    (match bound 0 lo,bound (bI xs) hi with
    |some l,a6 h=>mO (T.rowOf t e.size&&fE (bI xs) l h) (K (.slc id ver (a6 (l,h))))
    |_,_=>a7)else a7
  |_=>a7
 |_,_=>a7
def TT.fieldAt (T:TT) (t:TypeId) (f:Nat):Option (Nat×TypeId):=
 match(T.at t).k with
 |.struct e=>bif(T.at t).known then
   (match e[f]? with
   |some (g,d)=>bif(T.at d).known&&PG 0 (T.at d).size then a6 (g,d)else a7
   |none=>a7)else a7
 |_=>a7
def uq (T:TT) (hp:gK) (t:TypeId) (x:bQ) (f:Nat) (K:bQ->Option R):Option R:=
 match T.fieldAt t f with
 |some (d,_)=>match x with
  |.cellp u x=>match(T.at t).ty with
   |some e=>match jD e x with
    |some y=>K (Sm e y f)
    |none=>a7
   |none=>a7
  |.ptr id o=>match dO hp id with
   |some (.box _ _)=>K (.ptr id (o+d))
   |_=>a7
  |.ep id ver i o=>match dO hp id with
   |some (.arr _ v _)=>bif v==ver then K (.ep id ver i (o+d))else a7
   |_=>a7
  |_=>a7
 |none=>a7
def Jy (T:TT) (t:TypeId) (x:bQ) (f:Nat) (K:bQ->Option R):Option R:=
 match T.fieldAt t f with
 |some (g,d)=>match x with
  |.val u x=>match(T.at t).ty with
   |some e=>match jD e x with
    |some y=>K (Yy e y f)
    |none=>a7
   |none=>a7
  |.agg l=>match Jn l g (T.at d).size with
   |some cs=>K (norm (T.at d) cs)
   |none=>a7
  |_=>a7
 |none=>a7
def ut (T:TT) (hp:gK) (t:TypeId) (x i:bQ) (K:bQ->Option R):Option R:=
 match intOf i with
 |none=>a7
 |some i=>match x with
  |.val (.list e) xs=>mO (T.rowOf t e.size&&fD xs i) (K (.cellp e (dw xs e.dflt i)))
  |.slc id ver d=>match dO hp id with
   |some (.arr e v xs)=>bif v==ver then
     (match d with
     |none=>mO (T.rowOf t e.size&&fD xs i) (K (.ep id ver i.toNat 0))
     |some (lo,f)=>mO (T.rowOf t e.size&&(decide (0<=i)&&gV (lo+i) f)) (K (.ep id ver (lo+i).toNat 0)))else a7
   |_=>a7
  |_=>a7
def ac6 (T:TT) (hp:gK) (t:TypeId) (x:bQ) (K:bQ->Option R):Option R:=
 match x with
 |.val .str s=>mO (T.isStr t) (K (.val (.int .i64) (bI s)))
 |.val (.list e) xs=>mO (T.rowOf t e.size) (K (.val (.int .i64) (bI xs)))
 |.nils=>mO (T.rowOf t (T.at (match(T.at t).k with|.slice e=>e|_=>0)).size) (K (.val (.int .i64) 0))
 |.slc id ver d=>match dO hp id with
  |some (.arr e v xs)=>bif v==ver then
    mO (T.rowOf t e.size) (match d with
    |none=>K (.val (.int .i64) (bI xs))
    |some (lo,f)=>K (.val (.int .i64) (f-lo)))else a7
  |_=>a7
 |_=>a7
def Jv (T:TT) (cl:Bool) (dst:Option Nat) (t:TypeId) (s x:bQ) (st:St) (K:bQ->St->Option R):Option R:=
 match(T.at t).k with
 |.slice f=>match(T.at f).ty with
  |some e=>match x.as st.hp (.list e)with
   |none=>a7
   |some d=>match s with
    |.nils=>mO (T.rowOf t e.size&&dY d (T.at f).bytes) (alloc cl dst (.arr e 0 d) st fun id st=>K (.slc id 0 a7) st)
    |.emp=>mO (T.rowOf t e.size&&dY d (T.at f).bytes) (bif PG 0 d.length then alloc cl dst (.arr e 0 d) st fun id st=>K (.slc id 0 a7) st else K .emp st)
    |.slc id ver h=>match dO st.hp id with
     |some (.arr e' v xs)=>bif v==ver then
       (match jD (t':=.list e') (.list e) xs with
       |some xs=>match h with
        |none=>mO (T.rowOf t e.size&&dY (xs++d) (T.at f).bytes) (K (.slc id (ver+1) a7) {st with hp:=iV st.hp id (.arr e (ver+1) (xs++d))})
        |some (lo,g)=>mO (T.rowOf t e.size&&(bP lo 0&&dY (xs.take g.toNat++d) (T.at f).bytes))
          (K (.slc id (ver+1) a7) {st with hp:=iV st.hp id (.arr e (ver+1) (xs.take g.toNat++d))})
       |none=>a7)else a7
     |_=>a7
    |_=>a7
  |none=>a7
 |_=>a7
def zL (T:TT) (cl:Bool) (dst:Option Nat) (t t':TypeId) (s x:bQ) (st:St) (K:bQ->St->Option R):Option R:=
 match(T.at t).k,x with
 |.slice d,.val .str y=>match(T.at d).ty with
  |some (.int .u8)=>bif T.isStr t'&&T.rowOf t 1&&Nat.beq (T.at d).bytes 1 then
    (match s with
    |.nils=>mO (aJV y) (alloc cl dst (.arr (.int .u8) 0 (dD y)) st fun id st=>K (.slc id 0 a7) st)
    |.slc id ver e=>match dO st.hp id with
     |some (.arr (.int .u8) v xs)=>bif v==ver then
       (match e with
       |none=>mO (dY (xs++dD y) 1) (K (.slc id (ver+1) a7) {st with hp:=iV st.hp id (.arr (.int .u8) (ver+1) (xs++dD y))})
       |some _=>a7)else a7
     |_=>a7
    |_=>a7)else a7
  |_=>a7
 |_,_=>a7
def zM (T:TT) (s d:TypeId) (x:bQ) (hp:gK) (K:bQ->Option R):Option R:=
 bif !((T.at s).known&&(T.at d).known)then a7 else
 match(T.at s).k,(T.at d).k,x with
 |.int _,.int k,.val (.int _) n=>K (.val (.int k) (k.wrap n))
 |.str,.str,.val .str s=>K (.val .str s)
 |.slice e,.str,x=>match(T.at e).k with
  |.int .u8=>match x.as hp (.list (.int .u8))with
   |some xs=>mO (T.at e).known (K (.val .str (ofBytes xs)))
   |none=>a7
  |_=>a7
 |_,_,_=>a7
abbrev gz (R:Type):=bQ->List bQ->Option Nat->St->(bQ->St->Option R)->Option R
def AY (k:IntKind):List bQ->Option (List Int)
 |[]=>a6 []
 |.val (.int d) a::l=>if k=d then match AY k l with
   |some l=>a6 (a::l)
   |none=>a7
  else a7
 |_=>a7
def jZ (T:TT) (cl:Bool) (o:Oper) (b:Builtin) (d:List TypeId) (args:List bQ) (st:St) (K:bQ->St->Option R):Option R:=
 match b,args with
 |.len,[x]=>match d with
  |[t]=>ac6 T st.hp t x fun v=>K v st
  |_=>a7
 |.min,.val (.int k) a::l=>match AY k l with
  |some l=>K (.val (.int k) (l.foldl Iz a)) st
  |none=>a7
 |.max,.val (.int k) a::l=>match AY k l with
  |some l=>K (.val (.int k) (l.foldl BM a)) st
  |none=>a7
 |.append,[s,x]=>match d with
  |[t,g]=>bif t==g then Jv T cl o.dst t s x st K else zL T cl o.dst t g s x st K
  |_=>a7
 |.unsafeSliceData,[.slc id f a7]=>match d with
  |[t]=>match dO st.hp id with
   |some (.arr e v _)=>bif v==f&&(T.rowOf t e.size&&T.isPtr o.type)then K (.sd id f) st else a7
   |_=>a7
  |_=>a7
 |.unsafeString,[.sd id f,.val (.int .i64) n]=>match d with
  |[h,_]=>match dO st.hp id with
   |some (.arr (.int .u8) v xs)=>bif v==f&&T.isBytes h then mO (bP n (bI xs)) (K (.val .str (ofBytes xs)) {st with hp:=iV st.hp id .dead})else a7
   |_=>a7
  |_=>a7
 |_,_=>a7
def eF (T:TT) (cl:Bool) (call:gz R) (o:Oper) (st:St) (K:bQ->St->Option R):Option R:=
 match o.op with
 |.move x|.assign x=>K (gY st.fr x) st
 |.pick c a b=>match gY st.fr c with
  |.val .bool t=>bif t then K (gY st.fr a) st else K (gY st.fr b) st
  |_=>a7
 |.alloc t=>bif(T.at t).known then
   (match(T.at t).k,(T.at t).zero with
   |.slice h,[.nils]=>match(T.at h).ty with
    |some e=>bif PG 0 e.size then alloc cl (a6 (o.dst.getD 0+500000)) (.arr e 0 []) st fun i st=>alloc cl o.dst (.box t [.slc i 0 a7]) st fun id st=>K (.ptr id 0) st
     else a7
    |none=>alloc cl o.dst (.box t (T.at t).zero) st fun id st=>K (.ptr id 0) st
   |.struct _,[.nilp,.nils]=>bif(T.at t).bld then
     alloc cl (a6 (o.dst.getD 0+500000)) (.arr (.int .u8) 0 []) st fun i st=>alloc cl o.dst (.box t [.slf (D9 cl st o.dst),.slc i 0 a7]) st fun id st=>K (.ptr id 0) st
    else alloc cl o.dst (.box t (T.at t).zero) st fun id st=>K (.ptr id 0) st
   |_,z=>alloc cl o.dst (.box t z) st fun id st=>K (.ptr id 0) st)else a7
 |.box t x=>match(gY st.fr x).cells with
  |some D=>bif(T.at t).known&&D.length==(T.at t).size then alloc cl o.dst (.box t D) st fun id st=>K (.ptr id 0) st else a7
  |none=>a7
 |.build t u=>bif !(T.at t).known then a7 else
  match(T.at t).k with
  |.struct G=>match Jw T G (T.at t).zero (u.toList.map fun p=>(p.1,gY st.fr p.2))with
   |some cs=>K (norm (T.at t) cs) st
   |none=>a7
  |_=>a7
 |.buildSlice t n u=>match(T.at t).k with
  |.slice h=>match(T.at h).ty with
   |some e=>match G6 e (T.at h).zero with
    |some d=>bif T.rowOf t e.size&&leN (n*e.size) 1000000 then
      (match Jz e (List.replicate n d) (u.toList.map fun p=>(p.1,gY st.fr p.2))with
      |some xs=>alloc cl o.dst (.arr e 0 xs) st fun id st=>K (.slc id 0 a7) st
      |none=>a7)else a7
    |none=>a7
   |none=>a7
  |_=>a7
 |.load t a=>LX T st.hp t (gY st.fr a) fun v=>K v st
 |.store t a v=>JB T st t (gY st.fr a) (gY st.fr v) fun I=>ac5 st.hp I (gY st.fr a) (gY st.fr v) fun st=>K .undef st
 |.nilCheck x=>match gY st.fr x with
  |.ptr id A=>match dO st.hp id with
   |some (.box _ _)=>K (.ptr id A) st
   |_=>a7
  |.cellp t x=>K (.cellp t x) st
  |.ep id ver i A=>match dO st.hp id with
   |some (.arr _ v _)=>bif v==ver then K (.ep id ver i A) st else a7
   |_=>a7
  |_=>a7
 |.binOp op t x y _=>Sj T st.hp op t (gY st.fr x) (gY st.fr y) fun v=>K v st
 |.unOp op _ x=>asf op (gY st.fr x) fun v=>K v st
 |.makeMap t r=>match r,T.mapOf t with
  |none,a6 (j,g)=>alloc cl o.dst (.mp j g []) st fun id st=>K (.mpv id) st
  |_,_=>a7
 |.mapUpdate t m k x=>match T.mapOf t,gY st.fr m with
  |some (j,g),.mpv id=>match dO st.hp id,gY st.fr k,gY st.fr x with
   |some (.mp kk' vk' q),.val (.int B) a,.val (.int J) b=>
    bif decide (kk'=j)&&(decide (B=j)&&(decide (vk'=g)&&decide (J=g)))then K .undef {st with hp:=iV st.hp id (.mp j g (nS q a b))}else a7
   |_,_,_=>a7
  |_,_=>a7
 |.lookup t m k ok=>match T.mapOf t,gY st.fr m with
  |some (j,g),.mpv id=>match dO st.hp id,gY st.fr k with
   |some (.mp kk' vk' q),.val (.int B) a=>
    bif decide (kk'=j)&&(decide (B=j)&&decide (vk'=g))then
     K (bif ok then .tup [.val (.int g) (kN q a),.val .bool (auQ q a)]else .val (.int g) (kN q a)) st else a7
   |_,_=>a7
  |_,_=>a7
 |.convert s d x=>zM T s d (gY st.fr x) st.hp fun v=>K v st
 |.makeFunc f first E=>match f,first.toList with
  |.func f,[]=>K (.fn f (E.toList.map (gY st.fr))) st
  |.func f,l=>bif E.toList.isEmpty then K (.mfn f (l.map (gY st.fr))) st else a7
  |_,_=>a7
 |.makeSlice t l c=>match(T.at t).k with
  |.slice h=>match(T.at h).ty,intOf (gY st.fr l),intOf (gY st.fr c)with
   |some e,a6 l,a6 c=>match G6 e (T.at h).zero with
    |some d=>mO (T.rowOf t e.size&&(decide (0<=l)&&(decide (l<=c)&&decide (c.toNat*(T.at h).bytes<=kH))))
      (alloc cl o.dst (.arr e 0 (List.replicate l.toNat d)) st fun id st=>K (.slc id 0 a7) st)
    |none=>a7
   |_,_,_=>a7
  |_=>a7
 |.slice t x lo hi M=>JA T st.hp t (gY st.fr x) (lo.map (gY st.fr)) (hi.map (gY st.fr)) (M.map (gY st.fr)) fun v=>K v st
 |.fieldAddr t x f=>uq T st.hp t (gY st.fr x) f fun v=>K v st
 |.field t x f=>Jy T t (gY st.fr x) f fun v=>K v st
 |.indexAddr t x i=>ut T st.hp t (gY st.fr x) (gY st.fr i) fun v=>K v st
 |.index t x i=>match gY st.fr x,intOf (gY st.fr i)with
  |.val .str s,a6 i=>mO (T.isStr t&&fD s i) (K (.val (.int .u8) (bY s i)) st)
  |_,_=>a7
 |.extract x n=>match gY st.fr x with
  |.tup l=>match l[n]? with
   |some v=>K v st
   |none=>a7
  |_=>a7
 |.call c=>match c.callee with
  |.builtin b=>jZ T cl o b c.argTypes.toList (c.args.toList.map (gY st.fr)) st K
  |.value f=>call (gY st.fr f) (c.args.toList.map (gY st.fr)) o.dst st K
  |_=>a7
 |_=>a7
def St.put (st:St) (dst:Option Nat) (v:bQ):St:=
 match dst with
 |some d=>{st with fr:=st.fr.set d v}
 |none=>st
def iq (T:TT) (cl:Bool) (call:gz R) (ops:Array Oper) (K:St->Option R):List Oper->St->Option R
 |[],st=>K st
 |o::e,st=>
  match o.guard with
  |none=>eF T cl call o st fun v st=>iq T cl call ops K e (st.put o.dst v)
  |some (j,f)=>match(ops[j]?).bind (·.dst)with
   |none=>a7
   |some d=>match st.fr.getD d .undef with
    |.val .bool b=>
     bif b then
      (bif f then eF T cl call o (st.put (a6 d) (.val .bool true)) fun v st=>iq T cl call ops K e (st.put o.dst v)
      else iq T cl call ops K e ((st.put (a6 d) (.val .bool true)).put o.dst (.tup [])))
     else
      (bif f then iq T cl call ops K e ((st.put (a6 d) (.val .bool false)).put o.dst (.tup []))
      else eF T cl call o (st.put (a6 d) (.val .bool false)) fun v st=>iq T cl call ops K e (st.put o.dst v))
    |.tup []=>iq T cl call ops K e (st.put o.dst (.tup []))
    |_=>a7
mutual
def refs:bQ->List Nat
 |.ptr id _=>[id]
 |.slc id _ _=>[id]
 |.ep id _ _ _=>[id]
 |.slf id=>[id]
 |.sd id _=>[id]
 |.yld id=>[id]
 |.tup l=>lD l
 |.agg l=>lD l
 |.fn _ l=>lD l
 |.mfn _ l=>lD l
 |.mpv id=>[id]
 |_=>[]
def lD:List bQ->List Nat
 |[]=>[]
 |v::l=>refs v++lD l
end
def su:List (List bQ)->List Nat
 |[]=>[]
 |l::d=>lD l++su d
def dL.refs:dL->List Nat
 |.box _ cs=>lD cs
 |.lp _ fr _ _ _ _ _ _=>lD fr
 |_=>[]
def xu:gK->List Nat
 |[]=>[]
 |(_,o)::h=>o.refs++xu h
def Zc (l:List Nat) (i:Nat):Bool:=l.any (Nat.beq i)
def avq (h:gK):Nat->List Nat->List Nat
 |0,l=>l
 |n+1,l=>avq h n (l++xu (h.filter fun e=>Zc l e.1))
def Eb (d l:List Nat):Bool:=l.all fun i=> !Zc d i
def gc (d:Nat) (v:bQ) (st:St):Option St:=
 let h:=st.hp.filter fun e=>Nat.blt e.1 d
 let new:=st.hp.filter fun e=> !Nat.blt e.1 d
 let f:=avq new 3 (refs v++lD st.fr++su st.stk++xu h)
 let g:=st.hp.filter fun e=>Nat.blt e.1 d||Zc f e.1
 let i:=((st.hp.filter fun e=> !(Nat.blt e.1 d||Zc f e.1)).map (·.1))
 bif Eb i (refs v++lD st.fr++su st.stk++xu g)then a6 {st with hp:=g}else a7
def aCR (h:gK) (id:Nat):Option Nat:=
 match dO h id with
 |some (.arr _ v _)=>a6 v
 |_=>a7
def SV (h:gK) (id d:Nat):Bool:=match aCR h id with
 |some v=>v==d
 |none=>false
mutual
def anew (h:gK):bQ->bQ
 |.slc id d e=>bif SV h id d then .slc id 0 e else .undef
 |.ep id d i g=>bif SV h id d then .ep id 0 i g else .undef
 |.sd id d=>bif SV h id d then .sd id 0 else .undef
 |.tup l=>.tup (zF h l)
 |.agg l=>.agg (zF h l)
 |.fn f l=>.fn f (zF h l)
 |.mfn f l=>.mfn f (zF h l)
 |v=>v
def zF (h:gK):List bQ->List bQ
 |[]=>[]
 |v::l=>anew h v::zF h l
end
def dL.anew (h:gK):dL->dL
 |.box t cs=>.box t (zF h cs)
 |.lp f fr ps a b k n p=>.lp f (zF h fr) ps a b k n p
 |.arr t _ xs=>.arr t 0 xs
 |o=>o
def X3 (st:St):St:=
 {st with fr:=zF st.hp st.fr,stk:=st.stk.map (zF st.hp),hp:=st.hp.map fun e=>(e.1,e.2.anew st.hp)}
structure eQ where
 slots:List Nat
 owns:List (Nat×Ty)
 after:List Nat
 aowns:List (Nat×Ty)
 rets:List Nat
 give:List (Nat×Ty)
def GZ (l:List Nat):Nat->List bQ->List bQ
 |_,[]=>[]
 |i,v::r=>(bif Zc l i then v else .undef)::GZ l (i+1) r
def yc (s:Nat) (t:Ty) (st:St):Option St:=
 match st.fr.getD s .undef with
 |.nils=>match dO st.hp (1000000*st.stk.length+800000+s)with
  |some _=>a7
  |none=>bif st.nxt.ble (1000000*st.stk.length+800000+s)&&Nat.blt 0 t.size then
    a6 {st with fr:=st.fr.set s (.slc (1000000*st.stk.length+800000+s) 0 a7),hp:=(1000000*st.stk.length+800000+s,.arr t 0 [])::st.hp}else a7
 |.slc id ver d=>match dO st.hp id with
  |some (.arr u w xs)=>bif w==ver then
    (match d with
    |none=>a6 st
    |some (lo,e)=>bif lo==0 then
      a6 {st with fr:=st.fr.set s (.slc id (ver+1) a7),hp:=iV st.hp id (.arr u (ver+1) (xs.take e.toNat))}else a7)else a7
  |_=>a7
 |_=>a7
def as6 (k:Nat) (o:dL):gK->gK
 |[]=>[(k,o)]
 |(j,p)::h=>bif Nat.ble j k then(k,o)::(j,p)::h else(j,p)::as6 k o h
def lF:gK->gK
 |[]=>[]
 |(k,o)::h=>as6 k o (lF h)
def Uf (id off:Nat) (t:Ty) (st:St):Option St:=
 match dO st.hp id with
 |some (.box bt cs)=>match cs.getD off .undef with
  |.nils=>match t with
   |.pair .unit d=>a6 {st with hp:=iV st.hp id (.box bt (cs.set off (.val (.list d) [])))}
   |t=>match dO st.hp (id+500000+2000*off)with
    |some _=>a7
    |none=>bif st.nxt.ble (id+500000+2000*off)&&Nat.blt 0 t.size then
      a6 {st with hp:=iV ((id+500000+2000*off,.arr t 0 [])::st.hp) id (.box bt (cs.set off (.slc (id+500000+2000*off) 0 a7)))}else a7
  |_=>a6 st
 |_=>a6 st
def PW (id off:Nat) (t:Ty) (st:St):Option St:=
 match Uf id off t st with
 |some st=>a6 {st with hp:=lF st.hp}
 |none=>a7
def DJ (s:Nat) (t:Ty) (st:St):Option St:=
 match st.fr.getD s .undef with
 |.nils=>a6 {st with fr:=st.fr.set s (.val (.list t) [])}
 |.emp=>a6 {st with fr:=st.fr.set s (.val (.list t) [])}
 |.slc id ver a7=>match dO st.hp id with
  |some (.arr u w xs)=>bif w==ver&&Eb ((st.hp.filter fun e=> !(!Nat.beq e.1 id)).map (·.1)) (lD (st.fr.set s .undef)++su st.stk++xu (st.hp.filter fun e=> !Nat.beq e.1 id))then
    a6 {st with fr:=st.fr.set s (.val (.list u) xs),hp:=st.hp.filter fun e=> !Nat.beq e.1 id}else a7
  |_=>a7
 |.slc _ _ (a6 _)=>a7
 |_=>a6 st
def Qk (s:Nat) (t:Ty) (st:St):Option St:=
 match st.fr.getD s .undef with
 |.slc id ver a7=>bif Nat.beq id (1000000*st.stk.length+800000+s)then a6 {st with hp:=lF st.hp}else
  match dO st.hp id with
  |some (.arr u w xs)=>bif st.nxt.ble (1000000*st.stk.length+800000+s)&&Eb [id,1000000*st.stk.length+800000+s] (lD (st.fr.set s .undef)++su st.stk++xu (st.hp.filter fun e=> !(Nat.beq e.1 id||Nat.beq e.1 (1000000*st.stk.length+800000+s))))then
    a6 {st with fr:=st.fr.set s (.slc (1000000*st.stk.length+800000+s) ver a7),hp:=lF ((1000000*st.stk.length+800000+s,.arr u w xs)::st.hp.filter fun e=> !(Nat.beq e.1 id||Nat.beq e.1 (1000000*st.stk.length+800000+s)))}else a7
  |_=>a7
 |.ptr id 0=>bif Nat.beq id (1000000*st.stk.length+800000+s)then a6 {st with hp:=lF st.hp}else
  match dO st.hp id with
  |some (.box u xs)=>bif st.nxt.ble (1000000*st.stk.length+800000+s)&&Eb [id,1000000*st.stk.length+800000+s] (lD (st.fr.set s .undef)++su st.stk++(lD xs++xu (st.hp.filter fun e=> !(Nat.beq e.1 id||Nat.beq e.1 (1000000*st.stk.length+800000+s)))))then
    a6 {st with fr:=st.fr.set s (.ptr (1000000*st.stk.length+800000+s) 0),hp:=lF ((1000000*st.stk.length+800000+s,.box u xs)::st.hp.filter fun e=> !(Nat.beq e.1 id||Nat.beq e.1 (1000000*st.stk.length+800000+s)))}else a7
  |_=>a7
 |_=>match yc s t st with
  |some st=>a6 {st with hp:=lF st.hp}
  |none=>a7
def zT:List (Nat×Ty)->St->Option St
 |[],st=>a6 st
 |(s,t)::l,st=>match DJ s t st with
  |some st=>zT l st
  |none=>a7
def jE:List (Nat×Ty)->St->Option St
 |[],st=>a6 st
 |(s,.pair .unit t)::l,st=>match DJ s t st with
  |some st=>jE l st
  |none=>a7
 |(s,.pair (.list .unit) t)::l,st=>match PW (s/100) (s %100) t st with
  |some st=>jE l st
  |none=>a7
 |(s,.pair (.list .bool) t)::l,st=>match Qk s t st with
  |some st=>jE l st
  |none=>a7
 |(s,t)::l,st=>match yc s t st with
  |some st=>jE l st
  |none=>a7
def Lt (d:List Nat) (e:List (Nat×Ty)) (st:St):Option St:=
 match(match e with
  |[]=>a6 {st with fr:=GZ d 0 st.fr}
  |_=>gc (1000000*st.stk.length) .undef {st with fr:=GZ d 0 st.fr})with
 |some st=>match jE e st with
  |some st=>match gc (1000000*st.stk.length) .undef st with
   |some st=>a6 (X3 st)
   |none=>a7
  |none=>a7
 |none=>a7
def axI (k:eQ) (st:St):Option St:=
 match zT k.give {st with fr:=GZ k.rets 0 st.fr}with
 |some st=>match gc (1000000*st.stk.length) .undef st with
  |some st=>a6 (X3 st)
  |none=>a7
 |none=>a7
def iter (kp:Option eQ) (F:St->(Ex->St->Option R)->Option R):Nat->St->(Ex->St->Option R)->Option R
 |0,_,_=>a7
 |n+1,st,K=>F st fun d st=>match d with
  |.normal=>match kp with
   |none=>iter kp F n st K
   |some k=>match Lt k.slots k.owns st with
    |some st=>iter kp F n st K
    |none=>a7
  |.ret=>match kp with
   |none=>K .ret st
   |some k=>match axI k st with
    |some st=>K .ret st
    |none=>a7
  |d=>match kp with
   |none=>K d st
   |some k=>match Lt k.after k.aowns st with
    |some st=>K d st
    |none=>a7
def dH:Code->Nat
 |.region id _ _=>id
 |.seq a _=>dH a
 |.block _ c=>dH c
 |.loop c=>dH c
 |.scope c=>dH c
 |.cond _ a _=>dH a
 |_=>0
def bM:Nat:=10000000000000000000000000000000000000000
def Ty.rigid:Ty->Bool
 |.list _=>false
 |.pair a b=>a.rigid&&b.rigid
 |_=>true
structure Sum where
 ps:List Ty
 rs:List (Ty×Bool)
 f:(ps.foldr Ty.pair Ty.unit).den->Option ((rs.map (·.1)).foldr Ty.pair Ty.unit).den
def zG (hp:gK):(ps:List Ty)->List bQ->Option (ps.foldr Ty.pair Ty.unit).den
 |[],[]=>a6 ()
 |t::d,v::e=>match v.as hp t with
  |some x=>match zG hp d e with
   |some y=>a6 (x,y)
   |none=>a7
  |none=>a7
 |_,_=>a7
def Ty.elem:Ty->Ty
 |.list t=>t
 |t=>t
def oZ (id:Nat):(rs:List (Ty×Bool))->((rs.map (·.1)).foldr Ty.pair Ty.unit).den->List bQ
 |[],_=>[]
 |(t,false)::rs,y=>.val t y.1::oZ id rs y.2
 |(_,true)::rs,y=>.slc id 0 a7::oZ id rs y.2
def x8:(rs:List (Ty×Bool))->((rs.map (·.1)).foldr Ty.pair Ty.unit).den->Option (Σ e:Ty,List e.den)
 |[],_=>a7
 |(_,false)::rs,y=>x8 rs y.2
 |(.list e,true)::_,y=>a6 ⟨e,y.1⟩
 |(_,true)::_,_=>a7
def mQ:bQ->Bool
 |.slc _ _ _=>true
 |.agg _=>true
 |_=>false
def Nv:List bQ->bQ
 |[v]=>v
 |vs=>.tup vs
def news:List (Ty×Bool)->Nat
 |[]=>0
 |(_,false)::d=>news d
 |(_,true)::d=>news d+1
def bH {d e:Type} (o:Option d) (k:d->Option e):Option e:=
 match o with
 |some x=>k x
 |none=>a7
def Sum.call (s:Sum) (cl:Bool) (args:List bQ) (dst:Option Nat) (st:St) (K:bQ->St->Option R):Option R:=
 bif s.rs.all (fun r=>r.1.rigid||(r.2&&r.1.elem.rigid))|| !args.any mQ then
  match zG st.hp s.ps args with
  |some x=>bH (s.f x) fun y=>match x8 s.rs y with
   |none=>bif Nat.beq (news s.rs) 0 then K (Nv (oZ 0 s.rs y)) st else a7
   |some ⟨e,xs⟩=>bif Nat.beq (news s.rs) 1 then alloc cl (a6 (dst.getD 0+100000)) (.arr e 0 xs) st fun id st=>K (Nv (oZ id s.rs y)) st else a7
  |none=>a7
 else a7
structure fZ where
 bt:TypeId
 cs:List (Ty×Bool)
 ps:List Ty
 rs:List Ty
 f:((cs.map (·.1)).foldr Ty.pair Ty.unit).den->(ps.foldr Ty.pair Ty.unit).den->Option (((cs.map (·.1)).foldr Ty.pair Ty.unit).den×(rs.foldr Ty.pair Ty.unit).den)
def Ju:(d:List Ty)->(d.foldr Ty.pair Ty.unit).den->List bQ
 |[],_=>[]
 |t::d,x=>.val t x.1::Ju d x.2
def oU:List (Ty×Bool)->List bQ->List (Nat×Nat)
 |(_,true)::cs,.slc id ver _::d=>(id,ver)::oU cs d
 |_::cs,_::d=>oU cs d
 |_,_=>[]
def um:List (Ty×Bool)->List bQ->List Nat
 |(_,false)::cs,v::d=>refs v++um cs d
 |_::cs,_::d=>um cs d
 |_,_=>[]
def jL (hp:gK) (d:Bool):(cs:List (Ty×Bool))->List bQ->Option ((cs.map (·.1)).foldr Ty.pair Ty.unit).den
 |[],[]=>a6 ()
 |(t,false)::cs,v::f=>bif d&&(mQ v&& !t.rigid)then a7 else match v.as hp t with
  |some x=>match jL hp d cs f with
   |some y=>a6 (x,y)
   |none=>a7
  |none=>a7
 |(.list e,true)::cs,.slc id ver a7::f=>match dO hp id with
  |some (.arr t v xs)=>bif v==ver then(match jD (.list e) (t':=.list t) xs with
   |some x=>match jL hp d cs f with
    |some y=>a6 (x,y)
    |none=>a7
   |none=>a7)else a7
  |_=>a7
 |_,_=>a7
def Gx:(cs:List (Ty×Bool))->List (Nat×Nat)->((cs.map (·.1)).foldr Ty.pair Ty.unit).den->List bQ
 |[],_,_=>[]
 |(t,false)::cs,l,y=>.val t y.1::Gx cs l y.2
 |(_,true)::cs,(i,v)::l,y=>.slc i v a7::Gx cs l y.2
 |(_,true)::cs,[],y=>.undef::Gx cs [] y.2
def uh:(cs:List (Ty×Bool))->List (Nat×Nat)->((cs.map (·.1)).foldr Ty.pair Ty.unit).den->gK
 |[],_,_=>[]
 |(_,false)::cs,l,y=>uh cs l y.2
 |(.list e,true)::cs,(i,v)::l,y=>(i,.arr e v y.1)::uh cs l y.2
 |(_,true)::cs,l,y=>uh cs l y.2
def Ox:gK->gK->gK
 |[],h=>h
 |(i,o)::l,h=>Ox l (iV h i o)
def je:List (Ty×Bool)->Nat->List (Nat×Nat)
 |[],_=>[]
 |(_,true)::cs,n=>(n,0)::je cs (n+1)
 |(_,false)::cs,n=>je cs n
def TZ:List Nat->Bool
 |[]=>true
 |i::l=> !Zc l i&&TZ l
def fZ.rigid (s:fZ):Bool:=s.cs.all (fun c=>c.1.rigid||(c.2&&c.1.elem.rigid))&&s.rs.all Ty.rigid
def sS (cl:Bool):Nat->List (Ty×Bool)->List bQ->St->(List bQ->St->Option R)->Option R
 |n,(.list e,true)::cs,.nils::d,st,K=>bif PG 0 e.size then alloc cl (a6 n) (.arr e 0 []) st fun id st=>sS cl (n+1) cs d st fun l st=>K (.slc id 0 a7::l) st else a7
 |n,_::cs,v::d,st,K=>sS cl (n+1) cs d st fun l st=>K (v::l) st
 |_,_,l,st,K=>K l st
def fZ.go (s:fZ) (id:Nat) (d:List bQ) (st:St) (K:bQ->St->Option R):Option R:=
 match dO st.hp id with
 |some (.box t cells)=>
  bif Nat.beq t s.bt&&((TZ ((oU s.cs cells).map (·.1))&&Eb (id::(oU s.cs cells).map (·.1)) (lD d++um s.cs cells))&&(s.rigid|| !d.any mQ))then
   match jL st.hp (!s.rigid) s.cs cells with
   |some x=>match zG st.hp s.ps d with
    |some y=>bH (s.f x y) fun z=>K (Nv (Ju s.rs z.2))
      {st with hp:=iV (Ox (uh s.cs ((oU s.cs cells).map fun p=>(p.1,p.2+1)) z.1) st.hp) id (.box t (Gx s.cs ((oU s.cs cells).map fun p=>(p.1,p.2+1)) z.1))}
    |none=>a7
   |none=>a7
  else a7
 |_=>a7
def fZ.call (s:fZ) (cl:Bool) (args:List bQ) (st:St) (K:bQ->St->Option R):Option R:=
 match args with
 |.ptr id 0::d=>match dO st.hp id with
  |some (.box t cells)=>bif cells.any (fun v=>match v with|.nils=>true|_=>false)then
    sS cl (200000+20*(id %5000)) s.cs cells st fun cells st=>s.go id d {st with hp:=iV st.hp id (.box t cells)} K
   else s.go id d st K
  |_=>a7
 |_=>a7
inductive Job where
 |call (f:FuncId) (args:List bQ)
 |yield (id:Nat) (args:List bQ)
structure dE where
 V:Type
 A:V->Type
 B:V->Type
 get:St->Option V
 spec:(v:V)->Option (A v⊕B v)
 exA:V->Ex
 stA:St->(v:V)->A v->St
 stB:St->(v:V)->B v->St
 dep:Nat:=0
 exB:V->Ex:=fun _=>.ret
def dN {e h d:Type} (o:e⊕h) (f:e->d) (g:h->d):d:=
 match o with
 |.inl a=>f a
 |.inr b=>g b
structure Env where
 P:Program
 T:TT
 cl:Bool
 kp:FuncId->Nat->Option eQ
 sg:FuncId->Option Sum
 lp:FuncId->Nat->Option dE
 rf:FuncId->Nat->Bool:=fun _ _=>false
 bf:FuncId->Bool:=fun _=>false
 em:TypeId->Nat->Nat->Bool:=fun _ _ _=>false
 il:FuncId->Bool:=fun _=>false
 sl:FuncId->Bool:=fun _=>false
 sc:FuncId:=0
 np:FuncId->Bool:=fun _=>false
 dp:Nat:=0
 sb:FuncId->Option fZ:=fun _=>a7
def Env.at (E:Env) (n:Nat):Env:={E with dp:=n}
def Ru (em:TypeId->Nat->Nat->Bool) (T:TT) (args:List bQ) (st:St) (K:bQ->St->Option R):Option R:=
 match args with
 |[.ptr id d]=>match dO st.hp id with
  |some (.box t (.slf i:: .slc _ _ _::[]))=>bif Nat.beq d 0&&(Nat.beq i id&&((T.at t).known&&(T.at t).bld))then K (.tup []) st else a7
  |some (.box t cs)=>bif em t d cs.length then(match cs.getD d .undef with
    |.nilp=>K (.tup []) {st with hp:=iV st.hp id (.box t (cs.take d++[.ptr id d]++cs.drop (d+1)))}
    |.ptr i o=>bif Nat.beq i id&&Nat.beq o d then K (.tup []) st else a7
    |_=>a7)else a7
  |_=>a7
 |_=>a7
abbrev nG (R:Type):=Job->St->(bQ->St->Option R)->Option R
structure X0 where
 q:Job->St->Option bQ
 s:nG St
 u:nG Unit
def V9:Ty:=.pair .str (.pair .str .unit)
def anY {d:Type} (l:List d) (i:Nat) (x:List d):List d:=l.take i++x++l.drop i
def aDX:bQ->Option Int
 |.val (.int .i64) n=>a6 n
 |_=>a7
def YR (args:List bQ) (st:St) (K:bQ->St->Option R):Option R:=
 match args with
 |[.slc id ver a7,f,.slc i2 v2 a7]=>match aDX f with
  |some i=>match dO st.hp id with
   |some (.arr e v xs)=>match dO st.hp i2 with
    |some (.arr e2 u d)=>bif(v==ver&&u==v2)&& !Nat.beq id i2 then
      (match jD (t':=.list e) (.list V9) xs with
      |some xs=>match jD (t':=.list e2) (.list V9) d with
       |some d=>bif Nat.beq d.length 1&&(leI 0 i&&(leI i (bI xs)&&dY xs 64))then
         K (.slc id (ver+1) a7) {st with hp:=iV st.hp id (.arr V9 (ver+1) (anY xs i.toNat d))}else a7
       |none=>a7
      |none=>a7)else a7
    |_=>a7
   |_=>a7
  |none=>a7
 |_=>a7
def xE:Ty:=.pair (.int .i64) (.pair (.int .i64) (.pair (.int .i64) (.pair .bool .unit)))
def Xj:Int->List xE.den->Bool
 |_,[]=>true
 |n,x::r=>leI n x.2.1&&(leI x.2.1 4611686018427387904&&Xj (x.2.1+1) r)
def afh (xs:List xE.den):Bool:=Xj 0 xs
def abN (sc:FuncId) (args:List bQ) (st:St) (K:bQ->St->Option R):Option R:=
 match args with
 |[.slc id ver a7,.fn c []]=>bif Nat.beq c sc then(match dO st.hp id with
   |some (.arr e v xs)=>bif v==ver then
     (match jD (t':=.list e) (.list xE) xs with
     |some xs=>bif afh xs&&dY xs 64 then K (.tup []) st else a7
     |none=>a7)else a7
   |_=>a7)else a7
 |_=>a7
def wM (E:Env) (f:nG R):gz R:=fun i d j st K=>
 match i with
 |.fn g e=>match E.sg g with
  |some s=>s.call E.cl (d++e) j st K
  |none=>match E.sb g with
   |some s=>s.call E.cl (d++e) st K
   |none=>bif E.bf g then Ru E.em E.T (d++e) st K else bif E.il g then YR (d++e) st K else bif E.sl g then abN E.sc (d++e) st K else f (.call g (d++e)) st K
 |.mfn g h=>match E.sb g with
  |some s=>s.call E.cl (h++d) st K
  |none=>f (.call g (h++d)) st K
 |.yld id=>f (.yield id d) st K
 |_=>a7
def bQ.rigid:bQ->Bool
 |.val t _=>t.rigid
 |_=>false
def bQ.calm:bQ->Bool
 |.val _ _=>true
 |_=>false
def bQ.rigidR:bQ->Bool
 |.tup l=>l.all bQ.rigid
 |v=>v.rigid
def VZ (hp:gK):bQ->Option bQ
 |.val t x=>a6 (.val t x)
 |.nils=>a6 .nils
 |.slc id ver d=>match dO hp id with
  |some (.arr t v xs)=>bif v==ver then a6 (.val (.list t) (acy xs d))else a7
  |_=>a7
 |_=>a7
def Q9 (hp:gK):List bQ->Option (List bQ)
 |[]=>a6 []
 |v::l=>match VZ hp v with
  |some v=>match Q9 hp l with
   |some l=>a6 (v::l)
   |none=>a7
  |none=>a7
def RH (E:Env) (e:Job->St->Option bQ):gz R:=fun f d h st K=>
 match f with
 |.fn g []=>match E.sg g with
  |some s=>bif s.rs.all (fun r=> !r.2&&r.1.rigid)then s.call E.cl d h st K else a7
  |none=>match Q9 st.hp d with
   |some d=>match e (.call g d) ⟨[],[],[],st.nxt⟩with
    |some v=>bif v.rigidR then K v st else a7
    |none=>a7
   |none=>a7
 |_=>a7
def jK:Op->Bool
 |.move _|.assign _|.pick _ _ _|.load _ _|.nilCheck _|.binOp _ _ _ _ _|.unOp _ _ _|.slice _ _ _ _ _|.fieldAddr _ _ _|.field _ _ _|.indexAddr _ _ _|.index _ _ _|.extract _ _|.build _ _|.convert _ _ _=>true
 |.call c=>match c.callee with
  |.builtin .len=>true
  |.builtin .min=>true
  |.builtin .max=>true
  |.value _=>true
  |_=>false
 |_=>false
def iD:Op->Bool
 |.call c=>match c.callee with
  |.builtin .len=>true
  |.builtin .min=>true
  |.builtin .max=>true
  |_=>false
 |o=>jK o
def IP:Op->Bool
 |.move _|.assign _|.pick _ _ _|.nilCheck _|.binOp _ _ _ _ _|.unOp _ _ _|.slice _ _ _ _ _|.fieldAddr _ _ _|.field _ _ _|.indexAddr _ _ _|.index _ _ _|.extract _ _=>true
 |.call c=>match c.callee with
  |.builtin .len=>true
  |.builtin .min=>true
  |.builtin .max=>true
  |_=>false
 |_=>false
def PP:Op->Bool
 |.move _|.assign _|.pick _ _ _|.load _ _|.index _ _ _|.extract _ _|.alloc _|.box _ _=>true
 |.call c=>match c.callee with
  |.builtin .len=>true
  |.builtin .unsafeSliceData=>true
  |_=>false
 |_=>false
def mP (ops:Array Oper):Bool:=ops.toList.all fun o=>match o.op with|.defer _=>false|.select _ _=>false|_=>true
def WR (l:List Nat) (i:Nat):Bool:=l.any (Nat.beq i)
def EP (ops:Array Oper) (j:Nat) (D:List Nat):Bool:=match ops[j]? with
 |some d=>d.after.any fun e=>Region.binds .any e&&WR D e.on
 |none=>false
def aHL (ops:Array Oper) (d:Array Bool) (n:Nat) (D:List Nat):List Nat:=(List.range n).foldl (fun D j=>cond (!d.getD j true&&(!WR D j&&EP ops j D)) (j::D) D) D
def U3 (ops:Array Oper) (d:Array Bool) (i:Nat) (pure:Bool):Bool:=match ops[i]? with
 |some f=>let D:=aHL ops d ops.size [i]
  WR D i&&(D.all (fun j=> !d.getD j true&&(Nat.beq j i||EP ops j D))&&(List.range ops.size).all fun j=>d.getD j true||(WR D j||(match ops[j]? with
   |some e=>f.apart ops e&&(pure||PP e.op)
   |none=>true)))
 |none=>false
def ahe (ops:Array Oper) (f:Op->Bool) (i:Nat):Bool:=match ops[i]? with
 |some o=>f o.op
 |none=>false
def wQ {d:Type} (f:d->d->Bool):List d->List d->Bool
 |[],[]=>true
 |x::l,y::m=>f x y&&wQ f l m
 |_,_=>false
def Yu:(t:Ty)->t.den->t.den->Bool
 |.unit,_,_=>true
 |.bool,x,y=>x==y
 |.int _,x,y=>bP x y
 |.str,x,y=>gG x y
 |.list t,x,y=>wQ (Yu t) x y
 |.pair a b,x,y=>Yu a x.1 y.1&&Yu b x.2 y.2
def agt:Option (Int×Int)->Option (Int×Int)->Bool
 |none,a7=>true
 |some a,a6 b=>bP a.1 b.1&&bP a.2 b.2
 |_,_=>false
mutual
def Vl (a b:bQ):Bool:=
 match a with
 |.undef=>match b with|.undef=>true|_=>false
 |.val t x=>match b with
  |.val u y=>(match jD t y with|some y=>Yu t x y|none=>false)
  |_=>false
 |.nils=>match b with|.nils=>true|_=>false
 |.nilp=>match b with|.nilp=>true|_=>false
 |.nilfn=>match b with|.nilfn=>true|_=>false
 |.emp=>match b with|.emp=>true|_=>false
 |.tup l=>match b with|.tup m=>Ig l m|_=>false
 |.agg l=>match b with|.agg m=>Ig l m|_=>false
 |.cellp t x=>match b with
  |.cellp u y=>(match jD t y with|some y=>Yu t x y|none=>false)
  |_=>false
 |.lst t x n=>match b with
  |.lst u y m=>n==m&&(match jD (.list t) (t':=.list u) y with|some y=>Yu (.list t) x y|none=>false)
  |_=>false
 |.ptr i o=>match b with|.ptr j p=>Nat.beq i j&&Nat.beq o p|_=>false
 |.slc i v w=>match b with|.slc j u x=>Nat.beq i j&&(Nat.beq v u&&agt w x)|_=>false
 |.ep i v n o=>match b with|.ep j u m p=>Nat.beq i j&&(Nat.beq v u&&(eqN n m&&Nat.beq o p))|_=>false
 |.fn f l=>match b with|.fn g m=>Nat.beq f g&&Ig l m|_=>false
 |.mfn f l=>match b with|.mfn g m=>Nat.beq f g&&Ig l m|_=>false
 |.mpv i=>match b with|.mpv j=>Nat.beq i j|_=>false
 |.yld i=>match b with|.yld j=>Nat.beq i j|_=>false
 |.slf i=>match b with|.slf j=>Nat.beq i j|_=>false
 |.sd i v=>match b with|.sd j u=>Nat.beq i j&&Nat.beq v u|_=>false
def Ig:List bQ->List bQ->Bool
 |[],m=>match m with|[]=>true|_=>false
 |a::l,m=>match m with|b::m=>Vl a b&&Ig l m|_=>false
end
def aDE (a b:Ex):Bool:=match a with
 |.normal=>match b with|.normal=>true|_=>false
 |.exit i=>match b with|.exit j=>Nat.beq i j|_=>false
 |.goto i=>match b with|.goto j=>Nat.beq i j|_=>false
 |.ret=>match b with|.ret=>true|_=>false
def ar9:Option Ex->Option Ex->Bool
 |none,a7=>true
 |some a,a6 b=>aDE a b
 |_,_=>false
def eqO (a b:dL):Bool:=
 match a with
 |.box t l=>match b with|.box u m=>Nat.beq t u&&Ig l m|_=>false
 |.arr t v x=>match b with
  |.arr u w y=>Nat.beq v w&&(match jD (.list t) (t':=.list u) y with|some y=>Yu (.list t) x y|none=>false)
  |_=>false
 |.lp f fr ps _ _ k n p=>match b with
  |.lp g fs qs _ _ h m q=>Nat.beq f g&&(Ig fr fs&&(wQ Nat.beq ps qs&&((match k,h with|some k,a6 h=>Nat.beq k h|_,_=>false)&&(Nat.beq n m&&ar9 p q))))
  |_=>false
 |.dead=>match b with|.dead=>true|_=>false
 |.mp k v l=>match b with
  |.mp k' v' m=>decide (k=k')&&(decide (v=v')&&decide (l=m))
  |_=>false
def eqH:gK->gK->Bool
 |[],h=>match h with|[]=>true|_=>false
 |(i,a)::h,g=>match g with
  |(j,b)::g=>Nat.beq i j&&(eqO a b&&eqH h g)
  |[]=>false
def asb (a b:St):Bool:=Ig a.fr b.fr&&(wQ Ig a.stk b.stk&&(eqH a.hp b.hp&&Nat.beq a.nxt b.nxt))
def U8 (d:gK) (i:Nat) (a:dL):Option dL:=match a with
 |.lp f fr ps _ _ (a6 k) n p=>match dO d i with
  |some (.lp g _ _ jo bd (a6 h) _ _)=>bif Nat.beq f g&&Nat.beq k h then a6 (.lp f fr ps jo bd (a6 k) n p)else a7
  |_=>a7
 |.lp _ _ _ _ _ a7 _ _=>a7
 |a=>a6 a
def U5 (d:gK):gK->Option gK
 |[]=>a6 []
 |(i,a)::h=>match U8 d i a with
  |some a=>match U5 d h with
   |some h=>a6 ((i,a)::h)
   |none=>a7
  |none=>a7
def sZ:gK->Bool
 |[]=>true
 |(k,_)::h=> !h.any (fun e=>Nat.beq e.1 k)&&sZ h
def TR (d:gK):List (Option St)->Option St
 |some a::l=>bif(a6 a::l).all (fun b=>match b with|some b=>asb a b&&sZ b.hp|none=>false)then
   (match U5 d a.hp with|some h=>a6 {a with hp:=h}|none=>a7)else a7
 |_=>a7
def tidy (cl:Bool) (st:St):St:=cond cl st {st with hp:=lF st.hp}
def tX (ops:Array Oper) (i k:Nat):Bool:=match ops[i]? with
 |some d=>d.after.any fun e=>Region.binds .any e&&Nat.beq e.on k
 |none=>false
def Fe (ops:Array Oper) (x y:Oper):Bool:=match y.dst with
 |some d=> !(x.looksAt ops).contains d&&x.dst !=a6 d
 |none=>true
def MZ (ops:Array Oper) (log:List Nat) (i:Nat):Bool:=match ops[i]? with
 |some d=>Fe ops {d with dst:=a7} d&&log.all fun k=>match ops[k]? with
  |some ok=>Fe ops ok d&&(tX ops i k||ok.apart ops d)
  |none=>false
 |none=>false
def au6 (ops:Array Oper) (log:List Nat) (i:Nat):Bool:=match ops[i]? with
 |some d=>log.all fun k=>match ops[k]? with
  |some ok=>tX ops i k||ok.apart ops d
  |none=>false
 |none=>false
def o9 (ops:Array Oper):List Nat->List bQ->List bQ
 |[],e=>e
 |i::l,e=>match(ops[i]?).bind (·.dst)with
  |some d=>(o9 ops l e).set d .undef
  |none=>o9 ops l e
def sameAt (dst:Option Nat) (z:bQ) (st:St):Bool:=match dst with
 |some d=>Vl z (st.fr.getD d .undef)
 |none=>true
def KJ (s:Sum):Bool:=s.rs.all fun r=> !r.2&&r.1.rigid
def GG (sg:FuncId->Option Sum) (cl:Bool):gz R:=fun e d f st K=>match e with
 |.fn g []=>match sg g with
  |some s=>bif KJ s&&d.all bQ.calm then s.call cl d f st K else a7
  |none=>a7
 |_=>a7
def vP (sg:FuncId->Option Sum) (o:Op):Bool:=match o with
 |.call c=>match c.callee with
  |.builtin _=>true
  |.value (.func g)=>match sg g with
   |some s=>KJ s
   |none=>false
  |_=>false
 |_=>true
def Q3:List (Option Unit)->Option R->Option R
 |[],k=>k
 |o::l,k=>bH o fun _=>Q3 l k
def settle (d:gK) (a:St):Option St:=match U5 d a.hp with
 |some h=>a6 {a with hp:=h}
 |none=>a7
def jC (o:Oper) (fr:List bQ):List bQ:=match o.op with
 |.call c=>match c.callee with
  |.value v=>gY fr v::c.args.toList.map (gY fr)
  |_=>[]
 |_=>[]
def YU (sg:FuncId->Option Sum) (ops:Array Oper) (fr:List bQ) (i:Nat):Bool:=match ops[i]? with
 |some o=>match jC o fr with
  |.fn g []::e=>match sg g with
   |some s=>(KJ s&&e.all bQ.calm)&&(match o.dst with|some d=>PG d fr.length|none=>true)
   |none=>false
  |_=>false
 |none=>false
def zy (dst:Option Nat) (fr:List bQ):List bQ:=match dst with
 |some d=>[fr.getD d .undef]
 |none=>[]
def yB (T:TT) (cl:Bool) (call:gz R) (ops:Array Oper) (e:List bQ):List Nat->St->(St->Option R)->Option R
 |[],st,K=>K st
 |i::l,st,K=>match ops[i]? with
  |some d=>bif iD d.op then(eF T cl call d st fun z _=>bif sameAt d.dst z st then yB T cl call ops e l st K else a7)
   else bif Ig (jC d e) (jC d st.fr)&&Ig (zy d.dst e) (zy d.dst st.fr)then yB T cl call ops e l st K else a7
  |none=>a7
def uy (T:TT) (cl:Bool) (call:gz R) (ops:Array Oper) (j:Nat) (log:List Nat) (st:St) (K:St->Option R):Option R:=
 match ops[j]? with
 |some d=>bif d.guard.isNone&&au6 ops log j then
   eF T cl call d {st with fr:=o9 ops (log.filter fun i=> !tX ops j i) st.fr,stk:=st.fr::st.stk} fun z g=>match g.stk with
    |e::f=>yB T cl call ops st.fr (log.filter fun i=> !tX ops j i).reverse ({g with fr:=e,stk:=f}.put d.dst z) K
    |[]=>a7
  else a7
 |none=>a7
def mD (T:TT) (cl:Bool) (sg:FuncId->Option Sum) (d:gz St) (e:gz Unit) (ops:Array Oper):Nat->{R:Type}->gz R->Array Bool->List Nat->St->(St->Option R)->Option R
  |0,_,_,_,_,_,_=>a7
  |n+1,_,call,f,log,st,K=>match Region.ready .any ops f with
    |[]=>K st
    |k::rs=>match(k::rs).find? fun i=>ahe ops iD i&&MZ ops log i with
      |some i=>match ops[i]? with
        |some g=>bif g.guard.isNone&&MZ ops log i then
            eF T cl call g st fun z st=>mD T cl sg d e ops n call (f.setIfInBounds i true) (i::log) (st.put g.dst z) K else a7
        |none=>a7
      |none=>match(k::rs).find? fun i=>YU sg ops st.fr i with
       |some i=>match ops[i]? with
        |some g=>bif g.guard.isNone&&MZ ops log i then
            eF T cl (GG sg cl) g st fun z st=>mD T cl sg d e ops n call (f.setIfInBounds i true) (i::log) (st.put g.dst z) K else a7
        |none=>a7
       |none=>match rs with
        |[]=>uy T cl call ops k log st fun st=>mD T cl sg d e ops n call (f.setIfInBounds k true) log st K
        |_=>bif cl|| !ops.toList.all (fun o=>vP sg o.op)then(match TR st.hp ((k::rs).map fun j=>uy T cl d ops j log st fun st=>mD T cl sg d e ops n d (f.setIfInBounds j true) log st fun st=>a6 (tidy cl st))with
          |some st=>K st
          |none=>a7)else
          uy T cl call ops k log st fun h=>mD T cl sg d e ops n call (f.setIfInBounds k true) log h fun st1=>
            bif sZ (tidy cl st1).hp then(match settle st.hp (tidy cl st1)with
              |some m=>Q3 (rs.map fun j=>uy T cl e ops j log st fun h=>mD T cl sg d e ops n e (f.setIfInBounds j true) log h fun b=>
                  bif asb (tidy cl st1) (tidy cl b)&&sZ (tidy cl b).hp then a6 ()else a7) (K m)
              |none=>a7)else a7
def uG (ops:Array Oper):Nat->Array Bool->Option (List Nat)
 |0,d=>bif(Region.ready .any ops d).isEmpty then a6 []else a7
 |n+1,d=>match Region.ready .any ops d with
  |[]=>a6 []
  |k::e=>match(k::e).find? fun i=>ahe ops IP i&&U3 ops d i true with
   |some i=>match uG ops n (d.setIfInBounds i true)with
    |some l=>a6 (i::l)
    |none=>a7
   |none=>match(k::e).find? fun i=>ahe ops iD i&&U3 ops d i false with
    |some i=>match uG ops n (d.setIfInBounds i true)with
     |some l=>a6 (i::l)
     |none=>a7
    |none=>match e with
     |[]=>match uG ops n (d.setIfInBounds k true)with
      |some l=>a6 (k::l)
      |none=>a7
     |_=>a7
def ahY (ops:Array Oper):Option (List Oper):=bif mP ops then(match uG ops ops.size (Array.replicate ops.size false)with
 |some l=>a6 (l.filterMap fun i=>ops[i]?)
 |none=>a7)else a7
def aFL (sb:FuncId->Option fZ) (d:FuncId->Bool) (o:Op):Bool:=match o with
 |.call c=>match c.callee with
  |.value (.func g)=>(sb g).isNone&& !d g
  |.value _=>false
  |_=>true
 |_=>true
def KI (ops:Array Oper):Bool:=ops.toList.all (fun o=>jK o.op)&&Region.lexB .any ops
def aHR (d:St->(Ex->St->Option R)->Option R) (K:Ex->St->Option R):Ex->St->Option R:=fun e st=>match e with
 |.normal=>d st K
 |e=>K e st
def uQ (id:Nat) (K:Ex->St->Option R):Ex->St->Option R:=fun e st=>match e with
 |.exit i=>bif i==id then K .normal st else K (.exit i) st
 |e=>K e st
def Du (F:St->(Ex->St->Option R)->Option R):St->(Ex->St->Option R)->Option R:=fun st K=>F st fun e st=>match e with
 |.normal=>K (.exit 999999) st
 |.exit i=>bif Nat.beq i 999999 then a7 else K (.exit i) st
 |e=>K e st
def cutAt (E:Env) (f:FuncId) (k:Nat) (F:St->(Ex->St->Option R)->Option R) (st:St) (K:Ex->St->Option R):Option R:=
 match E.lp f k with
 |some L=>bif L.dep.ble E.dp then(match L.get st with
  |some v=>bH (L.spec v) fun o=>dN o (fun a=>uQ 999999 K (L.exA v) (L.stA st v a)) fun b=>uQ 999999 K (L.exB v) (L.stB st v b)
  |none=>a7)else a7
 |none=>match E.kp f k with
  |none=>F st K
  |some d=>match Lt d.slots d.owns st with
   |some st=>iter (a6 d) (Du F) bM st (uQ 999999 K)
   |none=>a7
def atX (K:Ex->St->Option R):Ex->St->Option R:=fun e st=>match e with
 |.goto _=>a7
 |e=>K e st
def F5 (k:Option eQ) (st:St):St:=match k with
 |some k=>{st with fr:=GZ k.slots 0 st.fr}
 |none=>st
def run (E:Env) (d:nG R) (h:X0) (f:FuncId):Code->St->(Ex->St->Option R)->Option R
 |.skip,st,K=>K .normal st
 |.label _,st,K=>K .normal st
 |.region id ops p,st,K=>
  let st:=F5 (E.kp f (600000+id)) st
  bif p then(bif KI ops&&ops.toList.all (fun o=>iD o.op)then iq E.T E.cl (RH E h.q) ops (K .normal) ops.toList st else match ahY ops with
   |some l=>iq E.T E.cl (wM E d) ops (K .normal) l st
   |none=>bif KI ops&&ops.toList.all (fun o=>aFL E.sb E.np o.op)then iq E.T E.cl (RH E h.q) ops (K .normal) ops.toList st else bif mP ops then mD E.T E.cl E.sg (wM E h.s) (wM E h.u) ops (ops.size+1) (wM E d) (Array.replicate ops.size false) [] st (K .normal)else a7)
  else iq E.T E.cl (wM E d) ops (K .normal) ops.toList st
 |.seq a b,st,K=>run E d h f a st (aHR (cutAt E f (800000+dH b) (run E d h f b)) K)
 |.cond c x y,st,K=>match gY st.fr c with
  |.val .bool b=>bif b then run E d h f x st K else run E d h f y st K
  |_=>a7
 |.block id c,st,K=>run E d h f c st (uQ id K)
 |.loop c,st,K=>match E.lp f (dH c)with
  |some L=>bif L.dep.ble E.dp then(match L.get st with
   |some v=>bH (L.spec v) fun o=>dN o (fun a=>K (L.exA v) (L.stA st v a)) fun b=>K (L.exB v) (L.stB st v b)
   |none=>a7)else a7
  |none=>match E.kp f (dH c)with
   |none=>iter a7 (run E d h f c) bM st K
   |some k=>match Lt k.slots k.owns st with
    |some st=>iter (a6 k) (run E d h f c) bM st K
    |none=>a7
 |.exit id,st,K=>K (.exit id) st
 |.goto l,st,K=>K (.goto l) st
 |.ret,st,K=>K .ret st
 |.scope c,st,K=>run E d h f c st (atX K)
 |.rangeFunc fv ps jo j,st,K=>match gY st.fr fv with
  |.fn g z=>
   let st:=F5 (E.kp f (500000+dH j)) st
   alloc E.cl (a6 (700000+ps.toList.headD 0)) (.lp f st.fr ps.toList jo j (bif E.rf f (dH j)then a6 (dH j)else a7) 0 a7) st fun id st=>
    d (.call g (.yld id::z)) {st with stk:=[.yld id]::st.stk} fun _ st=>match st.stk with
     |[.yld id]::i=>match dO st.hp id with
      |some (.lp _ _ _ _ _ _ 0 a7)=>K .normal {st with stk:=i,hp:=iV st.hp id .dead}
      |some (.lp _ _ _ _ _ _ 1 (a6 e))=>K e {st with stk:=i,hp:=iV st.hp id .dead}
      |_=>a7
     |_=>a7
  |_=>a7
 |.refuse _,_,_=>a7
def sD (T:TT) (st:St):List ResultVar->(List bQ->Option R)->Option R
 |[],K=>K []
 |.tmp t::l,K=>sD T st l fun d=>K (st.fr.getD t .undef::d)
 |.cell a t::l,K=>LX T st.hp t (st.fr.getD a .undef) fun v=>sD T st l fun d=>K (v::d)
def wz (fr:List bQ):List Nat->List bQ->List bQ
 |p::d,v::e=>wz (fr.set p v) d e
 |_,_=>fr
def pop (st:St) (K:St->Option R):Option R:=
 match st.stk with
 |d::e=>K {st with fr:=d,stk:=e}
 |[]=>a7
def Env.keyed (E:Env):Option Nat->Env
 |some _=>E
 |none=>{E with lp:=fun _ _=>a7,rf:=fun _ _=>false}
def kX (E:Env):Nat->{R:Type}->nG R
 |0,_,_,_,_=>a7
 |n+1,R,.call f h,st,K=>match E.P.funcs[f]? with
  |none=>a7
  |some fn=>match fn.body with
   |none=>a7
   |some c=>bif h.length.ble fn.ntmps then
     (run (E.at n) (kX E n) ⟨fun j st=>kX E n (R:=bQ) j st fun v _=>a6 v,kX E n,kX E n⟩ f c {fr:=h++List.replicate (fn.ntmps-h.length) (.tup []),stk:=st.fr::st.stk,hp:=st.hp,nxt:=st.nxt} fun e d=>
      match e with
      |.normal|.ret=>sD E.T d fn.results.toList fun l=>
       let v:=match l with
        |[v]=>v
        |l=>.tup l
       match gc (bif E.cl then st.nxt else 1000000*d.stk.length) v {d with fr:=[]}with
       |some g=>pop g (K v)
       |none=>a7
      |_=>a7)else a7
 |n+1,R,.yield id h,st,K=>match dO st.hp id with
  |some (.lp f fr0 ps jo bd o 0 a7)=>bif h.length==ps.length then
    (run ((E.at n).keyed o) (kX E n) ⟨fun j st=>kX E n (R:=bQ) j st fun v _=>a6 v,kX E n,kX E n⟩ f jo {fr:=wz fr0 ps h,stk:=[.yld id]::st.fr::st.stk,hp:=st.hp,nxt:=st.nxt} fun e d=>match e,d.stk with
     |.normal,[.yld id]::_=>match dO d.hp id with
      |some (.lp f1 fr1 ps1 asg1 bd1 q 0 a7)=>run ((E.at n).keyed o) (kX E n) ⟨fun j st=>kX E n (R:=bQ) j st fun v _=>a6 v,kX E n,kX E n⟩ f bd {d with hp:=iV d.hp id (.lp f1 fr1 ps1 asg1 bd1 q 2 a7)} fun e g=>match g.stk with
       |[.yld id]::i=>match dO g.hp id with
        |some (.lp f2 fr2 ps2 asg2 bd2 p 2 a7)=>
         match gc (bif E.cl then st.nxt else 1000000*g.stk.length) .undef {g with fr:=[],stk:=i,hp:=iV g.hp id (match e with|.normal=>.lp f2 fr2 ps2 asg2 bd2 p 0 a7|e=>.lp f2 fr2 ps2 asg2 bd2 p 1 (a6 e))}with
         |some s=>pop s (K (.val .bool (match e with|.normal=>true|_=>false)))
         |none=>a7
        |_=>a7
       |_=>a7
      |_=>a7
     |_,_=>a7)else a7
  |_=>a7
end
end
section
open Option renaming some → a6, none → a7
open List renaming append_assoc → ag, length_append → ai, length_cons → aH, nil_append → aO, drop_of_length_le → aQ, take_of_length_le → bn, eq_nil_of_length_eq_zero → bD
open Nat renaming le_refl → ae, lt_or_ge → aI
open Tryz
open Go.RowKit
def nH:TypeId:=5
def V5:TypeId:=128
def IV:Code->Nat->Option (Code×Code)
 |.rangeFunc _ _ jo d,k=>if dH d=k then a6 (jo,d)else match IV jo k with
  |some x=>a6 x
  |none=>IV d k
 |.seq a b,k=>match IV a k with
  |some x=>a6 x
  |none=>IV b k
 |.cond _ a b,k=>match IV a k with
  |some x=>a6 x
  |none=>IV b k
 |.block _ c,k=>IV c k
 |.loop c,k=>IV c k
 |.scope c,k=>IV c k
 |_,_=>a7
def aFV (P:Program) (f:FuncId) (k:Nat):Option (Code×Code):=
 match P.funcs[f]? with
 |some fn=>match fn.body with
  |some c=>IV c k
  |none=>a7
 |none=>a7
noncomputable def rH (f:FuncId) (k:Nat):Option (Code×Code):=aFV prog f k
def gW (w:World) (b o:Nat) (d:List Value):Prop:= ∀j (h:j<d.length),w.cell? ⟨b,o+j,a7⟩=a6 d[j]
theorem gW.of_block {w w':World} {b o:Nat} {d:List Value} (h:gW w b o d) (hb:w'.heap[b]? =w.heap[b]?):gW w' b o d:=
 fun j e=>(World.cell?_of_block (w:=w) (a:=⟨b,o+j,a7⟩) hb).trans (h j e)
theorem gW.append {w:World} {b o:Nat} {xs e:List Value}:gW w b o (xs++e)↔gW w b o xs/\gW w b (o+xs.length) e:=by
 constructor
 .intro h;refine⟨fun j d=> ?_,fun j d=> ?_⟩
  .have:=h j (by simp;omega);simp_all
  .have:=h (xs.length+j) (by simp;omega)
   grind
 .rintro ⟨f,g⟩ j d;rcases aI j xs.length with h|h
  .rw[List.getElem_append_left h];exact f j h
  .rw[List.getElem_append_right h];have:=g (j-xs.length) (by simp at d;omega)
   grind
def fP {e:Type} (R:e->List Value->Prop) (size:Nat):List e->List Value->Prop
 |[],d=>d=[]
 |x::xs,d=> ∃c f,d=c++f/\c.length=size/\R x c/\fP R size xs f
theorem fP.mono {d:Type} {R e:d->List Value->Prop} {size:Nat} (h: ∀x c,R x c->e x c): ∀(xs:List d) (f:List Value),fP R size xs f->fP e size xs f
 |[],_,i=>i
 |_::xs,_,⟨c,g,j,l,o,p⟩=>⟨c,g,j,l,h _ _ o,fP.mono h xs g p⟩
theorem fP.length {d:Type} {R:d->List Value->Prop} {size:Nat}: ∀(xs:List d) (e:List Value),fP R size xs e->e.length=xs.length*size
 |[],_,f=>by cases f;simp
 |_::xs,_,⟨c,g,h,i,l,j⟩=>by
  subst h;simp only[ai,aH,i,fP.length xs g j,Nat.add_mul,Nat.one_mul];omega
theorem fP.append {e:Type} {R:e->List Value->Prop} {size:Nat}: ∀(xs:List e) (f:List Value) (d:List e) (us:List Value),fP R size xs f->fP R size d us->fP R size (xs++d) (f++us)
 |[],_,d,us,i,h=>by cases i;exact h
 |x::xs,_,d,us,⟨c,g,j,l,o,p⟩,h=>by
  subst j;exact⟨c,g++us,by simp,l,o,fP.append xs g d us p h⟩
theorem fP.take {d:Type} {R:d->List Value->Prop} {size:Nat}: ∀(k:Nat) (xs:List d) (e:List Value),fP R size xs e->fP R size (xs.take k) (e.take (k*size))
 |0,_,_,_=>by simp[fP]
 |k+1,[],_,g=>by cases g;simp[fP]
 |k+1,x::xs,_,⟨c,f,h,i,j,l⟩=>by
  subst h;refine⟨c,f.take (k*size), ?_,i,j,fP.take k xs f l⟩;simp_all [List.take_append,bn,Nat.add_mul]
theorem fP.drop {e:Type} {R:e->List Value->Prop} {size:Nat}: ∀(k:Nat) (xs:List e) (f:List Value),fP R size xs f->fP R size (xs.drop k) (f.drop (k*size))
 |0,_,_,h=>by simpa using h
 |k+1,[],_,i=>by cases i;simp[fP]
 |k+1,x::xs,_,⟨c,d,j,g,o,l⟩=>by
  subst j;have:(c++d).drop ((k+1)*size)=d.drop (k*size):=by
   rw[List.drop_append,aQ (by rw[g,Nat.add_mul];omega),aO,g,Nat.add_mul];congr 1;omega
  rw[this,List.drop_succ_cons];exact fP.drop k xs d l
theorem fP.at_ {f:Type} {R:f->List Value->Prop} {size:Nat}: ∀(i:Nat) (xs:List f) (g:List Value) (hi:i<xs.length),fP R size xs g->
  ∃c,c.length=size/\R xs[i] c/\ ∃d h,g=d++c++h/\d.length=i*size
 |i,[],_,hi,_=>by simp at hi
 |0,x::xs,_,_,⟨c,e,j,l,o,p⟩=>⟨c,l,o,[],e,by simp[j],by simp⟩
 |i+1,x::xs,_,hi,⟨c,e,j,l,o,p⟩=>by
  obtain⟨q,s,u,d,h,v,y⟩:=fP.at_ i xs e (by simpa using hi) p
  grind
theorem fP.set {h:Type} {R:h->List Value->Prop} {size:Nat} (y:h) (d:List Value) (hd:d.length=size) (p:R y d): ∀(i:Nat) (xs:List h) (e c f:List Value),
  i<xs.length->fP R size xs (e++c++f)->e.length=i*size->c.length=size->fP R size (xs.set i y) (e++d++f)
 |i,[],_,_,_,j,_,_,_=>by simp at j
 |0,x::xs,e,c,f,_,⟨q,z,g,l,s,u⟩,hl,o=>by
  have:e=[]:=bD (by simpa using hl);subst this;simp only[aO]at g ⊢;obtain⟨A,v⟩:=List.append_inj g (by rw[o,l]);subst v;exact⟨d,f,rfl,hd,p,u⟩
 |i+1,x::xs,e,c,f,j,⟨q,z,g,l,s,u⟩,hl,o=>by
  have D:size<=e.length:=by grind
  have B:e=e.take size++e.drop size:=(List.take_append_drop size e).symm;rw[B,ag,ag]at g;obtain⟨A,v⟩:=List.append_inj g (by grind);have:=fP.set y d hd p i xs (e.drop size) c f (by simpa using j) (by grind) (by grind) o;refine⟨q,e.drop size++d++f, ?_,l,s,this⟩
  grind
def eY (w:World) (fr:Nat->Prop):(t:Ty)->t.den->List Value->Prop
 |.unit,_,cs=>cs=[]
 |.bool,x,cs=>cs=[.bool x]
 |.int k,x,cs=>cs=[.int k x]
 |.str,x,cs=>cs=[.string ⟨x.toArray⟩]
 |.list t,xs,cs=> ∃a c d,cs=[.slice a xs.length c]/\xs.length<=c/\fP (eY w fr t) t.size xs d/\(d=[]\/ ∃b e,a=a6 ⟨b,e,a7⟩/\fr b/\gW w b e d)
 |.pair a b,x,cs=> ∃f g,cs=f++g/\eY w fr a x.1 f/\eY w fr b x.2 g
theorem eY.mono {w w':World} {fr i:Nat->Prop} (h: ∀b,fr b->i b/\w'.heap[b]? =w.heap[b]?): ∀(t:Ty) (x:t.den) (cs:List Value),eY w fr t x cs->eY w' i t x cs
 |.unit,_,_,d=>d
 |.bool,_,_,d=>d
 |.int _,_,_,d=>d
 |.str,_,_,d=>d
 |.list t,xs,_,⟨a,c,j,e,f,g,q⟩=>⟨a,c,j,e,f,fP.mono (eY.mono h t) xs j g,q.imp id fun⟨b,s,u,l,v⟩=>⟨b,s,u,(h b l).1,v.of_block (h b l).2⟩⟩
 |.pair a b,x,_,⟨o,p,e,f,g⟩=>⟨o,p,e,eY.mono h a x.1 o f,eY.mono h b x.2 p g⟩
theorem eY.length {w:World} {fr:Nat->Prop}: ∀(t:Ty) (x:t.den) (cs:List Value),eY w fr t x cs->cs.length=t.size
 |.unit,_,_,d=>by cases d;rfl
 |.bool,_,_,d=>by cases d;rfl
 |.int _,_,_,d=>by cases d;rfl
 |.str,_,_,d=>by cases d;rfl
 |.list t,xs,_,⟨a,c,j,e,_⟩=>by subst e;rfl
 |.pair a b,x,_,⟨f,g,e,h,i⟩=>by subst e;simp[Ty.size,eY.length a x.1 f h,eY.length b x.2 g i]
theorem eY.one {w:World} {fr:Nat->Prop}: ∀(t:Ty) (x:t.den) (cs:List Value),eY w fr t x cs-> ∀v∈cs,v.oneCell'=true
 |.unit,_,_,d=>by cases d;simp
 |.bool,_,_,d=>by cases d;simp[Value.oneCell']
 |.int _,_,_,d=>by cases d;simp[Value.oneCell']
 |.str,_,_,d=>by cases d;simp[Value.oneCell']
 |.list t,xs,_,⟨a,c,l,f,_⟩=>by subst f;simp[Value.oneCell']
 |.pair a b,x,_,⟨g,h,f,i,j⟩=>by
  subst f;intro v e;rcases List.mem_append.1 e with e|e
  .exact eY.one a x.1 g i v e
  .exact eY.one b x.2 h j v e
structure Loc where
 blk:Nat
 v:Value
structure Cx where
 mu:Nat->Loc
 hp:gK
 nxt:Nat
 w:World
 mks:List Nat
 bar:Nat->Prop
def dL.blk:dL->Loc->Option Nat
 |.box _ _,l=>a6 l.blk
 |.arr _ _ _,l=>l.v.ownBlock
 |.lp _ _ _ _ _ _ _ _,l=>a6 l.blk
 |.dead,_=>a7
 |.mp _ _ _,l=>a6 l.blk
def Cx.own (c:Cx) (b:Nat):Prop:= ∃id o,dO c.hp id=a6 o/\o.blk (c.mu id)=a6 b
def Cx.free (c:Cx) (b:Nat):Prop:=b<c.w.heap.size/\ ¬c.own b/\b∉c.mks/\ ¬c.bar b
def Cx.out (c:Cx) (b:Nat):Prop:=b<c.w.heap.size/\ ¬c.own b/\b∉c.mks
def Cx.known (c:Cx) (id:Nat):Prop:=(∃o,dO c.hp id=a6 o)\/id<c.nxt
def VD (c:Cx) (t:Ty) (x:t.den) (v:Value):Prop:=
 (t.isAgg=true-> ∃cs,v=.agg cs/\eY c.w c.free t x cs.toList)/\(t.isAgg=false->eY c.w c.free t x [v])
def ja (size:Nat) (s:Value):Option (Int×Int)->Value->Prop
 |none,v=>v=s
 |some (lo,d),v=> ∃a n c,s=.slice a n c/\0<=lo/\lo<=d/\d<=n/\v=.slice (if c=lo.toNat then a else a.map (·.add (lo.toNat*size))) (d.toNat-lo.toNat) (c-lo.toNat)
mutual
def bU (c:Cx):bQ->Value->Prop
 |.undef,_=>True
 |.val t x,v=>VD c t x v
 |.nils,v=>v=.slice a7 0 0
 |.emp,v=> ∃a,v=.slice a 0 0
 |.lst e xs b,v=>VD c (.list e) xs v/\ ∃a n m,v=.slice a n m/\b=a.isNone
 |.nilp,v=>v=.pointer a7
 |.nilfn,v=>v=.nilFunc
 |.tup l,v=> ∃d,v=.tuple d/\bJ c l d.toList
 |.agg l,v=> ∃d,v=.agg d/\bJ c l d.toList/\ ∀u∈d.toList,u.oneCell'=true
 |.cellp t x,v=> ∃b o q,v=.pointer (a6 ⟨b,o,a7⟩)/\c.free b/\gW c.w b o q/\eY c.w c.free t x q
 |.ptr id j,v=>v.oneCell'=true/\c.known id/\ ∀t cs,dO c.hp id=a6 (.box t cs)->v=.pointer (a6 ⟨(c.mu id).blk,j,a7⟩)
 |.slf id,v=>v.oneCell'=true/\c.known id/\ ∀t cs,dO c.hp id=a6 (.box t cs)->v=.pointer a7\/v=.pointer (a6 ⟨(c.mu id).blk,0,a7⟩)
 |.sd id h,v=>v.oneCell'=true/\c.known id/\ ∀t u xs,dO c.hp id=a6 (.arr t u xs)->h<=u/\(u=h->(∃p,v=.pointer p)/\ ∀a n cp,(c.mu id).v=.slice a n cp->n≠0->v=.pointer a)
 |.slc id h s,v=>v.oneCell'=true/\c.known id/\ ∀t u xs,dO c.hp id=a6 (.arr t u xs)->h<=u/\(u=h->ja t.size (c.mu id).v s v)
 |.ep id h i j,v=>v.oneCell'=true/\c.known id/\ ∀t u xs,dO c.hp id=a6 (.arr t u xs)->h<=u/\(u=h-> ∃g n cp,(c.mu id).v=.slice (a6 ⟨g,0,a7⟩) n cp/\v=.pointer (a6 ⟨g,i*t.size+j,a7⟩))
 |.fn f l,v=> ∃d,v=.func (.func f) #[] d/\bJ c l d.toList
 |.mfn f l,v=> ∃d,v=.func (.func f) d #[]/\bJ c l d.toList
 |.mpv id,v=>v.oneCell'=true/\c.known id/\ ∀y z A,dO c.hp id=a6 (.mp y z A)->v=.map (a6 (c.mu id).blk)
 |.yld id,v=>v.oneCell'=true/\c.known id/\ ∀f B D jo E G n p,dO c.hp id=a6 (.lp f B D jo E G n p)->v=.func (.yield (c.mu id).blk) #[] #[]
def bJ (c:Cx):List bQ->List Value->Prop
 |[],[]=>True
 |v::l,x::xs=>bU c v x/\bJ c l xs
 |_,_=>False
end
def dL.like:dL->Loc->dL->Loc->Prop
 |.box _ _,l,.box _ _,d=>d.blk=l.blk
 |.lp _ _ _ _ _ _ _ _,l,.lp _ _ _ _ _ _ _ _,d=>d.blk=l.blk
 |.mp _ _ _,l,.mp _ _ _,d=>d.blk=l.blk
 |_,_,.dead,_=>True
 |.arr t v _,l,.arr t' v' _,d=>v<=v'/\(v=v'->t=t'/\d.v=l.v)
 |_,_,_,_=>False
structure Cx.Le0 (c c':Cx):Prop where
 out: ∀b,c.out b->c'.out b/\c'.w.heap[b]? =c.w.heap[b]?
 ref: ∀id,c.known id->c'.known id
 obj: ∀id o',c.known id->dO c'.hp id=a6 o'-> ∃o,dO c.hp id=a6 o/\o.like (c.mu id) o' (c'.mu id)
 bar:c'.bar=c.bar
structure Cx.Le (c c':Cx):Prop where
 out: ∀b,c.out b->c'.out b/\c'.w.heap[b]? =c.w.heap[b]?
 ref: ∀id,c.known id->c'.known id
 obj: ∀id o',c.known id->dO c'.hp id=a6 o'-> ∃o,dO c.hp id=a6 o/\o.like (c.mu id) o' (c'.mu id)
 mks: ∀r,r∈c.mks->r∈c'.mks
 lp: ∀(b:Nat) (L:Loop),c.w.heap[b]? =a6 (Obj.loop L)-> ∃L':Loop,c'.w.heap[b]? =a6 (Obj.loop L')
 size:c.w.heap.size<=c'.w.heap.size
 bar:c'.bar=c.bar
theorem Cx.Le0.free {c c':Cx} (h:c.Le0 c') (b:Nat) (hb:c.free b):c'.free b/\c'.w.heap[b]? =c.w.heap[b]? :=
 let⟨⟨d,e,f⟩,g⟩:=h.out b ⟨hb.1,hb.2.1,hb.2.2.1⟩
 ⟨⟨d,e,f,by rw[h.bar];exact hb.2.2.2⟩,g⟩
theorem Cx.Le.free {c c':Cx} (h:c.Le c') (b:Nat) (hb:c.free b):c'.free b/\c'.w.heap[b]? =c.w.heap[b]? :=
 let⟨⟨d,e,f⟩,g⟩:=h.out b ⟨hb.1,hb.2.1,hb.2.2.1⟩
 ⟨⟨d,e,f,by rw[h.bar];exact hb.2.2.2⟩,g⟩
theorem dL.like_refl (o:dL) (l:Loc):o.like l o l:=by cases o<;>simp[dL.like]
theorem dL.like_trans {a b d:dL} {l m n:Loc} (h:a.like l b m) (k:b.like m d n):a.like l d n:=by
 cases d with
 |dead=>cases a<;>simp[dL.like]
 |arr t'' v'' e=>
  cases b with
  |arr t' v' f=>
   cases a with
   |arr t v xs=>
    grind [dL.like]
   |_=>simp[dL.like]at h
  |_=>simp[dL.like]at k
 |box _ _=>cases b<;>cases a<;>simp_all [dL.like]
 |lp _ _ _ _ _ _ _ _=>cases b<;>cases a<;>simp_all [dL.like]
 |mp _ _ _=>cases b<;>cases a<;>simp_all [dL.like]
theorem Cx.Le.refl (c:Cx):c.Le c:=⟨fun _ h=>⟨h,rfl⟩,fun _ h=>h,fun id o h d=>⟨o,d,o.like_refl _⟩,fun _ h=>h,fun b L h=>⟨L,h⟩,ae _,rfl⟩
theorem VD.le0 {c c':Cx} (h:c.Le0 c') {t:Ty} {x:t.den} {v:Value} (d:VD c t x v):VD c' t x v:=
 ⟨fun e=>let⟨cs,f,g⟩:=d.1 e;⟨cs,f,eY.mono h.free t x _ g⟩,fun e=>eY.mono h.free t x _ (d.2 e)⟩
mutual
theorem bU.le0 {c c':Cx} (h:c.Le0 c'): ∀(v:bQ) (x:Value),bU c v x->bU c' v x
 |.undef,_,_=>by simp[bU]
 |.val t x,v,d=>by simp only[bU]at d ⊢;exact d.le0 h
 |.nils,_,d=>by assumption
 |.emp,_,d=>by assumption
 |.lst e xs b,v,d=>by simp only[bU]at d ⊢;exact⟨d.1.le0 h,d.2⟩
 |.nilp,_,d=>by assumption
 |.nilfn,_,d=>by assumption
 |.tup l,v,d=>by simp only[bU]at d ⊢;obtain⟨y,j,g⟩:=d;exact⟨y,j,bJ.le0 h l _ g⟩
 |.agg l,v,d=>by simp only[bU]at d ⊢;obtain⟨y,j,g,z⟩:=d;exact⟨y,j,bJ.le0 h l _ g,z⟩
 |.cellp t x,v,d=>by
  simp only[bU]at d ⊢;obtain⟨b,o,D,j,g,z,E⟩:=d;exact⟨b,o,D,j,(h.free b g).1,z.of_block (h.free b g).2,eY.mono h.free t x _ E⟩
 |.ptr id G,v,d=>by
  simp only[bU]at d ⊢;obtain⟨q,d⟩:=d;refine⟨q,h.ref id d.1,fun t cs s=> ?_⟩;obtain⟨o,j,g⟩:=h.obj id _ d.1 s;cases o<;>simp only[dL.like]at g;simp_all
 |.slf id,v,d=>by
  simp only[bU]at d ⊢;obtain⟨q,d⟩:=d;refine⟨q,h.ref id d.1,fun t cs s=> ?_⟩;obtain⟨o,j,g⟩:=h.obj id _ d.1 s;cases o<;>simp only[dL.like]at g;simp_all
 |.sd id A,v,d=>by
  simp only[bU]at d ⊢;obtain⟨q,d⟩:=d;refine⟨q,h.ref id d.1,fun t u xs s=> ?_⟩;obtain⟨o,j,g⟩:=h.obj id _ d.1 s;cases o with
  |arr t' v' B=>
   grind [dL.like]
  |box _ _=>simp[dL.like]at g
  |lp _ _ _ _ _ _ _ _=>simp[dL.like]at g
  |dead=>simp[dL.like]at g
  |mp _ _ _=>simp[dL.like]at g
 |.slc id A I,v,d=>by
  simp only[bU]at d ⊢;obtain⟨q,d⟩:=d;refine⟨q,h.ref id d.1,fun t u xs s=> ?_⟩;obtain⟨o,j,g⟩:=h.obj id _ d.1 s;cases o with
  |arr t' v' B=>
   grind [dL.like]
  |box _ _=>simp[dL.like]at g
  |lp _ _ _ _ _ _ _ _=>simp[dL.like]at g
  |dead=>simp[dL.like]at g
  |mp _ _ _=>simp[dL.like]at g
 |.ep id A i G,v,d=>by
  simp only[bU]at d ⊢;obtain⟨q,d⟩:=d;refine⟨q,h.ref id d.1,fun t u xs s=> ?_⟩;obtain⟨o,j,g⟩:=h.obj id _ d.1 s;cases o with
  |arr t' v' B=>
   grind [dL.like]
  |box _ _=>simp[dL.like]at g
  |lp _ _ _ _ _ _ _ _=>simp[dL.like]at g
  |dead=>simp[dL.like]at g
  |mp _ _ _=>simp[dL.like]at g
 |.fn f l,v,d=>by simp only[bU]at d ⊢;obtain⟨y,j,g⟩:=d;exact⟨y,j,bJ.le0 h l _ g⟩
 |.mfn f l,v,d=>by simp only[bU]at d ⊢;obtain⟨y,j,g⟩:=d;exact⟨y,j,bJ.le0 h l _ g⟩
 |.mpv id,v,d=>by
  simp only[bU]at d ⊢;obtain⟨q,d⟩:=d;refine⟨q,h.ref id d.1,fun J K M s=> ?_⟩;obtain⟨o,j,g⟩:=h.obj id _ d.1 s;cases o<;>simp only[dL.like]at g;simp_all
 |.yld id,v,d=>by
  simp only[bU]at d ⊢;obtain⟨q,d⟩:=d;refine⟨q,h.ref id d.1,fun f N O jo S U n p s=> ?_⟩;obtain⟨o,j,g⟩:=h.obj id _ d.1 s;cases o<;>simp only[dL.like]at g;simp_all
theorem bJ.le0 {c c':Cx} (h:c.Le0 c'): ∀(l:List bQ) (xs:List Value),bJ c l xs->bJ c' l xs
 |[],[],_=>by simp[bJ]
 |v::l,x::xs,d=>by simp only[bJ]at d ⊢;exact⟨bU.le0 h v x d.1,bJ.le0 h l xs d.2⟩
 |[],_::_,d=>by simp[bJ]at d
 |_::_,[],d=>by simp[bJ]at d
end
theorem Cx.Le.le0 {c c':Cx} (h:c.Le c'):c.Le0 c':=⟨h.out,h.ref,h.obj,h.bar⟩
theorem VD.le {c c':Cx} (h:c.Le c') {t:Ty} {x:t.den} {v:Value} (d:VD c t x v):VD c' t x v:=d.le0 h.le0
theorem bU.le {c c':Cx} (h:c.Le c') (v:bQ) (x:Value) (d:bU c v x):bU c' v x:=bU.le0 h.le0 v x d
theorem bJ.le {c c':Cx} (h:c.Le c') (l:List bQ) (xs:List Value) (d:bJ c l xs):bJ c' l xs:=bJ.le0 h.le0 l xs d
end
section
open Go.RowKit
def ap0 (w:World):Prop:=True
theorem ap0.below {w w':World} (hb:Below w.heap.size w w') (h:ap0 w):ap0 w':=trivial
def apZ (w:World):Prop:= ∃m,w.cell? ⟨0,0,none⟩=some (.int .i64 m)
theorem apZ.below {w w':World} (hb:Below w.heap.size w w') (h:apZ w):apZ w':=by
 obtain⟨m,d⟩:=h;exact⟨m,(hb.cell (World.block_lt_of_cell? w _ d)).trans d⟩
def XZ (w:World):Prop:=ap0 w/\apZ w
theorem XZ.below {w w':World} (hb:Below w.heap.size w w') (h:XZ w):XZ w':=⟨h.1.below hb,h.2.below hb⟩
end
section
open Option renaming some → a6, none → a7
open Nat renaming le_trans → aB, lt_of_lt_of_le → bi
open Go.RowKit
theorem Cx.Le.trans {a b c:Cx} (h:a.Le b) (k:b.Le c):a.Le c:=
 ⟨fun x e=>⟨(k.out x (h.out x e).1).1,(k.out x (h.out x e).1).2.trans (h.out x e).2⟩,fun i d=>k.ref i (h.ref i d),fun i o d g=>by
  obtain⟨p,f,l⟩:=k.obj i o (h.ref i d) g;obtain⟨q,s,u⟩:=h.obj i p d f
  grind [dL.like_trans],fun r hr=>k.mks r (h.mks r hr),fun b L hL=>let⟨j,f⟩:=h.lp b L hL;k.lp b j f,aB h.size k.size,k.bar.trans h.bar⟩
theorem ed (k:Nat) (o:dL) (h:gK) (i:Nat):dO ((k,o)::h) i=if k=i then a6 o else dO h i:=by
 simp_all [dO]
theorem jy: ∀(h:gK) (i:Nat) (o:dL) (j:Nat),dO (iV h i o) j=if i=j then(dO h i).map fun _=>o else dO h j
 |[],i,o,j=>by simp[iV,dO]
 |(k,p)::h,i,o,j=>by
  simp only[iV];by_cases e:k=i
  .simp_all [ed]
  .have d:(k==i)=false:=by simpa using e
   simp only[d,ac,ed,jy h i o j]
   grind
theorem Tc {h:gK} {i:Nat} {o p:dL} (hi:dO h i=a6 p):dO (iV h i o) i=a6 o:=by rw[jy];simp[hi]
def upd (mu:Nat->Loc) (id:Nat) (l:Loc):Nat->Loc:=fun j=>if j=id then l else mu j
theorem upd_same (mu:Nat->Loc) (id:Nat) (l:Loc):upd mu id l id=l:=by simp[upd]
theorem upd_ne (mu:Nat->Loc) {id j:Nat} (l:Loc) (h:j≠id):upd mu id l j=mu j:=by simp[upd,h]
def Ex.code:Ex->Option Code
 |.normal=>a7
 |.exit id=>a6 (.exit id)
 |.goto l=>a6 (.goto l)
 |.ret=>a6 .ret
def apW:Nat->Option Ex->Loop->Prop
 |0,a7,L=>L.state=.ready/\L.pending=a7
 |1,a6 e,L=>L.state=.done/\L.pending=e.code/\e.code≠a7
 |2,a7,L=>L.state=.busy
 |_,_,_=>False
def Cx.ORel (B:Nat) (c:Cx) (id:Nat):dL->Prop
 |.box e cs=>B<=(c.mu id).blk/\ ∃d,c.w.heap[(c.mu id).blk]? =a6 (.cells d e (0,0))/\bJ c cs d.toList/\ ∀u∈d.toList,u.oneCell'=true
 |.arr t ver xs=>0<t.size/\ ∃e g,c.w.ownsRow B e t.size (c.mu id).v xs.length g/\fP (eY c.w c.free t) t.size xs g/\(t=.int .u8->e=nH)
 |.lp f fr ps jo bd ky n p=>(∀k,ky=a6 k->rH f k=a6 (jo,bd))/\B<=(c.mu id).blk/\ ∃L:Loop,c.w.heap[(c.mu id).blk]? =a6 (Obj.loop L)/\bJ c fr L.tmps.toList/\L.params.toList=ps/\L.assign=jo/\L.body=bd/\apW n p L
 |.dead=>True
 |.mp kk vk i=>B<=(c.mu id).blk/\ ∃h j,c.w.heap[(c.mu id).blk]? =a6 (.map h j)/\h.toList.map (fun e=>(e.key,e.val))=i.map fun p=>(Value.int kk p.1,Value.int vk p.2)
structure Cx.Ok (W0:World) (c:Cx):Prop where
 bel:Below W0.heap.size W0 c.w
 obj: ∀id o,dO c.hp id=a6 o->c.ORel W0.heap.size id o
 inj: ∀i j o p b,dO c.hp i=a6 o->dO c.hp j=a6 p->o.blk (c.mu i)=a6 b->p.blk (c.mu j)=a6 b->i=j
 mks: ∀r,r∈c.mks->W0.heap.size<=r/\c.w.heap[r]? =a6 (.deferred (a6 []))
 bar: ∀b,c.bar b->c.out b
 phi:XZ W0
theorem Cx.Ok.phiw {W0:World} {c:Cx} (h:c.Ok W0):XZ c.w:=XZ.below h.bel h.phi
theorem Cx.ORel.lt {B:Nat} {c:Cx} {id:Nat} {o:dL} (h:c.ORel B id o) {b:Nat} (hb:o.blk (c.mu id)=a6 b):B<=b/\b<c.w.heap.size:=by
 cases o with
 |box e cs=>
  simp only[dL.blk,Option.some.injEq]at hb;subst hb;obtain⟨d,g,f,_⟩:=h
  grind
 |arr t ver xs=>
  simp only[dL.blk]at hb;obtain⟨_,e,i,d,_⟩:=h;exact World.ownsRow.lt d b hb
 |lp _ _ _ _ _ _ _ _=>
  simp only[dL.blk,Option.some.injEq]at hb;subst hb;obtain⟨_,d,L,f,_⟩:=h
  grind
 |dead=>cases hb
 |mp _ _ _=>
  simp only[dL.blk,Option.some.injEq]at hb;subst hb;obtain⟨d,j,cl,f,_⟩:=h
  grind
theorem Cx.ORel.no_mark {B:Nat} {c:Cx} {id:Nat} {o:dL} (h:c.ORel B id o) {b:Nat} (hb:o.blk (c.mu id)=a6 b) {d:Option (List Deferred)}:c.w.heap[b]? ≠a6 (.deferred d):=by
 intro hd;cases o with
 |box e cs=>
  simp only[dL.blk,Option.some.injEq]at hb;subst hb;obtain⟨f,l,j,_⟩:=h;simp_all
 |arr t ver xs=>
  simp only[dL.blk]at hb;obtain⟨_,e,p,f,_⟩:=h;rcases f.2 with ⟨i,_⟩|⟨g,q,s,i,_,u,_⟩
  .rw[i]at hb;cases hb
  .rw[i]at hb;cases hb;simp_all
 |lp _ _ _ _ _ _ _ _=>
  simp only[dL.blk,Option.some.injEq]at hb;subst hb;obtain⟨_,f,L,j,_⟩:=h;simp_all
 |dead=>cases hb
 |mp _ _ _=>
  simp only[dL.blk,Option.some.injEq]at hb;subst hb;obtain⟨f,v,cl,j,_⟩:=h;simp_all
theorem Cx.ORel.no_loop {B:Nat} {c:Cx} {id:Nat} {o:dL} (h:c.ORel B id o) (u: ∀f fr j jo l q n p,o≠ .lp f fr j jo l q n p) {b:Nat} (hb:o.blk (c.mu id)=a6 b) {L:Loop}:c.w.heap[b]? ≠a6 (Obj.loop L):=by
 intro hd;cases o with
 |box e cs=>
  simp only[dL.blk,Option.some.injEq]at hb;subst hb;obtain⟨d,v,s,_⟩:=h;simp_all
 |arr t ver xs=>
  simp only[dL.blk]at hb;obtain⟨_,e,x,d,_⟩:=h;rcases d.2 with ⟨i,_⟩|⟨g,y,z,i,_,A,_⟩
  .rw[i]at hb;cases hb
  .rw[i]at hb;cases hb;simp_all
 |lp _ _ _ _ _ _ _ _=>grind
 |dead=>cases hb
 |mp _ _ _=>
  simp only[dL.blk,Option.some.injEq]at hb;subst hb;obtain⟨d,D,cl,s,_⟩:=h;simp_all
theorem Cx.Ok.mark_lt {W0:World} {c:Cx} (h:c.Ok W0) {r:Nat} (hr:r∈c.mks):r<c.w.heap.size:=(Array.getElem?_eq_some_iff.1 (h.mks r hr).2).1
theorem Cx.Ok.mark_own {W0:World} {c:Cx} (h:c.Ok W0) {r:Nat} (hr:r∈c.mks): ¬c.own r:=by
 rintro ⟨id,o,d,e⟩;exact(h.obj id o d).no_mark e (h.mks r hr).2
theorem Cx.Ok.own_lt {W0:World} {c:Cx} (h:c.Ok W0) {b:Nat} (hb:c.own b):W0.heap.size<=b/\b<c.w.heap.size:=by
 obtain⟨id,o,d,e⟩:=hb;exact(h.obj id o d).lt e
theorem Cx.Ok.size {W0:World} {c:Cx} (h:c.Ok W0):W0.heap.size<=c.w.heap.size:=h.bel.size
theorem Ah {w w':World} {B:Nat} {e:TypeId} {size n:Nat} {v:Value} {xs:List Value} (h:w.ownsRow B e size v n xs) (hb: ∀b,v.ownBlock=a6 b->w'.heap[b]? =w.heap[b]?):w'.ownsRow B e size v n xs:=by
 refine⟨h.1, ?_⟩;rcases h.2 with d|⟨g,i,j,f,d,l,o⟩
 .exact .inl d
 .refine .inr ⟨g,i,j,f,d, ?_,o⟩;rw[hb g (by rw[f];rfl)];exact l
theorem Cx.ORel.le {B:Nat} {c c':Cx} {id:Nat} {o:dL} (h:c.ORel B id o) (hl:c.Le c') (d:c'.mu id=c.mu id) (hb: ∀b,o.blk (c.mu id)=a6 b->c'.w.heap[b]? =c.w.heap[b]?):c'.ORel B id o:=by
 cases o with
 |box e cs=>
  obtain⟨g,q,i,j,l⟩:=h;refine⟨by rw[d];exact g,q,by rw[d,hb _ rfl];exact i,bJ.le hl _ _ j,l⟩
 |arr t ver xs=>
  obtain⟨h0,e,s,g,i,j⟩:=h;refine⟨h0,e,s, ?_,fP.mono (eY.mono hl.free t) _ _ i,j⟩;rw[d];exact Ah g fun b u=>hb b u
 |lp f fr ps jo bd ky n p=>
  obtain⟨h0,g,L,i,j,l⟩:=h;exact⟨h0,by rw[d];exact g,L,by rw[d,hb _ rfl];exact i,bJ.le hl _ _ j,l⟩
 |dead=>trivial
 |mp kk vk x=>
  obtain⟨g,v,cl,i,j⟩:=h;exact⟨by rw[d];exact g,v,cl,by rw[d,hb _ rfl];exact i,j⟩
def Cx.at_ (c:Cx) (w:World):Cx:={c with w:=w}
theorem Cx.Le.ext {c:Cx} {w:World} (h:Below c.w.heap.size c.w w):c.Le (c.at_ w):=
 ⟨fun b d=>⟨⟨bi d.1 h.size,d.2⟩,h.block b d.1⟩,fun _ h=>h,fun id o _ e=>⟨o,e,o.like_refl _⟩,fun _ h=>h,
  fun b L hL=>⟨L,(h.block b (Array.getElem?_eq_some_iff.1 hL).1).trans hL⟩,h.size,rfl⟩
theorem Cx.Ok.ext {W0:World} {c:Cx} {w:World} (d:c.Ok W0) (h:Below c.w.heap.size c.w w):(c.at_ w).Ok W0:=
 ⟨d.bel.trans (h.mono d.size),fun id o f=>(d.obj id o f).le (Cx.Le.ext h) rfl fun b e=>h.block b ((d.obj id o f).lt e).2,d.inj,
  fun r hr=>⟨(d.mks r hr).1,(h.block r (d.mark_lt hr)).trans (d.mks r hr).2⟩,fun b e=>((Cx.Le.ext h).out b (d.bar b e)).1,d.phi⟩
def Cx.push (c:Cx) (id:Nat) (o:dL) (l:Loc) (nxt:Nat) (w:World):Cx:=⟨upd c.mu id l,(id,o)::c.hp,nxt,w,c.mks,c.bar⟩
theorem Cx.Le.push {c:Cx} {id:Nat} {o:dL} {l:Loc} {nxt:Nat} {w:World} (h0: ¬c.known id) (v:c.nxt<=nxt) (s:c.w.heap.size<=w.heap.size)
  (hb: ∀b,b<c.w.heap.size->w.heap[b]? =c.w.heap[b]?) (hl: ∀b,o.blk l=a6 b->c.w.heap.size<=b):c.Le (c.push id o l nxt w):=by
 have hk: ∀j,c.known j->j≠id:=fun j d e=>h0 (e▸d);refine⟨fun b f=>⟨⟨bi f.1 s, ?_,f.2.2⟩,hb b f.1⟩,fun j d=> ?_,fun j p d q=> ?_,fun _ h=>h,fun b L hL=>⟨L,(hb b (Array.getElem?_eq_some_iff.1 hL).1).trans hL⟩,s,rfl⟩
 .rintro ⟨j,p,i,g⟩;simp only[Cx.push,ed]at i g;split at i
  .rename_i e
   subst e;cases i;rw[upd_same]at g;have:=hl b g;have:=f.1;omega
  .rename_i e
   rw[upd_ne _ _ (Ne.symm e)]at g;exact f.2.1 ⟨j,p,i,g⟩
 .rcases d with ⟨p,q⟩|d
  .left;simp only[Cx.push,ed]
   grind
  .right;exact bi d v
 .have u:=hk j d;simp only[Cx.push,ed,aq (Ne.symm u)]at q ⊢;exact⟨p,q,by rw[upd_ne _ _ u];exact p.like_refl _⟩
theorem Cx.Ok.push {W0:World} {c:Cx} {id:Nat} {o:dL} {l:Loc} {nxt:Nat} {w:World} (d:c.Ok W0) (h0: ¬c.known id) (D:c.nxt<=nxt) (h:Below c.w.heap.size c.w w)
  (hl: ∀b,o.blk l=a6 b->c.w.heap.size<=b) (I:(c.push id o l nxt w).ORel W0.heap.size id o):(c.push id o l nxt w).Ok W0:=by
 have y:=Cx.Le.push (o:=o) h0 D h.size h.block hl;have hk: ∀j p,dO c.hp j=a6 p->j≠id:=fun j p E e=>h0 (e▸ .inl ⟨p,E⟩);refine⟨d.bel.trans (h.mono d.size),fun j p G=> ?_,fun i j p q b z A f g=> ?_,fun r hr=>⟨(d.mks r hr).1,(h.block r (d.mark_lt hr)).trans (d.mks r hr).2⟩,fun b s=>(y.out b (d.bar b s)).1,d.phi⟩
 .by_cases e:j=id
  .simp_all [Cx.push,ed]
  .have B:dO c.hp j=a6 p:=by simpa [Cx.push,ed,Ne.symm e] using G
   exact(d.obj j p B).le y (upd_ne _ _ e) fun b s=>h.block b ((d.obj j p B).lt s).2
 .by_cases e1:i=id<;>by_cases e2:j=id
  .rw[e1,e2]
  .subst e1;have u:p=o:=by grind [Cx.push,ed]
   have v:dO c.hp j=a6 q:=by simpa [Cx.push,ed,Ne.symm e2] using A
   subst u;simp only[Cx.push,upd_same,upd_ne _ _ e2]at f g;have:=hl b f;have:=((d.obj j q v).lt g).2;omega
  .subst e2;have u:q=o:=by grind [Cx.push,ed]
   have x:dO c.hp i=a6 p:=by simpa [Cx.push,ed,Ne.symm e1] using z
   subst u;simp only[Cx.push,upd_same,upd_ne _ _ e1]at f g;have:=hl b g;have:=((d.obj i p x).lt f).2;omega
  .have x:dO c.hp i=a6 p:=by simpa [Cx.push,ed,Ne.symm e1] using z
   have v:dO c.hp j=a6 q:=by simpa [Cx.push,ed,Ne.symm e2] using A
   simp only[Cx.push,upd_ne _ _ e1,upd_ne _ _ e2]at f g;exact d.inj i j p q b x v f g
def Cx.put (c:Cx) (id:Nat) (o:dL) (l:Loc) (w:World):Cx:=⟨upd c.mu id l,iV c.hp id o,c.nxt,w,c.mks,c.bar⟩
theorem Cx.put_get {c:Cx} {id:Nat} {o p:dL} {l:Loc} {w:World} (hp:dO c.hp id=a6 p):dO (c.put id o l w).hp id=a6 o:=Tc hp
theorem Cx.Le.put {W0:World} {c:Cx} {id:Nat} {o o':dL} {l:Loc} {w:World} (x:c.Ok W0) (h0:dO c.hp id=a6 o) (hk:o.like (c.mu id) o' l) (q:c.w.heap.size<=w.heap.size)
  (hb: ∀b,b<c.w.heap.size->o.blk (c.mu id)≠a6 b->w.heap[b]? =c.w.heap[b]?) (hl: ∀b,o'.blk l=a6 b->o.blk (c.mu id)=a6 b\/c.w.heap.size<=b)
  (u: ∀(b:Nat) (L:Loop),o.blk (c.mu id)=a6 b->c.w.heap[b]? =a6 (Obj.loop L)-> ∃v:Loop,w.heap[b]? =a6 (Obj.loop v)):c.Le (c.put id o' l w):=by
 refine⟨fun b d=>⟨⟨bi d.1 q, ?_,d.2.2⟩,hb b d.1 fun e=>d.2.1 ⟨id,o,h0,e⟩⟩,fun j i=> ?_,fun j p i hp=> ?_,fun _ h=>h,fun b L hL=> ?_,q,rfl⟩
 rotate_left 3
 .by_cases e:o.blk (c.mu id)=a6 b
  .exact u b L e hL
  .exact⟨L,(hb b (Array.getElem?_eq_some_iff.1 hL).1 e).trans hL⟩
 .rintro ⟨j,p,f,g⟩;simp only[Cx.put,jy]at f g;split at f
  .rename_i e
   subst e;rw[h0]at f;cases f;rw[upd_same]at g;rcases hl b g with s|s
   .exact d.2.1 ⟨id,o,h0,s⟩
   .have:=d.1;omega
  .rename_i e
   rw[upd_ne _ _ (Ne.symm e)]at g;exact d.2.1 ⟨j,p,f,g⟩
 .rcases i with ⟨p,hp⟩|i
  .left
   grind [Cx.put,jy]
  .right;exact i
 .simp only[Cx.put,jy]at hp ⊢;split at hp
  .simp_all [upd_same]
  .rename_i e
   exact⟨p,hp,by rw[upd_ne _ _ (Ne.symm e)];exact p.like_refl _⟩
theorem Cx.Ok.put {W0:World} {c:Cx} {id:Nat} {o o':dL} {l:Loc} {w:World} (d:c.Ok W0) (h0:dO c.hp id=a6 o) (hk:o.like (c.mu id) o' l) (J:Below W0.heap.size W0 w)
  (K:c.w.heap.size<=w.heap.size) (hb: ∀b,b<c.w.heap.size->o.blk (c.mu id)≠a6 b->w.heap[b]? =c.w.heap[b]?) (hl: ∀b,o'.blk l=a6 b->o.blk (c.mu id)=a6 b\/c.w.heap.size<=b)
  (M: ∀(b:Nat) (L:Loop),o.blk (c.mu id)=a6 b->c.w.heap[b]? =a6 (Obj.loop L)-> ∃N:Loop,w.heap[b]? =a6 (Obj.loop N)) (O:(c.put id o' l w).ORel W0.heap.size id o'):(c.put id o' l w).Ok W0:=by
 have E:=Cx.Le.put (w:=w) d h0 hk K hb hl M;refine⟨J,fun j p hp=> ?_,fun i j p q b z A g s=> ?_,fun r hr=>⟨(d.mks r hr).1,(hb r (d.mark_lt hr) fun e=>(d.obj id o h0).no_mark e (d.mks r hr).2).trans (d.mks r hr).2⟩,fun b hb=>(E.out b (d.bar b hb)).1,d.phi⟩
 .by_cases e:id=j
  .grind [Cx.put_get]
  .have B:dO c.hp j=a6 p:=by grind [Cx.put,jy]
   refine(d.obj j p B).le E (upd_ne _ _ (Ne.symm e)) fun b G=>hb b ((d.obj j p B).lt G).2 fun f=>e (d.inj id j o p b h0 B f G)
 .have v: ∀i p,dO (c.put id o' l w).hp i=a6 p->id≠i->dO c.hp i=a6 p:=fun i p h e=>by simpa [Cx.put,jy,e] using h
  have I: ∀p,dO (c.put id o' l w).hp id=a6 p->p=o':=fun p h=>by grind [Cx.put_get]
  by_cases e1:id=i<;>by_cases f:id=j
  .rw[<-e1,<-f]
  .subst e1;have D:=I p z;have x:=v j q A f;subst D;simp only[Cx.put,upd_same,upd_ne _ _ (Ne.symm f)]at g s;rcases hl b g with u|u
   .exact d.inj id j o q b h0 x u s
   .have:=((d.obj j q x).lt s).2;omega
  .subst f;have D:=I q A;have y:=v i p z e1;subst D;simp only[Cx.put,upd_same,upd_ne _ _ (Ne.symm e1)]at g s;rcases hl b s with u|u
   .exact d.inj i id p o b y h0 g u
   .have:=((d.obj i p y).lt g).2;omega
  .have y:=v i p z e1;have x:=v j q A f;simp only[Cx.put,upd_ne _ _ (Ne.symm e1),upd_ne _ _ (Ne.symm f)]at g s;exact d.inj i j p q b y x g s
theorem bJ.length {c:Cx}: ∀(l:List bQ) (xs:List Value),bJ c l xs->l.length=xs.length
 |[],[],_=>rfl
 |v::l,x::xs,h=>by simp only[bJ]at h;simp[bJ.length l xs h.2]
 |[],_::_,h=>by simp[bJ]at h
 |_::_,[],h=>by simp[bJ]at h
theorem bJ.get {c:Cx}: ∀(l:List bQ) (xs:List Value),bJ c l xs-> ∀(i:Nat) (h:i<l.length) (f:i<xs.length),bU c l[i] xs[i]
 |v::l,x::xs,h,0,_,_=>by simp_all [bJ]
 |v::l,x::xs,h,i+1,d,e=>by simp only[bJ]at h;exact bJ.get l xs h.2 i (by simpa using d) (by simpa using e)
 |[],_,_,_,d,_=>by simp at d
 |_::_,[],h,_,_,_=>by simp[bJ]at h
theorem bJ.append {c:Cx}: ∀(l m:List bQ) (xs d:List Value),bJ c l xs->bJ c m d->bJ c (l++m) (xs++d)
 |[],m,[],d,_,h=>h
 |v::l,m,x::xs,d,h,k=>by simp only[bJ,List.cons_append]at h ⊢;exact⟨h.1,bJ.append l m xs d h.2 k⟩
 |[],_,_::_,_,h,_=>by simp[bJ]at h
 |_::_,_,[],_,h,_=>by simp[bJ]at h
theorem bJ.take {c:Cx}: ∀(k:Nat) (l:List bQ) (xs:List Value),bJ c l xs->bJ c (l.take k) (xs.take k)
 |0,_,_,_=>by simp[bJ]
 |k+1,[],[],_=>by simp[bJ]
 |k+1,v::l,x::xs,h=>by simp only[bJ,List.take_succ_cons]at h ⊢;exact⟨h.1,bJ.take k l xs h.2⟩
 |_+1,[],_::_,h=>by simp[bJ]at h
 |_+1,_::_,[],h=>by simp[bJ]at h
theorem bJ.drop {c:Cx}: ∀(k:Nat) (l:List bQ) (xs:List Value),bJ c l xs->bJ c (l.drop k) (xs.drop k)
 |0,_,_,h=>by simpa using h
 |k+1,[],[],_=>by simp[bJ]
 |k+1,v::l,x::xs,h=>by simp only[bJ,List.drop_succ_cons]at h ⊢;exact bJ.drop k l xs h.2
 |_+1,[],_::_,h=>by simp[bJ]at h
 |_+1,_::_,[],h=>by simp[bJ]at h
theorem bJ.set {c:Cx} {v:bQ} {x:Value} (h0:bU c v x): ∀(i:Nat) (l:List bQ) (xs:List Value),bJ c l xs->bJ c (l.set i v) (xs.set i x)
 |_,[],[],_=>by simp[bJ]
 |0,u::l,y::xs,h=>by simp_all [bJ]
 |i+1,u::l,y::xs,h=>by simp only[bJ,List.set_cons_succ]at h ⊢;exact⟨h.1,bJ.set h0 i l xs h.2⟩
 |_,[],_::_,h=>by simp[bJ]at h
 |_,_::_,[],h=>by simp[bJ]at h
theorem VD.leaf {c:Cx} {t:Ty} {x:t.den} {v:Value} (h:t.isAgg=false):VD c t x v↔eY c.w c.free t x [v]:=⟨fun d=>d.2 h,fun d=>⟨(fun e=>by rw[h]at e;cases e),(fun _=>d)⟩⟩
theorem VD.agg {c:Cx} {t:Ty} {x:t.den} {v:Value} (h:t.isAgg=true):VD c t x v↔ ∃cs,v=.agg cs/\eY c.w c.free t x cs.toList:=⟨fun d=>d.1 h,fun d=>⟨(fun _=>d),(fun e=>by rw[h]at e;cases e)⟩⟩
theorem VD.cells {c:Cx} {t:Ty} {x:t.den} {v:Value} (h:VD c t x v):eY c.w c.free t x v.cells.toList:=by
 by_cases e:t.isAgg=true
 .obtain⟨cs,rfl,d⟩:=h.1 e;exact d
 .have f:t.isAgg=false:=by simpa using e
  have d:=h.2 f;have g:=eY.one _ _ _ d v (by simp);cases v<;>simp_all [Value.cells,Value.oneCell']
theorem Dz {c:Cx}: ∀(t:Ty) (x:t.den) (cs:List Value),eY c.w c.free t x cs->bJ c (flat t x) cs
 |.unit,_,_,h=>by cases h;simp[flat,bJ]
 |.bool,x,cs,h=>by simp only[eY]at h;subst h;simp only[flat,bJ,bU];exact⟨(VD.leaf rfl).2 rfl,trivial⟩
 |.int k,x,cs,h=>by simp only[eY]at h;subst h;simp only[flat,bJ,bU];exact⟨(VD.leaf rfl).2 rfl,trivial⟩
 |.str,x,cs,h=>by simp only[eY]at h;subst h;simp only[flat,bJ,bU];exact⟨(VD.leaf rfl).2 rfl,trivial⟩
 |.list t,x,cs,h=>by
  have e:=h;obtain⟨a,n,l,d,_⟩:=h;subst d;simp only[flat,bJ,bU];exact⟨(VD.leaf rfl).2 e,trivial⟩
 |.pair a b,x,cs,⟨f,g,d,i,j⟩=>by
  subst d;exact bJ.append _ _ _ _ (Dz a x.1 f i) (Dz b x.2 g j)
theorem lW {t' t:Ty} {x:t'.den} {y:t.den} (h:jD t x=a6 y): ∃e:t'=t,y=cast (congrArg Ty.den e) x:=by
 grind [jD]
theorem fV {t:Ty} (x:t.den):jD t x=a6 x:=by simp[jD]
theorem iy {t' t:Ty} {x:t'.den} {y:t.den} (h:jD t x=a6 y):t'=t:=(lW h).1
theorem JP {c:Cx} {t:Ty} (e:t.isAgg=false) {v:bQ} {x:t.den} (h:leaf t v=a6 x) {u:Value} (d:bU c v u):eY c.w c.free t x [u]:=by
 cases v with
 |val t' y=>
  grind [leaf,lW,bU,VD.leaf]
 |nils=>
  cases t<;>simp only[leaf]at h
  case list t=>
   cases h;simp only[bU]at d;subst d;exact⟨a7,0,[],rfl,by simp,rfl,.inl rfl⟩
  all_goals cases h
 |_=>simp[leaf]at h
theorem ahb {c:Cx}: ∀(t:Ty) (l:List bQ) (x:t.den) (e:List bQ) (vs:List Value),mk t l=a6 (x,e)->bJ c l vs->
  ∃cs g,vs=cs++g/\eY c.w c.free t x cs/\bJ c e g
 |.unit,l,x,e,vs,h,d=>by
  simp only[mk,Option.some.injEq,Prod.mk.injEq]at h;obtain⟨_,rfl⟩:=h;exact⟨[],vs,rfl,rfl,d⟩
 |.pair a b,l,x,e,vs,h,d=>by
  simp only[mk]at h;split at h
  .rename_i y i p
   split at h
   .rename_i z I q
    cases h;obtain⟨j,s,J,A,B⟩:=ahb a l y i vs p d;obtain⟨o,D,K,E,G⟩:=ahb b i z e s q B;exact⟨j++o,D,by simp_all,⟨j,o,rfl,A,E⟩,G⟩
   .cases h
  .cases h
 |.bool,[],_,_,_,h,_=>by simp[mk]at h
 |.int _,[],_,_,_,h,_=>by simp[mk]at h
 |.str,[],_,_,_,h,_=>by simp[mk]at h
 |.list _,[],_,_,_,h,_=>by simp[mk]at h
 |.bool,v::l,x,e,u::vs,h,d=>by
  simp only[bJ]at d;simp only[mk]at h;split at h
  .rename_i y f;cases h;exact⟨[u],vs,rfl,JP rfl f d.1,d.2⟩
  .cases h
 |.int k,v::l,x,e,u::vs,h,d=>by
  simp only[bJ]at d;simp only[mk]at h;split at h
  .rename_i y f;cases h;exact⟨[u],vs,rfl,JP rfl f d.1,d.2⟩
  .cases h
 |.str,v::l,x,e,u::vs,h,d=>by
  simp only[bJ]at d;simp only[mk]at h;split at h
  .rename_i y f;cases h;exact⟨[u],vs,rfl,JP rfl f d.1,d.2⟩
  .cases h
 |.list t,v::l,x,e,u::vs,h,d=>by
  simp only[bJ]at d;simp only[mk]at h;split at h
  .rename_i y f;cases h;exact⟨[u],vs,rfl,JP rfl f d.1,d.2⟩
  .cases h
 |.bool,_::_,_,_,[],_,d=>by simp[bJ]at d
 |.int _,_::_,_,_,[],_,d=>by simp[bJ]at d
 |.str,_::_,_,_,[],_,d=>by simp[bJ]at d
 |.list _,_::_,_,_,[],_,d=>by simp[bJ]at d
theorem oO {c:Cx} {t:Ty} {l:List bQ} {x:t.den} {vs:List Value} (h:G6 t l=a6 x) (d:bJ c l vs):eY c.w c.free t x vs:=by
 grind [G6,ahb,bJ]
theorem LJ {c:Cx} {v:bQ} {l:List bQ} (h:v.cells=a6 l) {x:Value} (d:bU c v x):bJ c l x.cells.toList/\ ∀u∈x.cells.toList,u.oneCell'=true:=by
 cases v with
 |val t y=>
  simp only[bQ.cells,Option.some.injEq]at h;subst h;simp only[bU]at d;exact⟨Dz t y _ d.cells,eY.one _ _ _ d.cells⟩
 |agg i=>
  simp only[bQ.cells,Option.some.injEq]at h;subst h;simp only[bU]at d;obtain⟨j,rfl,e,f⟩:=d;exact⟨e,f⟩
 |undef=>simp[bQ.cells]at h
 |tup _=>simp[bQ.cells]at h
 |_=>
  simp only[bQ.cells,Option.some.injEq]at h;subst h;have g:x.oneCell'=true:=by
   simp only[bU]at d
   first
    |(subst d;rfl)
    |exact d.1
    |(obtain⟨_,_,_,rfl,_⟩:=d;rfl)
    |(obtain⟨_,rfl,_⟩:=d;rfl)
    |(obtain⟨_,_,_,_,rfl,_⟩:=d;rfl)
  have e:x.cells= #[x]:=by cases x<;>simp_all [Value.cells,Value.oneCell']
  rw[e];simp only[bJ];exact⟨⟨d,trivial⟩,by simpa using g⟩
end
section
open Option renaming some → a6, none → a7
open Bool renaming not_eq_true → aY
open List renaming map_cons → ax
open Go.RowKit
def kM:TypeDesc->Option TK
 |.bool=>a6 .bool
 |.int k=>a6 (.int k)
 |.string=>a6 .str
 |.slice e=>a6 (.slice e)
 |.struct d=>a6 (.struct (d.toList.map fun f=>(f.offset,f.type)))
 |.func _ _ _=>a6 .fn
 |.pointer e=>a6 (.ptr e)
 |.map k e=>a6 (.map k e)
 |.array _ _=>a7
 |_=>a6 .other
def jG (T:TT):Nat->List (Nat×TypeId)->Option Ty
 |_,[]=>a6 .unit
 |e,(o,d)::f=>if o=e then match(T.at d).ty with
   |some a=>if a.size=(T.at d).size/\(T.at d).known=true then match jG T (e+a.size) f with
    |some b=>a6 (.pair a b)
    |none=>a7
    else a7
   |none=>a7
  else a7
def lG (T:TT):TK->Option Ty
 |.bool=>a6 .bool
 |.int k=>a6 (.int k)
 |.str=>a6 .str
 |.slice e=>(T.at e).ty.map .list
 |.struct d=>jG T 0 d
 |_=>a7
def aC4 (P:Program) (T:TT) (t:TypeId) (i:TI):Prop:=
 i.known=true->(P.info? t).map (fun f=>(f.size,f.bytes,f.zero.map fun z=>(z.cells.toList.map wO,z.cells.toList.all Value.oneCell')))=a6 (i.size,i.bytes,a6 (i.zero,true))/\
  (P.underlying t).map kM=a6 (a6 i.k)/\(i.ty=a7\/i.ty=lG T i.k)/\(∀y,i.ty=a6 y->y.size=i.size)/\(i.isAgg=true\/i.size=1)/\
  (i.eq=true->P.eqGuardType P.depth t=false/\P.stoodInHeld t=false/\(P.underlying t).map (fun d=>match d with|.struct fs=>fs.toList.all fun f=>f.name != "_" |_=>false)=a6 true)/\
  (P.underlying t).map (fun d=>match d with|.struct fs=>fs.toList.all fun f=>(P.info? f.type).isSome|_=>true)=a6 true/\i.zero.length=i.size/\(i.ty=a6 (.int .u8)->t=nH)/\(i.bld=true->t=V5)/\(∀k,i.k=.int k-> ∀j,P.info? t=a6 j->j.zero=a6 (.int k 0))
def TOk (P:Program) (T:TT):Prop:= ∀t,aC4 P T t (T.at t)
def TT.All (p:Nat->TI->Prop):TT->Prop
 |.nil=>True
 |.node k i l r=>p k i/\l.All p/\r.All p
theorem TT.All.at_ {p:Nat->TI->Prop} (hd: ∀t,p t default): ∀(T:TT),T.All p-> ∀t,p t (T.at t)
 |.nil,_,t=>hd t
 |.node k i l r,⟨j,d,f⟩,t=>by
  simp only[TT.at];by_cases e:Nat.beq k t=true
  .simp_all
  .have g:Nat.beq k t=false:=(aY _).mp e;simp only[g,ac];by_cases e2:Nat.blt t k=true
   .simp only[e2,aa];exact TT.All.at_ hd l d t
   .have h:Nat.blt t k=false:=(aY _).mp e2;simp only[h,ac];exact TT.All.at_ hd r f t
theorem TOk.of_all {P:Program} {T:TT} (h:T.All (aC4 P T)):TOk P T:=TT.All.at_ (fun t h=>by cases h) T h
section types
variable {P:Program} {T:TT} (hT:TOk P T) {t:TypeId} (hk:(T.at t).known=true)
theorem TOk.info (hT:TOk P T) (hk:(T.at t).known=true): ∃i z,P.info? t=a6 i/\i.size=(T.at t).size/\i.bytes=(T.at t).bytes/\i.zero=a6 z/\z.cells.toList.map wO=(T.at t).zero/\z.cells.toList.all Value.oneCell'=true:=by
 have h:=(hT t hk).1;simp_all
theorem TOk.und (hT:TOk P T) (hk:(T.at t).known=true): ∃d,P.underlying t=a6 d/\kM d=a6 (T.at t).k:=by
 have h:=(hT t hk).2.1;simp_all
theorem TOk.slice (hT:TOk P T) (hk:(T.at t).known=true) {e:TypeId} (h:(T.at t).k=.slice e):P.underlying t=a6 (.slice e):=by
 obtain⟨d,g,f⟩:=hT.und hk;rw[h]at f;cases d<;>simp[kM]at f;subst f;exact g
theorem TOk.str (hT:TOk P T) (hk:(T.at t).known=true) (h:(T.at t).k=.str):P.underlying t=a6 .string:=by
 obtain⟨d,f,e⟩:=hT.und hk;rw[h]at e;cases d<;>simp[kM]at e;exact f
theorem TOk.int (hT:TOk P T) (hk:(T.at t).known=true) {k:IntKind} (h:(T.at t).k=.int k):P.underlying t=a6 (.int k):=by
 obtain⟨d,f,e⟩:=hT.und hk;rw[h]at e;cases d<;>simp[kM]at e;subst e;exact f
theorem TOk.struct (hT:TOk P T) (hk:(T.at t).known=true) {e:List (Nat×TypeId)} (h:(T.at t).k=.struct e): ∃g,P.underlying t=a6 (.struct g)/\g.toList.map (fun f=>(f.offset,f.type))=e:=by
 obtain⟨d,j,i⟩:=hT.und hk;rw[h]at i;cases d<;>simp[kM]at i;simp_all
theorem TOk.isAgg (hT:TOk P T) (hk:(T.at t).known=true) (w:World):(Go.isAgg t).run P w=.ok (T.at t).isAgg w:=by
 obtain⟨d,f,e⟩:=hT.und hk;have:(Go.isAgg t).run P w=.ok (match d with|.struct _|.array _ _=>true|_=>false) w:=by
  simp only[Go.isAgg,Sem.run_bind,run_underlying f,Result.andThen_ok];cases d<;>rfl
 rw[this];unfold TI.isAgg;cases d<;>simp only[kM,Option.some.injEq,reduceCtorEq]at e<;>simp[<-e]
theorem TOk.sizeOf (hT:TOk P T) (hk:(T.at t).known=true) (w:World):(Go.sizeOf t).run P w=.ok (T.at t).size w:=by
 obtain⟨i,z,d,e,_⟩:=hT.info hk;simp[Go.sizeOf,typeInfo,d,e]
theorem TOk.ty_agg (hT:TOk P T) (hk:(T.at t).known=true) {y:Ty} (h:(T.at t).ty=a6 y):y.isAgg=(T.at t).isAgg:=by
 rcases(hT t hk).2.2.1 with d|d
 .simp_all
 .rw[h]at d;unfold TI.isAgg;cases hkk:(T.at t).k with
  |struct g=>
   rw[hkk]at d;simp only[lG]at d;cases g with
   |nil=>simp only[jG,Option.some.injEq]at d;subst d;rfl
   |cons f r=>
    obtain⟨o,i⟩:=f;simp only[jG]at d
    repeat' split at d
    all_goals first|cases d|skip
    rfl
  |bool=>rw[hkk]at d;simp only[lG,Option.some.injEq]at d;subst d;rfl
  |int k=>rw[hkk]at d;simp only[lG,Option.some.injEq]at d;subst d;rfl
  |str=>rw[hkk]at d;simp only[lG,Option.some.injEq]at d;subst d;rfl
  |slice e=>
   rw[hkk]at d;simp only[lG]at d;cases he:(T.at e).ty with
   |none=>simp_all
   |some j=>rw[he]at d;simp only[Option.map_some,Option.some.injEq]at d;subst d;rfl
  |other=>rw[hkk]at d;cases d
  |ptr e=>rw[hkk]at d;cases d
  |fn=>rw[hkk]at d;cases d
  |map a b=>rw[hkk]at d;cases d
theorem TOk.ty_size (hT:TOk P T) (hk:(T.at t).known=true) {y:Ty} (h:(T.at t).ty=a6 y):y.size=(T.at t).size:=(hT t hk).2.2.2.1 y h
theorem TOk.zlen (hT:TOk P T) (hk:(T.at t).known=true):(T.at t).zero.length=(T.at t).size:=(hT t hk).2.2.2.2.2.2.2.1
theorem TOk.byte (hT:TOk P T) (hk:(T.at t).known=true) (h:(T.at t).ty=a6 (.int .u8)):t=nH:=(hT t hk).2.2.2.2.2.2.2.2.1 h
theorem TOk.bldr (hT:TOk P T) (hk:(T.at t).known=true) (h:(T.at t).bld=true):t=V5:=(hT t hk).2.2.2.2.2.2.2.2.2.1 h
theorem TOk.ptr (hT:TOk P T) (hk:(T.at t).known=true) {e:TypeId} (h:(T.at t).k=.ptr e):P.underlying t=a6 (.pointer e):=by
 obtain⟨d,g,f⟩:=hT.und hk;rw[h]at f;cases d<;>simp[kM]at f;subst f;exact g
theorem TOk.zero_int (hT:TOk P T) (hk:(T.at t).known=true) {k:IntKind} (h:(T.at t).k=.int k) {i:TypeInfo} (hi:P.info? t=a6 i):i.zero=a6 (.int k 0):=(hT t hk).2.2.2.2.2.2.2.2.2.2 k h i hi
theorem TOk.zero_byte (hT:TOk P T) (hk:(T.at t).known=true) (h:(T.at t).k=.int .u8) {i:TypeInfo} (hi:P.info? t=a6 i):i.zero=a6 (.int .u8 0):=hT.zero_int hk h hi
theorem TOk.map (hT:TOk P T) (hk:(T.at t).known=true) {a e:TypeId} (h:(T.at t).k=.map a e):P.underlying t=a6 (.map a e):=by
 obtain⟨d,g,f⟩:=hT.und hk;rw[h]at f;cases d<;>simp[kM]at f;simp_all
theorem TOk.one (hT:TOk P T) (hk:(T.at t).known=true):(T.at t).isAgg=true\/(T.at t).size=1:=(hT t hk).2.2.2.2.1
end types
theorem RP (c:Cx) (v:Value):bU c (wO v) v:=by
 unfold wO;split<;>simp only[bU]
 .exact(VD.leaf rfl).2 rfl
 .exact(VD.leaf rfl).2 rfl
 .refine(VD.leaf rfl).2 ?_;simp[eY]
theorem ul (c:Cx): ∀(l:List Value),bJ c (l.map wO) l
 |[]=>by simp[bJ]
 |v::l=>by simp only[ax,bJ];exact⟨RP c v,ul c l⟩
theorem bJ.setL {c:Cx} {z:bQ}: ∀(s:Nat) (fr:List bQ) (xs:List Value),bJ c fr xs->(∀h:s<xs.length,bU c z xs[s])->bJ c (fr.set s z) xs
 |s,[],[],_,_=>by simp[bJ]
 |0,v::fr,x::xs,h,d=>by
  simp_all [bJ]
 |s+1,v::fr,x::xs,h,d=>by
  simp only[bJ,List.set_cons_succ]at h ⊢;exact⟨h.1,bJ.setL s fr xs h.2 fun hl=>d (by simpa using hl)⟩
 |s,[],_::_,h,_=>by simp[bJ]at h
 |s,_::_,[],h,_=>by simp[bJ]at h
theorem bJ.getD {c:Cx} {l:List bQ} {xs:Array Value} (h:bJ c l xs.toList) (t:Nat):bU c (l.getD t .undef) (xs.getD t undef):=by
 have hl:l.length=xs.size:=by grind [bJ.length,Array.length_toList]
 by_cases ht:t<l.length
 .have d:t<xs.size:=by omega
  have e:=bJ.get _ _ h t ht (by simpa using d);simp_all
 simp_all [bU]
theorem dR {c:Cx} {fr:List bQ} {a:Act} (h:bJ c fr a.tmps.toList) (x:Operand):bU c (gY fr x) (a.eval x):=by
 cases x with
 |tmp t=>exact h.getD t
 |const v=>
  cases v with
  |agg cs=>
   simp only[gY,Act.eval,Yl];cases e:cs.toList.all Value.oneCell'
   .simp[bU]
   .simp only[aa,bU];exact⟨cs,rfl,ul c _,fun u d=>List.all_eq_true.1 e u d⟩
  |tuple _=>simp[gY,Yl,bU]
  |_=>simp only[gY,Act.eval,Yl];exact RP c _
 |global g=>simp[gY,bU]
 |func f=>simp only[gY,Act.eval,bU];exact⟨#[],rfl,by simp[bJ]⟩
end
section
open Option renaming some → a6, none → a7
open Bool renaming false_eq_true → ah, not_true → au
open List renaming append_assoc → ag, mem_of_mem_take → bg
open Go.RowKit
theorem dG {R:Type} {b:Bool} {x:Option R} {r:R} (h:(bif b then x else a7)=a6 r):b=true/\x=a6 r:=by
 grind
theorem gy {R:Type} {b:Bool} {x:Option R} {r:R} (h:mO b x=a6 r):b=true/\x=a6 r:=dG h
abbrev Gw (c:Cx) (w:World):Prop:=Below c.w.heap.size c.w w
def valOf (agg:Bool) (d:List Value):Value:=if agg then .agg d.toArray else d.headD undef
theorem jY (b o n:Nat):(⟨b,o,a7⟩:Addr).add n=⟨b,o+n,a7⟩:=by
 simp_all [Addr.add]
section
variable {P:Program} {T:TT} {W0:World} {c:Cx} {R:Type} {r:R} {t:TypeId}
theorem KO (hT:TOk P T) (hk:(T.at t).known=true) {w:World} {b o:Nat} {d:List Value} (g:gW w b o d) (hl:d.length=(T.at t).size):
  (loadVar t ⟨b,o,a7⟩).run P w=.ok (valOf (T.at t).isAgg d) w:=by
 have i:=hT.isAgg hk w;have l:=hT.sizeOf hk w;have f: ∀j v,d[j]? =a6 v->w.cell? ((⟨b,o,a7⟩:Addr).add j)=a6 v:=fun j v p=>by
  rw[jY];obtain⟨q,s⟩:=List.getElem?_eq_some_iff.1 p;rw[g j q,s]
 simp only[loadVar,Sem.run_bind,i,Result.andThen_ok];cases e:(T.at t).isAgg
 .have u:d.length=1:=by
   rcases hT.one hk with h|h
   all_goals simp_all
  match d,u with
  |[z],_=>
   have x:=f 0 z rfl;simp_all [jY,valOf]
 .simp only[if_true,Sem.run_bind,l,Result.andThen_ok,<-hl,run_loadCells_list (P:=P) w ⟨b,o,a7⟩ d f,Sem.run_pure,valOf]
theorem sG (hT:TOk P T) (hk:(T.at t).known=true) {w:World} {b o:Nat} {d:List Value} (e:gW w b o d) (hl:d.length=(T.at t).size):
  (Instr.loadAt t (.pointer (a6 ⟨b,o,a7⟩))).run P w=.ok (valOf (T.at t).isAgg d) w:=by
 grind [Instr.loadAt,Instr.sureAddr,KO]
theorem afA (hT:TOk P T) (hk:(T.at t).known=true) {y:Ty} (g:(T.at t).ty=a6 y) {x:y.den} {d:List Value} (h:eY c.w c.free y x d):VD c y x (valOf (T.at t).isAgg d):=by
 have f:=hT.ty_agg hk g;cases e:(T.at t).isAgg
 .rw[e]at f;refine(VD.leaf f).2 ?_;have i:=eY.length _ _ _ h;have j:d.length=1:=by
   rw[i];cases y<;>first|rfl|(simp[Ty.isAgg]at f)
  match d,j with
  |[z],_=>exact h
 .rw[e]at f;exact(VD.agg f).2 ⟨d.toArray,rfl,by simpa using h⟩
theorem Kv (hT:TOk P T) (hk:(T.at t).known=true) {l:List bQ} {d:List Value} (h:bJ c l d) (o: ∀u∈d,u.oneCell'=true):bU c (norm (T.at t) l) (valOf (T.at t).isAgg d):=by
 unfold norm valOf TI.isAgg;have e:bU c (.agg l) (.agg d.toArray):=by simp only[bU];simp_all
 cases hkk:(T.at t).k with
 |struct p=>
  simp only[if_true];split
  .rename_i y g
   split
   .rename_i x i
    rw[cond_eq_ite];split
    .exact e
    simp only[bU];have j:=oO i h;have f:=hT.ty_agg hk g;rw[TI.isAgg,hkk]at f;exact(VD.agg f).2 ⟨d.toArray,rfl,by simpa using j⟩
   .exact e
  .exact e
 |_=>
  simp only[ah,if_false];split
  .rename_i v
   match d,h with
   |[z],h=>simp only[bJ]at h;exact h.1
   |[],h=>simp[bJ]at h
   |_::_::_,h=>simp[bJ]at h
  .simp[bU]
theorem Bf {cs l:List bQ} {off k:Nat} (h:Jn cs off k=a6 l):off+k<=cs.length/\l=(cs.drop off).take k:=by
 unfold Jn at h;obtain⟨d,e⟩:=dG h;simp_all
theorem gW.sub {w:World} {b o:Nat} {d:List Value} (h:gW w b o d) (off k:Nat):gW w b (o+off) ((d.drop off).take k):=by
 intro j e;have f:off+j<d.length:=by simp at e;omega
 rw[Nat.add_assoc,h (off+j) f];simp
theorem gW.of_block_cells {w:World} {b:Nat} {vs:Array Value} {e:TypeId} {f:Nat×Nat} (h:w.heap[b]? =a6 (.cells vs e f)):gW w b 0 vs.toList:=by
 intro j d;simp_all [World.cell?]
theorem Gw.cells {c:Cx} {w:World} (h:Gw c w) {b o:Nat} {d:List Value} (hb:b<c.w.heap.size) (e:gW c.w b o d):gW w b o d:=e.of_block (h.block b hb)
theorem avv (p:c.Ok W0) {id q:Nat} {y:Ty} {xs:List y.den} (h:dO c.hp id=a6 (.arr y q xs)) {i:Nat} (hi:i<xs.length):
  ∃g n cp f,(c.mu id).v=.slice (a6 ⟨g,0,a7⟩) n cp/\c.own g/\eY c.w c.free y xs[i] f/\gW c.w g (i*y.size) f:=by
 obtain⟨h0,e,f,s,u,N⟩:=p.obj id _ h;obtain⟨d,O,x,S,U,z,A⟩:=fP.at_ i xs f hi u;rcases s.2 with ⟨l,B⟩|⟨g,V,D,l,B,E,W,X,Y,G⟩
 .omega
 .refine⟨g,_,_,d,l,⟨id,_,h,by simp[dL.blk,l,Value.ownBlock]⟩,x, ?_⟩;have I:=gW.of_block_cells E;intro j J;have o:f[i*y.size+j]? =a6 d[j]:=by
   rw[z,ag,List.getElem?_append_right (by omega),A,Nat.add_sub_cancel_left,List.getElem?_append_left J];simp
  have K:i*y.size+j<f.length:=(List.getElem?_eq_some_iff.1 o).1;rw[<-G]at o K;have M:i*y.size+j<D.toList.length:=by grind
  have:=I (i*y.size+j) M
  grind
theorem avp (hT:TOk P T) (A:c.Ok W0) {av:bQ} {v:Value} {K:bQ->Option R} (h:LX T c.hp t av K=a6 r) (d:bU c av v):
  ∃z u,K z=a6 r/\bU c z u/\ ∀w',Gw c w'->(Instr.loadAt t v).run P w'=.ok u w':=by
 unfold LX at h;cases hk:(T.at t).known
 .simp_all
 rw[hk]at h;simp only[au,ac]at h;cases av with
 |cellp y x=>
  simp only at h;split at h
  .rename_i y' S
   split at h
   .rename_i x' B
    obtain⟨e,D⟩:=lW B;subst e;subst D;simp only[bU]at d;obtain⟨b,o,U,rfl,V,f,hd⟩:=d;refine⟨_,_,h, ?_,fun w' j=>sG hT hk (j.cells V.1 f) ?_⟩
    .grind [bU,afA]
    .rw[eY.length _ _ _ hd,hT.ty_size hk S]
   .cases h
  .cases h
 |ptr id p=>
  simp only at h;split at h
  .rename_i bt cs G
   split at h
   .rename_i l hl
    obtain⟨q,rfl⟩:=Bf hl;simp only[bU]at d;have W:=d.2.2 _ _ G;subst W;obtain⟨hB,vs,s,I,X⟩:=A.obj id _ G;have Y:=bJ.length _ _ I;have f:=(gW.of_block_cells s).sub p (T.at t).size;rw[Nat.zero_add]at f;refine⟨_,_,h,Kv hT hk (bJ.take _ _ _ (bJ.drop p _ _ I)) (fun u E=>X u (List.mem_of_mem_drop (bg E))),fun w' j=>sG hT hk (j.cells (Array.getElem?_eq_some_iff.1 s).1 f) ?_⟩
    grind
   .cases h
  .cases h
 |ep id ver i p=>
  simp only at h;split at h
  .rename_i y u xs J
   replace h:=dG h;obtain⟨q,h⟩:=h;replace h:=dG h;obtain⟨D,h⟩:=h;have q:u=ver:=by simpa using q
   subst q;have M:i<xs.length:=by simpa [PG] using D
   split at h
   .rename_i l hl
    obtain⟨s,rfl⟩:=Bf hl;simp only[bU]at d;obtain⟨g',n',ae,Z,e2⟩:=(d.2.2 _ _ _ J).2 rfl;obtain⟨g,n,cp,U,N,ab,hd,f⟩:=avv A J M;rw[Z]at N;cases N;subst e2;have B:xs.getD i y.dflt=xs[i]:=by simp[List.getD,M]
    rw[B]at h s;have O:=Dz y _ _ hd;have Y:=bJ.length _ _ O;have ad:=f.sub p (T.at t).size;refine⟨_,_,h,Kv hT hk (bJ.take _ _ _ (bJ.drop p _ _ O)) (fun u E=>eY.one _ _ _ hd u (List.mem_of_mem_drop (bg E))),fun w' j=>sG hT hk (j.cells (A.own_lt ab).2 ad) ?_⟩;simp;omega
   .cases h
  .cases h
 |_=>cases h
end
end
section
open Option renaming some → a6, none → a7
open Bool renaming and_eq_true → af, false_eq_true → ah, not_true → au, true_and → aS
open List renaming map_cons → ax, drop_eq_getElem_cons → aA, all_cons → aW
open Go.RowKit
section
variable {P:Program} {T:TT} {W0:World} {c:Cx} {R:Type} {r:R} {t:TypeId}
theorem VD.int_inv {k:IntKind} {n:Int} {v:Value} (h:VD c (.int k) n v):v=.int k n:=by
 have:=h.2 rfl;simp_all [eY]
theorem VD.bool_inv {b:Bool} {v:Value} (h:VD c .bool b v):v=.bool b:=by
 have:=h.2 rfl;simp_all [eY]
theorem VD.str_inv {s:List UInt8} {v:Value} (h:VD c .str s v):v=.string ⟨s.toArray⟩:=by
 have:=h.2 rfl;simp_all [eY]
theorem VD.int_mk {k:IntKind} {n:Int}:VD c (.int k) n (.int k n):=(VD.leaf rfl).2 rfl
theorem VD.bool_mk {b:Bool}:VD c .bool b (.bool b):=(VD.leaf rfl).2 rfl
theorem VD.str_mk {s:List UInt8}:VD c .str s (.string ⟨s.toArray⟩):=(VD.leaf rfl).2 rfl
theorem Ff (hT:TOk P T) (h:T.isStr t=true):P.underlying t=a6 .string:=by
 unfold TT.isStr at h;split at h
 .rename_i e;exact hT.str h e
 .cases h
theorem lS (hT:TOk P T) {n:Nat} (h:T.rowOf t n=true): ∃e,P.underlying t=a6 (.slice e)/\(T.at e).known=true/\(T.at e).size=n/\0<n/\(T.at t).k=.slice e/\0<(T.at e).bytes:=by
 unfold TT.rowOf at h;split at h
 .rename_i e d
  simp only[af,beq_iff_eq,PG,decide_eq_true_eq]at h;exact⟨e,hT.slice h.1 d,h.2.1,h.2.2.1,h.2.2.2.1,d,h.2.2.2.2⟩
 .cases h
theorem _root_.Go.Proofs.YtlhpdcadgbjhiaaGreatDoor.TOk.isPtr (hT:TOk P T) (h:T.isPtr t=true): ∃e,P.underlying t=a6 (.pointer e):=by
 unfold TT.isPtr at h;split at h
 .rename_i e hk;exact⟨e,hT.ptr h hk⟩
 .cases h
theorem _root_.Go.Proofs.YtlhpdcadgbjhiaaGreatDoor.TOk.isBytes (hT:TOk P T) (h:T.isBytes t=true):P.underlying t=a6 (.pointer nH)/\P.cellsOf nH=1:=by
 unfold TT.isBytes at h;split at h
 .rename_i e hk
  simp only[af]at h;obtain⟨g,d,f⟩:=h;split at f
  .rename_i j
   have:=hT.byte d j;subst this;refine⟨hT.ptr g hk, ?_⟩;obtain⟨i,z,l,o,_⟩:=hT.info d;simp_all [Program.cellsOf]
  .cases f
 .cases h
theorem KE (hT:TOk P T) (hk:(T.at t).known=true) (w:World) (cs:Array Value) (off:Nat) (h:off+(T.at t).size<=cs.size):
  (part t cs off).run P w=.ok (valOf (T.at t).isAgg ((cs.toList.drop off).take (T.at t).size)) w:=by
 have d:=hT.isAgg hk w;have f:=hT.sizeOf hk w;simp only[part,Sem.run_bind,d,Result.andThen_ok];cases e:(T.at t).isAgg
 .have g:(T.at t).size=1:=by
   rcases hT.one hk with h|h
   all_goals simp_all
  have i:off<cs.size:=by omega
  simp_all [aA,valOf]
 .simp only[if_true,Sem.run_bind,f,Result.andThen_ok,Sem.run_pure,valOf];congr 2
  grind
theorem Bi (hT:TOk P T): ∀(n:Nat) (t:TypeId),T.eqOk n t=true-> ∀(y:Ty),(T.at t).ty=a6 y-> ∀(x j:y.den) (l o:List Value),eY c.w c.free y x l->eY c.w c.free y j o->
  ∀(w:World) (d:Nat),n<=d->(Op.equalIn d t (valOf (T.at t).isAgg l) (valOf (T.at t).isAgg o)).run P w=.ok (y.same x j) w
 |0,_,h,_,_,_,_,_,_,_,_,_,_,_=>by simp[TT.eqOk]at h
 |n+1,t,h,y,A,x,j,l,o,Y,Z,w,d,hd=>by
  obtain⟨d,rfl⟩: ∃e,d=e+1:=⟨d-1,by omega⟩;simp only[TT.eqOk,af]at h;obtain⟨hk,h⟩:=h;have i:(T.at t).ty=lG T (T.at t).k:=by
   rcases(hT t hk).2.2.1 with g|g
   all_goals simp_all
  cases hkk:(T.at t).k with
  |bool=>
   rw[A,hkk]at i;simp only[lG,Option.some.injEq]at i;subst i;obtain⟨dd,p,s⟩:=hT.und hk;rw[hkk]at s;cases dd<;>simp[kM]at s;simp_all [eY,TI.isAgg,valOf,run_equalIn_bool,Ty.same]
  |int k=>
   rw[A,hkk]at i;simp only[lG,Option.some.injEq]at i;subst i;have p:=hT.int hk hkk;simp_all [eY,TI.isAgg,valOf,run_equalIn_int,Ty.same]
  |str=>
   rw[A,hkk]at i;simp only[lG,Option.some.injEq]at i;subst i;have p:=hT.str hk hkk;simp_all [eY,TI.isAgg,valOf,run_equalIn_string,Ty.same]
  |struct fs=>
   rw[hkk]at h;simp only[af]at h;obtain⟨M,N⟩:=h;have O:(T.at t).isAgg=true:=by simp[TI.isAgg,hkk]
   rw[A,hkk]at i;simp only[lG]at i;obtain⟨I,p,s⟩:=hT.struct hk hkk;obtain⟨_,S,J⟩:=(hT t hk).2.2.2.2.2.1 M;rw[p]at J;simp only[Option.map_some,Option.some.injEq]at J;have K:P.fieldsOf t=I:=by simp[Program.fieldsOf,p]
   simp only[valOf,O,if_true];rw[run_equalIn_struct w d t _ _ (by rw[K];exact p) S,K];clear K S p A;rw[<-s]at i N;generalize I.toList=q at*;clear s I hkk M O hk;have ab: ∀(q:List Field) (u:Nat) (y:Ty) (x j:y.den) (l o v z:List Value),jG T u (q.map fun f=>(f.offset,f.type))=a6 y->(q.map fun f=>(f.offset,f.type)).all (fun f=>T.eqOk n f.2)=true->
     (q.all fun f=>f.name != "_")=true->eY c.w c.free y x l->eY c.w c.free y j o->v.length=u->z.length=u->
     (Op.eqFields d (v++l).toArray (z++o).toArray q).run P w=.ok (y.same x j) w:=by
    intro q
    induction q with
    |nil=>
     intro u y x j l o v z g _ _ B D _ _;simp only[List.map_nil,jG,Option.some.injEq]at g;subst g;rfl
    |cons f q ih=>
     intro u y x j l o v z g B D h4 h5 h6 h7;simp only[ax,jG]at g;split at g
     .rename_i ad
      split at g
      .rename_i a ha
       split at g
       .rename_i U
        split at g
        .rename_i b hb
         cases g;simp only[ax,aW,af]at B D;obtain⟨E,V,p,s,e3⟩:=h4;obtain⟨G,W,e4,X,e6⟩:=h5;subst p;subst e4;have ae:=eY.length _ _ _ s;have ag:=eY.length _ _ _ X;have n1:(f.name≠ "_"):=by simpa using D.1
         have p1:(part f.type (v++(E++V)).toArray f.offset).run P w=.ok (valOf (T.at f.type).isAgg E) w:=by
          rw[KE hT U.2 w _ _ (by simp;omega)];simp_all
         have p2:(part f.type (z++(G++W)).toArray f.offset).run P w=.ok (valOf (T.at f.type).isAgg G) w:=by
          rw[KE hT U.2 w _ _ (by simp;omega)];simp_all
         have p3:=Bi hT n f.type B.1 a ha x.1 j.1 E G s X w d (by omega);simp only[Op.eqFields,am n1,Sem.run_bind,p1,p2,p3,Result.andThen_ok,Ty.same];cases a.same x.1 j.1
         .simp
         .simp only[au,ah,if_false,aS];have:=ih (u+a.size) b x.2 j.2 V W (v++E) (z++G) hb B.2 D.2 e3 e6 (by simp;omega) (by simp;omega);simpa using this
        .cases g
       .cases g
      .cases g
     .cases g
   have:=ab q 0 y x j l o [] [] i.symm N J Y Z rfl rfl;simpa using this
  |_=>simp_all
theorem ace (w:World) (d:BinOp) (a b:List UInt8) (h:d=.eql\/d=.neq\/d=.lss\/d=.leq\/d=.gtr\/d=.geq):
  ∃u,bU c (X8 d a b) u/\ ∀w,(Op.stringOp d ⟨a.toArray⟩ ⟨b.toArray⟩).run P w=.ok u w:=by
 rcases h with rfl|rfl|rfl|rfl|rfl|rfl<;>
  exact⟨_,by simp only[X8,bU];exact VD.bool_mk,fun w=>by simp[Op.stringOp,gG,FT]⟩
theorem mi (d:BinOp) (t:TypeId) (ox oy:Operand) (x y:Value) (w:World) (h:x.oneCell'=true) (h2:x≠ .nilIface):(eqGuard d t ox oy x y).run P w=.ok () w:=by
 unfold eqGuard;cases x<;>first
  |(simp[Value.oneCell']at h;done)
  |exact absurd rfl h2
  |(cases d<;>simp)
theorem ET {y:Ty} {v:bQ} {x:y.den} (h:v.as [] y=a6 x) (d:y.isAgg=true) {u:Value} (f:bU c v u): ∃cs,u=.agg cs/\eY c.w c.free y x cs.toList:=by
 cases v with
 |val t' z=>
  grind [bQ.as,lW,bU,VD.agg]
 |nils=>cases y<;>simp_all [bQ.as,Ty.isAgg]
 |emp=>cases y<;>simp_all [bQ.as,Ty.isAgg]
 |lst t' z b=>
  simp only[bQ.as]at h;obtain⟨e,_⟩:=lW h;subst e;cases d
 |slc id ver j=>cases y<;>simp_all [bQ.as,Ty.isAgg]
 |agg l=>
  simp only[bQ.as,d,aa]at h;simp only[bU]at f;obtain⟨g,rfl,i,_⟩:=f;exact⟨g,rfl,oO h i⟩
 |_=>simp[bQ.as]at h
theorem aIC (hT:TOk P T) {f:BinOp} {ox oy:Operand} {x y:bQ} {D E:Value} {K:bQ->Option R} (h:ac4 T f t x y K=a6 r) (hx:bU c x D) (i:bU c y E):
  ∃z u,K z=a6 r/\bU c z u/\ ∀w,(do eqGuard f t ox oy D E;binOp f t D E:Sem Value).run P w=.ok u w:=by
 unfold ac4 at h;split at h
 .
  rename_i k a V b
  simp only[bU]at hx i;obtain rfl:=hx.int_inv;obtain rfl:=i.int_inv;split at h
  .rename_i hk
   subst hk;have l: ∀w,(eqGuard f t ox oy (.int k a) (.int k b)).run P w=.ok () w:=fun w=>mi f t ox oy _ _ w rfl (by simp);cases f<;>simp only[reduceCtorEq]at h
   case quo=>
    replace h:=gy h;obtain⟨g,h⟩:=h;have g:b≠0:=by simpa [bP] using g
    exact⟨_,_,h,by simp only[bU];exact VD.int_mk,fun w=>by simp_all [binOp,Op.intDiv,aHq]⟩
   case rem=>
    replace h:=gy h;obtain⟨g,h⟩:=h;have g:b≠0:=by simpa [bP] using g
    exact⟨_,_,h,by simp only[bU];exact VD.int_mk,fun w=>by simp_all [binOp,Op.intDiv]⟩
   case add=>exact⟨_,_,h,by simp only[yN,bU];exact VD.int_mk,fun w=>by simp_all [binOp,Op.intArith,di]⟩
   case sub=>exact⟨_,_,h,by simp only[yN,bU];exact VD.int_mk,fun w=>by simp_all [binOp,Op.intArith,eU]⟩
   case mul=>exact⟨_,_,h,by simp only[yN,bU];exact VD.int_mk,fun w=>by simp_all [binOp,Op.intArith,aol]⟩
   case eql=>exact⟨_,_,h,by simp only[yN,bU];exact VD.bool_mk,fun w=>by simp_all [binOp,Op.intCmp,bP]⟩
   case neq=>exact⟨_,_,h,by simp only[yN,bU];exact VD.bool_mk,fun w=>by simp_all [binOp,Op.intCmp,bP,bne]⟩
   case lss=>exact⟨_,_,h,by simp only[yN,bU];exact VD.bool_mk,fun w=>by simp_all [binOp,Op.intCmp,gV]⟩
   case leq=>exact⟨_,_,h,by simp only[yN,bU];exact VD.bool_mk,fun w=>by simp_all [binOp,Op.intCmp,leI]⟩
   case gtr=>exact⟨_,_,h,by simp only[yN,bU];exact VD.bool_mk,fun w=>by simp_all [binOp,Op.intCmp,gV]⟩
   case geq=>exact⟨_,_,h,by simp only[yN,bU];exact VD.bool_mk,fun w=>by simp_all [binOp,Op.intCmp,leI]⟩
   case and=>exact⟨_,_,h,by simp only[bU];exact VD.int_mk,fun w=>by simp_all [binOp,Op.intBits,aqa]⟩
   case or=>exact⟨_,_,h,by simp only[bU];exact VD.int_mk,fun w=>by simp_all [binOp,Op.intBits,aqa]⟩
   case xor=>exact⟨_,_,h,by simp only[bU];exact VD.int_mk,fun w=>by simp_all [binOp,Op.intBits,aqa]⟩
   case andNot=>exact⟨_,_,h,by simp only[bU];exact VD.int_mk,fun w=>by simp_all [binOp,Op.intBits,aqa]⟩
   case shl=>
    obtain⟨g,h⟩:=gy h;have g: ¬b<0:=by simpa [leI] using g
    exact⟨_,_,h,by simp only[bU];exact VD.int_mk,fun w=>by simp[Sem.run_bind,l,binOp,Op.shift,g,aAU]⟩
   case shr=>
    obtain⟨g,h⟩:=gy h;have g: ¬b<0:=by simpa [leI] using g
    exact⟨_,_,h,by simp only[bU];exact VD.int_mk,fun w=>by simp[Sem.run_bind,l,binOp,Op.shift,g,UJ]⟩
  .have l: ∀w,(eqGuard f t ox oy (.int k a) (.int V b)).run P w=.ok () w:=fun w=>mi f t ox oy _ _ w rfl (by simp);split at h
   .obtain⟨g,h⟩:=gy h;have g: ¬b<0:=by simpa [leI] using g
    exact⟨_,_,h,by simp only[bU];exact VD.int_mk,fun w=>by simp[Sem.run_bind,l,binOp,Op.shift,g,aAU]⟩
   .obtain⟨g,h⟩:=gy h;have g: ¬b<0:=by simpa [leI] using g
    exact⟨_,_,h,by simp only[bU];exact VD.int_mk,fun w=>by simp[Sem.run_bind,l,binOp,Op.shift,g,UJ]⟩
   .cases h
 .
  rename_i a b
  simp only[bU]at hx i;obtain rfl:=hx.bool_inv;obtain rfl:=i.bool_inv;replace h:=dG h;obtain⟨hk,h⟩:=h;have l: ∀w,(eqGuard f t ox oy (.bool a) (.bool b)).run P w=.ok () w:=fun w=>mi f t ox oy _ _ w rfl (by simp);have v:(T.at t).k=.bool->P.underlying t=a6 .bool:=fun e=>by
   obtain⟨d,o,p⟩:=hT.und hk;rw[e]at p;cases d<;>simp[kM]at p;exact o
  split at h
  .rename_i e
   have o:=v e;exact⟨_,_,h,by simp only[bU];exact VD.bool_mk,fun w=>by simp_all [binOp,Op.equal,Op.maxDepth,run_equalIn_bool]⟩
  .rename_i e
   have o:=v e;exact⟨_,_,h,by simp only[bU];exact VD.bool_mk,fun w=>by simp_all [binOp,Op.equal,Op.maxDepth,run_equalIn_bool]⟩
  .cases h
 .
  rename_i a b
  simp only[bU]at hx i;obtain rfl:=hx.str_inv;obtain rfl:=i.str_inv;have l: ∀w,(eqGuard f t ox oy (.string ⟨a.toArray⟩) (.string ⟨b.toArray⟩)).run P w=.ok () w:=fun w=>mi f t ox oy _ _ w rfl (by simp);have A:binOp f t (.string ⟨a.toArray⟩) (.string ⟨b.toArray⟩)=Op.stringOp f ⟨a.toArray⟩ ⟨b.toArray⟩:=by cases f<;>rfl
  have Z:(f=.eql\/f=.neq\/f=.lss\/f=.leq\/f=.gtr\/f=.geq)->K (X8 f a b)=a6 r->
    ∃z u,K z=a6 r/\bU c z u/\ ∀w,(do eqGuard f t ox oy (.string ⟨a.toArray⟩) (.string ⟨b.toArray⟩);binOp f t (.string ⟨a.toArray⟩) (.string ⟨b.toArray⟩):Sem Value).run P w=.ok u w:=fun W hh=>by
   obtain⟨u,g,O⟩:=ace (P:=P) (c:=c) default f a b W
   grind [Sem.run_bind,Result.andThen_ok]
  cases f<;>simp only[reduceCtorEq]at h
  case add=>
   replace h:=gy h;obtain⟨g,h⟩:=h;refine⟨_,_,h,by simp only[bU];exact VD.str_mk,fun w=> ?_⟩;have g:a.length+b.length<=kH:=by simpa using g
   have O: ¬((a.length:Int)+(b.length:Int)>IntKind.i64.max):=by
    grind [IntKind.max,IntKind.bits,kH]
   have o:(⟨a.toArray⟩:ByteArray)++⟨b.toArray⟩=⟨(a++b).toArray⟩:=by
    rfl
   simp_all [ByteArray.size,Op.stringOp]
  all_goals simp_all
 .
  rename_i e xs b
  simp only[bU]at hx i;obtain⟨ab,s,n,m,rfl,rfl⟩:=hx;subst i;replace h:=dG h;obtain⟨hk,h⟩:=h;have l: ∀w,(eqGuard f t ox oy (.slice s n m) (.slice a7 0 0)).run P w=.ok () w:=fun w=>mi f t ox oy _ _ w rfl (by simp);have v: ∀j,(T.at t).k=.slice j->P.underlying t=a6 (.slice j):=fun j e=>by
   obtain⟨d,o,p⟩:=hT.und hk;rw[e]at p;cases d<;>simp[kM]at p;rw[o,p]
  have q: ∀j,(T.at t).k=.slice j-> ∀w,(Op.equal t (.slice s n m) (.slice a7 0 0)).run P w=.ok s.isNone w:=fun j e w=>by
   have o:=v j e;show(Op.equalIn (9999+1) t (.slice s n m) (.slice a7 0 0)).run P w=_;unfold Op.equalIn;rw[Sem.run_bind,run_underlying o,Result.andThen_ok];cases s<;>rfl
  split at h
  .rename_i j e
   exact⟨_,_,h,by simp only[bU];exact VD.bool_mk,fun w=>by simp_all [binOp]⟩
  .rename_i j e
   exact⟨_,_,h,by simp only[bU];exact VD.bool_mk,fun w=>by simp_all [binOp]⟩
  .cases h
 .
  rename_i h0 g O S
  cases q:T.eqOk 6 t
  .simp_all
  rw[q]at h;simp only[au,ac]at h;split at h
  .rename_i fs G U I
   have X:(T.at t).isAgg=true:=by simp[TI.isAgg,U]
   have hk:(T.at t).known=true:=by simp_all [TT.eqOk]
   have B:G.isAgg=true:=by rw[hT.ty_agg hk I,X]
   have ad:P.eqGuardType P.depth t=false:=by
    simp only[TT.eqOk,af,U]at q;exact((hT t hk).2.2.2.2.2.1 q.2.1).1
   split at h
   .rename_i a b J A
    obtain⟨cs,rfl,M⟩:=ET J B hx;obtain⟨Y,rfl,N⟩:=ET A B i;refine⟨_,_,h,by simp only[bU];exact VD.bool_mk,fun w=> ?_⟩;have S:=Bi (P:=P) hT 6 t q G I a b _ _ M N w 10000 (by omega);simp_all [valOf,run_eqGuard_agg,run_eql_struct]
   .rename_i a b J A
    obtain⟨cs,rfl,M⟩:=ET J B hx;obtain⟨Y,rfl,N⟩:=ET A B i;refine⟨_,_,h,by simp only[bU];exact VD.bool_mk,fun w=> ?_⟩;have S:=Bi (P:=P) hT 6 t q G I a b _ _ M N w 10000 (by omega);simp_all [valOf,run_eqGuard_agg,run_neq_struct]
   .cases h
  .cases h
theorem avo {W0:World} (hT:TOk P T) (G:c.Ok W0) {i:BinOp} {ox oy:Operand} {x y:bQ} {o q:Value} {K:bQ->Option R} (h:Sj T c.hp i t x y K=a6 r) (hx:bU c x o) (l:bU c y q):
  ∃z u,K z=a6 r/\bU c z u/\ ∀w,(do eqGuard i t ox oy o q;binOp i t o q:Sem Value).run P w=.ok u w:=by
 unfold Sj at h;rw[cond_eq_ite]at h;split at h
 .rename_i f
  unfold awd at f;split at f
  .split at f
   .split at f
    .rename_i id X I J M e v Y D
     simp only[af,beq_iff_eq,PG,decide_eq_true_eq]at f;obtain⟨rfl,Z⟩:=f;simp only[bU]at hx l;subst l;have N:=(hx.2.2 _ _ _ D).2 rfl;obtain⟨_,e',zs,O,_,_⟩:=G.obj id _ D;obtain⟨s,n,m,rfl⟩: ∃a n m,o=.slice (a6 a) n m:=by
      rcases O.2 with ⟨_,h0⟩|⟨g,ab,ad,E,_⟩
      .omega
      .cases I with
       |none=>simp_all [ja]
       |some S=>
        obtain⟨lo,hi⟩:=S;simp only[ja]at N
        grind
     obtain⟨hk,h⟩:=dG h;have U: ∀w,(eqGuard i t ox oy (.slice (a6 s) n m) (.slice a7 0 0)).run P w=.ok () w:=fun w=>mi i t ox oy _ _ w rfl (by simp);have V: ∀j,(T.at t).k=.slice j-> ∀w,(Op.equal t (.slice (a6 s) n m) (.slice a7 0 0)).run P w=.ok false w:=fun j e w=>by
      have p:P.underlying t=a6 (.slice j):=by
       obtain⟨d,p,A⟩:=hT.und hk;rw[e]at A;cases d<;>simp[kM]at A;rw[p,A]
      show(Op.equalIn (9999+1) t (.slice (a6 s) n m) (.slice a7 0 0)).run P w=_;unfold Op.equalIn;rw[Sem.run_bind,run_underlying p,Result.andThen_ok];rfl
     split at h
     .exact⟨_,_,h,by simp only[bU];exact VD.bool_mk,fun w=>by simp_all [binOp]⟩
     .exact⟨_,_,h,by simp only[bU];exact VD.bool_mk,fun w=>by simp_all [binOp]⟩
     .cases h
    .cases f
   .cases f
  .cases f
 .rw[cond_eq_ite]at h;split at h
  .rename_i f
   unfold avm at f;split at f
   .split at f
    .split at f
     .rename_i id B y0 J M bt cs W
      simp only[bU]at hx l;subst l;have E:=hx.2.2 _ _ W;subst E;obtain⟨hk,h⟩:=dG h;have U: ∀w,(eqGuard i t ox oy (.pointer (a6 ⟨(c.mu id).blk,B,a7⟩)) (.pointer a7)).run P w=.ok () w:=fun w=>mi i t ox oy _ _ w rfl (by simp);have V: ∀j,(T.at t).k=.ptr j-> ∀w,(Op.equal t (.pointer (a6 ⟨(c.mu id).blk,B,a7⟩)) (.pointer a7)).run P w=.ok false w:=fun j e w=>by
       have p:=hT.ptr hk e;show(Op.equalIn (9999+1) t (.pointer (a6 ⟨(c.mu id).blk,B,a7⟩)) (.pointer a7)).run P w=_;unfold Op.equalIn;simp_all [run_underlying]
      split at h
      .exact⟨_,_,h,by simp only[bU];exact VD.bool_mk,fun w=>by simp_all [binOp]⟩
      .exact⟨_,_,h,by simp only[bU];exact VD.bool_mk,fun w=>by simp_all [binOp]⟩
      .cases h
     .cases f
    .cases f
   .cases f
  .exact aIC hT h hx l
theorem aID {d:UnOp} {x:bQ} {v:Value} {K:bQ->Option R} (h:asf d x K=a6 r) (hx:bU c x v):
  ∃z u,K z=a6 r/\bU c z u/\ ∀w,(Op.unary d v).run P w=.ok u w:=by
 unfold asf at h;split at h
 .simp only[bU]at hx;obtain rfl:=hx.bool_inv;exact⟨_,_,h,by simp only[bU];exact VD.bool_mk,fun w=>rfl⟩
 .simp only[bU]at hx;obtain rfl:=hx.int_inv;exact⟨_,_,h,by simp only[bU];exact VD.int_mk,fun w=>by rfl⟩
 .cases h
end
end
section
open Option renaming some → a6, none → a7
open Bool renaming and_eq_true → af, false_eq_true → ah
open Nat renaming le_refl → ae
open Go.RowKit
section
variable {P:Program} {T:TT} {W0:World} {c:Cx} {R:Type} {r:R} {t:TypeId}
theorem rW {v:bQ} {n:Int} (h:intOf v=a6 n) {u:Value} (d:bU c v u): ∃k,u=.int k n:=by
 cases v with
 |val t x=>
  cases t<;>simp only[intOf,reduceCtorEq]at h;cases h;simp only[bU]at d;exact⟨_,d.int_inv⟩
 |_=>simp[intOf]at h
def lL (c:Cx):Option bQ->Option Value->Prop
 |none,a7=>True
 |some v,a6 u=>bU c v u
 |_,_=>False
theorem lL.map {fr:List bQ} {a:Act} (h:bJ c fr a.tmps.toList) (x:Option Operand):lL c (x.map (gY fr)) (x.map a.eval):=by
 cases x with
 |none=>trivial
 |some x=>exact dR h x
theorem lL.none_inv {u:Option Value} (h:lL c a7 u):u=a7:=by
 cases u with
 |none=>rfl
 |some _=>exact h.elim
theorem oH {d l:Int} {x:Option bQ} {u:Option Value} (h:bound d x=a6 l) (hr:lL c x u):(u=a7/\l=d)\/ ∃k,u=a6 (.int k l):=by
 cases x with
 |none=>
  cases u with
  |none=>simp only[bound,Option.some.injEq]at h;simp_all
  |some _=>exact hr.elim
 |some x=>
  cases u with
  |none=>exact hr.elim
  |some u=>
   obtain⟨k,rfl⟩:=rW h hr;simp
theorem ql {w:World} {isS:Bool} {n cap:Nat} {l h:Int} {lo hi:Option Value} (hl:(lo=a7/\l=0)\/ ∃k,lo=a6 (.int k l)) (d:(hi=a7/\h=(n:Int))\/ ∃k,hi=a6 (.int k h))
  (h0:0<=l) (g:l<=h) (h2:h<=(n:Int)) (i:n<=cap):(Instr.sliceBounds isS n cap lo hi a7).run P w=.ok (l.toNat,h.toNat,cap) w:=by
 have e: ∀k code,(Instr.sliceBound (.int k h) cap code).run P w=.ok h.toNat w:=fun k code=>by
  simp only[Instr.sliceBound,asIntOf,Sem.run_bind,Sem.run_pure,Result.andThen_ok];rw[am ⟨by omega,by omega⟩];rfl
 have f: ∀k code,(Instr.sliceBound (.int k l) h.toNat code).run P w=.ok l.toNat w:=fun k code=>by
  simp only[Instr.sliceBound,asIntOf,Sem.run_bind,Sem.run_pure,Result.andThen_ok];rw[am ⟨by omega,by omega⟩];rfl
 rcases hl with ⟨rfl,rfl⟩|⟨k,rfl⟩<;>rcases d with ⟨rfl,rfl⟩|⟨j,rfl⟩<;>simp[Instr.sliceBounds,Sem.run_bind,e,f]
 simp_all
theorem Nz {w:World} {n cap:Nat} {lo:Option Value} {q k:IntKind} (hl:(lo=a7/\(0:Int)=0)\/ ∃k,lo=a6 (.int k 0)):
  (Instr.sliceBounds true n cap lo (a6 (.int q 0)) (a6 (.int k 0))).run P w=.ok (0,0,0) w:=by
 have d: ∀k c code,(Instr.sliceBound (.int k 0) c code).run P w=.ok 0 w:=fun k c code=>by
  rfl
 rcases hl with ⟨rfl,_⟩|⟨e,rfl⟩<;>simp[Instr.sliceBounds,Sem.run_bind,d]
theorem IL {n lo hi:Int} (h:fE n lo hi=true):0<=lo/\lo<=hi/\hi<=n:=by
 simp_all [fE]
theorem I4 {d:Type} (l:List d) {lo hi:Int} (e:0<=lo) (h2:lo<=hi) (f:hi<=(l.length:Int)):(sub l lo hi).length=hi.toNat-lo.toNat:=by
 grind [sub]
theorem qW {e:Ty} {xs:List e.den} {v:Value} (h:VD c (.list e) xs v): ∃a n d,v=.slice a xs.length n/\xs.length<=n/\fP (eY c.w c.free e) e.size xs d/\(d=[]\/ ∃b off,a=a6 ⟨b,off,a7⟩/\c.free b/\gW c.w b off d):=by
 obtain⟨a,n,d,f,g,i,j⟩:=h.2 rfl
 grind
theorem VD.sub_list {e:Ty} {xs:List e.den} {a:Option Addr} {n:Nat} {d:List Value} (h2:xs.length<=n) (g:fP (eY c.w c.free e) e.size xs d) (f:d=[]\/ ∃b off,a=a6 ⟨b,off,a7⟩/\c.free b/\gW c.w b off d)
  {l h:Int} (i:0<=l) (j:l<=h) (o:h<=(xs.length:Int)):
  VD c (.list e) (sub xs l h) (.slice (if n=l.toNat then a else a.map (·.add (l.toNat*e.size))) (h.toNat-l.toNat) (n-l.toNat)):=by
 refine(VD.leaf rfl).2 ⟨_,_,(d.take (h.toNat*e.size)).drop (l.toNat*e.size),by rw[I4 xs i j o],by grind [I4],fP.drop _ _ _ (fP.take _ _ _ g), ?_⟩;by_cases hn:n=l.toNat
 .grind
 .rw[aq hn];rcases f with f|⟨b,off,p,q,s⟩
  .left;rw[f];simp
  .right;refine⟨b,off+l.toNat*e.size,by rw[p];simp[jY],q, ?_⟩;have:=s.sub (l.toNat*e.size) (h.toNat*e.size-l.toNat*e.size)
   grind [List.drop_take]
theorem ak5 (hT:TOk P T) (ab:c.Ok W0) {x:bQ} {v:Value} {lo hi X:Option bQ} {Y O y:Option Value} {K:bQ->Option R} (h:JA T c.hp t x lo hi X K=a6 r) (hx:bU c x v)
  (I:lL c lo Y) (E:lL c hi O) (G:lL c X y): ∃z u,K z=a6 r/\bU c z u/\ ∀w,(Instr.sliceAt t v Y O y).run P w=.ok u w:=by
 unfold JA at h;split at h
 .rename_i s
  split at h
  .rename_i l p hl f
   replace h:=gy h;obtain⟨d,h⟩:=h;simp only[af]at d;obtain⟨A,B,i⟩:=IL d.2;simp only[bU]at hx;obtain rfl:=hx.str_inv;have D:y=a7:=lL.none_inv G;subst D;have j:=Ff hT d.1;refine⟨_,.string ⟨(sub s l p).toArray⟩,h,by simp only[bU];exact VD.str_mk,fun w=> ?_⟩;have hs:(⟨s.toArray⟩:ByteArray).size=s.length:=by rfl
   have o:=ql (P:=P) (w:=w) (isS:=false) (cap:=s.length) (oH hl I) (oH f E) A B i (ae _);have he:(⟨s.toArray⟩:ByteArray).extract l.toNat p.toNat=⟨(sub s l p).toArray⟩:=by
    apply ByteArray.ext;simp_all [sub,List.drop_take]
   simp only[Instr.sliceAt,Instr.slice,Sem.run_bind,run_underlying j,Result.andThen_ok,Option.isSome_none,ah,if_false,hs,o,Sem.run_pure,he]
  .cases h
 .rename_i e xs
  split at h
  .rename_i l p hl f
   replace h:=gy h;obtain⟨d,h⟩:=h;simp only[af]at d;obtain⟨A,B,i⟩:=IL d.2;simp only[bI]at i;simp only[bU]at hx;obtain⟨a,n,Z,rfl,S,h3,h4⟩:=qW hx;have D:y=a7:=lL.none_inv G;subst D;obtain⟨U,j,hk,M,_,_⟩:=lS hT d.1;refine⟨_,_,h,by simp only[bU];exact VD.sub_list S h3 h4 A B i,fun w=> ?_⟩;have o:=ql (P:=P) (w:=w) (isS:=true) (n:=xs.length) (cap:=n) (oH hl I) (oH f E) A B i S;simp only[Instr.sliceAt,Instr.slice,Sem.run_bind,run_underlying j,Result.andThen_ok,o,hT.sizeOf hk w,Sem.run_pure,M]
  .cases h
 .rename_i e xs mv
  split at h
  .rename_i l p k hl f ad
   replace h:=gy h;obtain⟨d,h⟩:=h;simp only[af,beq_iff_eq]at d;obtain⟨d,rfl,rfl,rfl⟩:=d;simp only[bU]at hx;obtain⟨a,n,Z,rfl,S,h3,h4⟩:=qW hx;obtain⟨U,j,hk,M,_,_⟩:=lS hT d;obtain⟨N,rfl,ag⟩:=Option.bind_eq_some_iff.1 f;cases hmx':y with
   |none=>simp_all [lL]
   |some m2=>
    rw[hmx']at G;cases hhi':O with
    |none=>simp_all [lL]
    |some ai=>
     rw[hhi']at E;obtain⟨q,rfl⟩:=rW ag (show bU c N ai from E);obtain⟨k',rfl⟩:=rW ad (show bU c mv m2 from G);refine⟨_,.slice a 0 0,h,by simp only[bU];exact⟨a,rfl⟩,fun w=> ?_⟩;have o:=Nz (P:=P) (w:=w) (n:=xs.length) (cap:=n) (q:=q) (k:=k') (oH hl I);simp only[Instr.sliceAt,Instr.slice,Sem.run_bind,run_underlying j,Result.andThen_ok,o,hT.sizeOf hk w,Sem.run_pure];simp
  .cases h
 .split at h
  .rename_i l p hl f
   replace h:=gy h;obtain⟨d,h⟩:=h;simp only[af,bP,beq_iff_eq]at d;obtain⟨d,rfl,rfl⟩:=d;simp only[bU]at hx;subst hx;have D:y=a7:=lL.none_inv G;subst D;obtain⟨U,j,hk,M,_,_⟩:=lS hT d;refine⟨_,.slice a7 0 0,h,by simp only[bU],fun w=> ?_⟩;have o:=ql (P:=P) (w:=w) (isS:=true) (n:=0) (cap:=0) (oH hl I) (oH f E) (Int.le_refl _) (Int.le_refl _) (Int.le_refl _) (ae _);simp only[Instr.sliceAt,Instr.slice,Sem.run_bind,run_underlying j,Result.andThen_ok,o,hT.sizeOf hk w,Sem.run_pure];simp
  .cases h
 .rename_i id aj
  split at h
  .rename_i e u xs V
   replace h:=dG h;obtain⟨h0,h⟩:=h;have h0:u=aj:=by simpa using h0
   subst h0;split at h
   .rename_i l p hl f
    replace h:=gy h;obtain⟨d,h⟩:=h;simp only[af]at d;obtain⟨A,B,i⟩:=IL d.2;simp only[bI]at i;simp only[bU]at hx;have W:=(hx.2.2 _ _ _ V).2 rfl;simp only[ja]at W;have D:y=a7:=lL.none_inv G;subst D;obtain⟨U,j,hk,M,_,_⟩:=lS hT d.1;obtain⟨_,e',Z,ak,hL,al⟩:=ab.obj id _ V;obtain⟨a,n,N,hn⟩: ∃a n,(c.mu id).v=.slice a xs.length n/\xs.length<=n:=by
     rcases ak.2 with ⟨e1,e2⟩|⟨g,J,an,e1,_,_,e2,_⟩
     all_goals grind
    rw[N]at W;subst W;refine⟨_,.slice (if n=l.toNat then a else a.map (·.add (l.toNat*e.size))) (p.toNat-l.toNat) (n-l.toNat),h, ?_,fun w=> ?_⟩
    .simp only[bU];refine⟨rfl,hx.2.1,fun t' u' ao h'=> ?_⟩;rw[V]at h';cases h';exact⟨ae _,fun _=>⟨a,xs.length,n,N,A,B,i,rfl⟩⟩
    .have o:=ql (P:=P) (w:=w) (isS:=true) (n:=xs.length) (cap:=n) (oH hl I) (oH f E) A B i hn;simp only[Instr.sliceAt,Instr.slice,Sem.run_bind,run_underlying j,Result.andThen_ok,o,hT.sizeOf hk w,Sem.run_pure,M]
   .cases h
  .cases h
 .cases h
end
end
section
open Option renaming some → a6, none → a7
open Bool renaming and_eq_true → af
open List renaming append_assoc → ag, map_cons → ax, length_cons → aH, nil_append → aO, drop_of_length_le → aQ, foldl_cons → aU, mem_of_mem_take → bg
open Go.RowKit
section
variable {P:Program} {T:TT} {W0:World} {c:Cx} {R:Type} {r:R} {t:TypeId}
theorem Tf {d:Type} {l:List d} {i:Int} (h:fD l i=true):0<=i/\i<(l.length:Int)/\i.toNat<l.length:=by
 simp_all [fD]
theorem ayI {e:Type} {l:List e} {d:e} {i:Int} (h:i.toNat<l.length):dw l d i=l[i.toNat]:=by grind [dw]
theorem Cm (hT:TOk P T) {e:TypeId} (d:P.underlying t=a6 (.slice e)) (hk:(T.at e).known=true) (w:World) (a:Addr) (n cp:Nat) (k:IntKind) (i:Int) (h0:0<=i) (f:i<(n:Int)):
  (Instr.indexAt t (.slice (a6 a) n cp) (.int k i)).run P w=.ok (.pointer (a6 (a.add (i.toNat*(T.at e).size)))) w:=by
 simp only[Instr.indexAt,asIntOf,Sem.run_bind,Sem.run_pure,Result.andThen_ok,run_underlying d];rw[am ⟨h0,f⟩];simp[Sem.run_bind,hT.sizeOf hk w]
theorem O3 (hT:TOk P T) (O:c.Ok W0) {x i:bQ} {v E:Value} {K:bQ->Option R} (h:ut T c.hp t x i K=a6 r) (hx:bU c x v) (hi:bU c i E):
  ∃z u,K z=a6 r/\bU c z u/\ ∀w,(Instr.indexAt t v E).run P w=.ok u w:=by
 unfold ut at h;split at h
 .cases h
 rename_i n S
 obtain⟨k,rfl⟩:=rW S hi;split at h
 .rename_i e xs
  replace h:=gy h;obtain⟨f,h⟩:=h;simp only[af]at f;obtain⟨q,s,y⟩:=Tf f.2;simp only[bU]at hx;obtain⟨a,cp,A,rfl,h2,U,B⟩:=qW hx;obtain⟨G,l,hk,o,I,_⟩:=lS hT f.1;obtain⟨d,d1,V,l1,l2,d3,d4⟩:=fP.at_ n.toNat xs A y U;have W:A≠[]:=by
   intro e0;simp_all
  rcases B with B|⟨b,X,Y,Z,h7⟩
  .exact absurd B W
  .refine⟨_,.pointer (a6 ⟨b,X+n.toNat*e.size,a7⟩),h, ?_,fun w=> ?_⟩
   .simp only[bU];refine⟨b,_,d,rfl,Z, ?_,by rw[ayI y];exact V⟩;simp_all [gW.append]
   .rw[Y,Cm hT l hk w _ _ _ _ _ q s,o,jY]
 .rename_i id ab vw
  split at h
  .rename_i e u xs J
   replace h:=dG h;obtain⟨h0,h⟩:=h;have h0:u=ab:=by simpa using h0
   subst h0;simp only[bU]at hx;have j:=(hx.2.2 _ _ _ J).2 rfl;obtain⟨_,e',A,M,hL,ai⟩:=O.obj id _ J;split at h
   .replace h:=gy h;obtain⟨f,h⟩:=h;simp only[af]at f;obtain⟨q,s,y⟩:=Tf f.2;obtain⟨G,l,hk,o,I,_⟩:=lS hT f.1;simp only[ja]at j;rcases M.2 with ⟨p,D⟩|⟨g,ad,ae,p,_,_,D,_⟩
    .omega
    .rw[p]at j;subst j;refine⟨_,.pointer (a6 ⟨g,n.toNat*e.size,a7⟩),h, ?_,fun w=> ?_⟩
     .simp only[bU];refine⟨rfl,hx.2.1,fun t' u' ah h'=> ?_⟩;simp_all
     .rw[Cm hT l hk w _ _ _ _ _ q s,o,jY,Nat.zero_add]
   .rename_i lo aj
    replace h:=gy h;obtain⟨f,h⟩:=h;simp only[af,decide_eq_true_eq,gV]at f;obtain⟨G,l,hk,o,I,_⟩:=lS hT f.1;simp only[ja]at j;obtain⟨a,m,cp,N,q1,q2,q3,j⟩:=j;rcases M.2 with ⟨p,D⟩|⟨g,ad,ae,p,_,_,D,_⟩
    .grind
    .rw[p]at N;cases N;rw[aq (by omega)]at j;subst j;refine⟨_,.pointer (a6 ⟨g,(lo+n).toNat*e.size,a7⟩),h, ?_,fun w=> ?_⟩
     .simp only[bU];refine⟨rfl,hx.2.1,fun t' u' ah h'=> ?_⟩;simp_all
     .simp only[Option.map_some];rw[Cm hT l hk w _ _ _ _ _ f.2.1 (by omega),o,jY,jY,Nat.zero_add,<-Nat.add_mul]
      grind
  .cases h
 .cases h
theorem ak4 (hT:TOk P T) {i:bQ} {s:List UInt8} {n:Int} {v d:Value} (hx:bU c (.val .str s) v) (hi:bU c i d) (e:intOf i=a6 n) (h:(T.isStr t&&fD s n)=true):
  bU c (.val (.int .u8) (bY s n)) (.int .u8 (bY s n))/\ ∀w,(Instr.index t v d).run P w=.ok (.int .u8 (bY s n)) w:=by
 simp only[af]at h;obtain⟨f,l,o⟩:=Tf h.2;simp only[bU]at hx;obtain rfl:=hx.str_inv;obtain⟨k,rfl⟩:=rW e hi;have g:=Ff hT h.1;refine⟨by simp only[bU];exact VD.int_mk,fun w=> ?_⟩;have j:(⟨s.toArray⟩:ByteArray)[n.toNat]? =a6 s[n.toNat]:=by
  have:n.toNat<(⟨s.toArray⟩:ByteArray).size:=by assumption
  rw[getElem?_pos (⟨s.toArray⟩:ByteArray) n.toNat this];rfl
 simp only[Instr.index,asIntOf,Sem.run_bind,Sem.run_pure,Result.andThen_ok,run_underlying g,am f,j]
 grind [bY]
theorem Bj (hT:TOk P T) {f off:Nat} {d:TypeId} (h:T.fieldAt t f=a6 (off,d)): ∃e g i,(T.at t).k=.struct e/\e[f]? =a6 (off,d)/\(T.at t).known=true/\(T.at d).known=true/\0<(T.at d).size/\
  P.underlying t=a6 (.struct g)/\g[f]? =a6 i/\i.offset=off/\i.type=d:=by
 unfold TT.fieldAt at h;split at h
 .rename_i e j
  replace h:=dG h;obtain⟨hk,h⟩:=h;split at h
  .rename_i o q s
   replace h:=dG h;obtain⟨l,p⟩:=h;cases p;simp only[af,PG,decide_eq_true_eq]at l;obtain⟨g,u,v⟩:=hT.struct hk j
   grind
  .cases h
 .cases h
theorem LY (hT:TOk P T): ∀(j:List (Nat×TypeId)) (o:Nat) (y:Ty),jG T o j=a6 y-> ∀(f off:Nat) (e:TypeId),j[f]? =a6 (off,e)-> ∀(x:y.den) (cs:List Value),eY c.w c.free y x cs->
  ∃(a:Ty) (z:a.den) (g i q:List Value),Yy y x f=.val a z/\Sm y x f=.cellp a z/\(T.at e).ty=a6 a/\a.size=(T.at e).size/\cs=g++i++q/\o+g.length=off/\eY c.w c.free a z i
 |[],_,_,_,f,_,_,h,_,_,_=>by simp at h
 |(U,V)::j,o,y,d,f,off,e,l,x,cs,hd=>by
  simp only[jG]at d;split at d
  .rename_i W
   split at d
   .rename_i a s
    split at d
    .rename_i u
     split at d
     .rename_i b v
      cases d;obtain⟨g,i,p,A,B⟩:=hd;cases f with
      |zero=>
       simp only[List.getElem?_cons_zero,Option.some.injEq,Prod.mk.injEq]at l;obtain⟨rfl,rfl⟩:=l;exact⟨a,x.1,[],g,i,rfl,rfl,s,u.1,by simpa using p,by simp;omega,A⟩
      |succ f=>
       simp only[List.getElem?_cons_succ]at l;obtain⟨D,z,E,G,I,J,K,M,N,O,X,S⟩:=LY hT j (o+a.size) b v f off e l x.2 i B;refine⟨D,z,g++E,G,I,J,K,M,N,by rw[p,O];simp, ?_,S⟩
       grind [eY.length]
     .cases d
    .cases d
   .cases d
  .cases d
theorem Cj (hT:TOk P T) {f off:Nat} {e:TypeId} (h:T.fieldAt t f=a6 (off,e)) (w:World) (b o:Nat):
  (Instr.fieldAt t (.pointer (a6 ⟨b,o,a7⟩)) f).run P w=.ok (.pointer (a6 ⟨b,o+off,a7⟩)) w:=by
 obtain⟨s,u,g,v,x,hk,i,y,j,l,p,d⟩:=Bj hT h;have q:=hT.sizeOf (t:=g.type) (by rw[d];exact i) w;simp only[Instr.fieldAt,Sem.run_bind,run_underlying j,Result.andThen_ok,l,Instr.sureAddr,Sem.run_pure,fieldPlace,q,Sem.run_ite];rw[aq (by rw[d];omega)];simp[jY,p]
theorem XR (hT:TOk P T) (hk:(T.at t).known=true) {e:List (Nat×TypeId)} (f:(T.at t).k=.struct e) {y:Ty} (g:(T.at t).ty=a6 y):jG T 0 e=a6 y:=by
 rcases(hT t hk).2.2.1 with d|d
 .simp_all
 .rw[g,f]at d;exact d.symm
theorem O1 (hT:TOk P T) {x:bQ} {f:Nat} {v:Value} {K:bQ->Option R} (h:uq T c.hp t x f K=a6 r) (hx:bU c x v):
  ∃z u,K z=a6 r/\bU c z u/\ ∀w,(Instr.fieldAt t v f).run P w=.ok u w:=by
 unfold uq at h;split at h
 .rename_i d s j
  obtain⟨A,O,S,B,D,hk,U,V,W,X,Y,Z⟩:=Bj hT j;split at h
  .rename_i u y
   split at h
   .rename_i E G
    split at h
    .rename_i z l
     have e:=iy l;subst e;rw[fV]at l;cases l;simp only[bU]at hx;obtain⟨b,o,zs,rfl,hb,p,hd⟩:=hx;obtain⟨a,z,l1,l2,l3,g1,g2,g3,g4,g5,g6,g7⟩:=LY hT A 0 u (XR hT hk B G) f d s D _ _ hd;refine⟨_,.pointer (a6 ⟨b,o+d,a7⟩),h, ?_,fun w=>Cj hT j w b o⟩;rw[g2];simp only[bU];rw[g5,ag]at p;have:=(gW.append.1 (gW.append.1 p).2).1
     grind
    .cases h
   .cases h
  .rename_i id o
   split at h
   .rename_i bt cs I
    simp only[bU]at hx;have q:=hx.2.2 _ _ I;subst q;refine⟨_,.pointer (a6 ⟨(c.mu id).blk,o+d,a7⟩),h, ?_,fun w=>Cj hT j w _ o⟩;simp only[bU];exact⟨rfl,hx.2.1,fun _ _ _=>trivial⟩
   .cases h
  .rename_i id J i o
   split at h
   .rename_i e u xs M
    replace h:=dG h;obtain⟨h0,h⟩:=h;have h0:u=J:=by simpa using h0
    subst h0;simp only[bU]at hx;obtain⟨g,n,cp,q,N⟩:=(hx.2.2 _ _ _ M).2 rfl;subst N;refine⟨_,.pointer (a6 ⟨g,i*e.size+o+d,a7⟩),h, ?_,fun w=>Cj hT j w _ _⟩;simp only[bU];refine⟨rfl,hx.2.1,fun t' E ab h'=> ?_⟩
    grind
   .cases h
  .cases h
 .cases h
theorem ak3 (hT:TOk P T) {x:bQ} {f:Nat} {v:Value} {K:bQ->Option R} (h:Jy T t x f K=a6 r) (hx:bU c x v):
  ∃z u,K z=a6 r/\bU c z u/\ ∀w,(Instr.field t v f).run P w=.ok u w:=by
 unfold Jy at h;split at h
 .rename_i g d I
  obtain⟨J,Y,p,q,M,hk,i,Z,j,N,e1,O⟩:=Bj hT I;have S:(T.at t).isAgg=true:=by simp[TI.isAgg,q]
  split at h
  .rename_i u y
   split at h
   .rename_i u' s
    split at h
    .rename_i z o
     have e:=iy o;subst e;rw[fV]at o;cases o;simp only[bU]at hx;have A:=hT.ty_agg hk s;rw[S]at A;obtain⟨cs,rfl,hd⟩:=(VD.agg A).1 hx;obtain⟨a,z,l1,U,l3,g1,g2,g3,g4,g5,g6,V⟩:=LY hT J 0 u (XR hT hk q s) f g d M _ _ hd;refine⟨_,valOf (T.at d).isAgg U,h, ?_,fun w=> ?_⟩
     .grind [bU,afA]
     .have ab:=eY.length _ _ _ V;have B:g+(T.at d).size<=cs.size:=by
       have:=congrArg List.length g5;simp at this;omega
      have D:=KE (P:=P) hT (t:=p.type) (by rw[O];exact i) w cs p.offset (by simp_all);simp only[Instr.field,Sem.run_bind,run_underlying j,Result.andThen_ok,N,asAgg,Sem.run_pure,D];simp_all
    .cases h
   .cases h
  .rename_i l
   split at h
   .rename_i ad W
    obtain⟨q1,rfl⟩:=Bf W;simp only[bU]at hx;obtain⟨E,rfl,G,X⟩:=hx;have B:=bJ.length _ _ G;simp at B;refine⟨_,valOf (T.at d).isAgg ((E.toList.drop g).take (T.at d).size),h,Kv hT i (bJ.take _ _ _ (bJ.drop _ _ _ G)) (fun u j=>X u (List.mem_of_mem_drop (bg j))),fun w=> ?_⟩;have D:=KE (P:=P) hT i w E g (by omega);simp_all [Instr.field,run_underlying,asAgg]
   .cases h
  .cases h
 .cases h
theorem q_len (hT:TOk P T) (q:c.Ok W0) {x:bQ} {v:Value} {K:bQ->Option R} (h:ac6 T c.hp t x K=a6 r) (hx:bU c x v) {ty:TypeId}:
  ∃z u,K z=a6 r/\bU c z u/\ ∀w,(Builtin.len_ #[t] ty #[v]).run P w=.ok u w:=by
 unfold ac6 at h;split at h
 .rename_i s
  replace h:=gy h;obtain⟨f,h⟩:=h;simp only[bU]at hx;obtain rfl:=hx.str_inv;have d:=Ff hT f;refine⟨_,_,h,by simp only[bU];exact VD.int_mk,fun w=> ?_⟩;simp only[Builtin.len_,List.getElem?_toArray,List.getElem?_cons_zero,Sem.run_bind,run_underlying d,Result.andThen_ok,Sem.run_pure,goInt];congr 2
 .rename_i e xs
  replace h:=gy h;obtain⟨f,h⟩:=h;simp only[bU]at hx;obtain⟨a,cp,y,rfl,I,J,M⟩:=qW hx;obtain⟨j,d,hk,l,o,_⟩:=lS hT f;exact⟨_,_,h,by simp only[bU];exact VD.int_mk,fun w=>by simp[Builtin.len_,run_underlying d,goInt,bI]⟩
 .replace h:=gy h;obtain⟨f,h⟩:=h;simp only[bU]at hx;subst hx;obtain⟨j,d,hk,l,o,_⟩:=lS hT f;exact⟨_,_,h,by simp only[bU];exact VD.int_mk,fun w=>by simp[Builtin.len_,run_underlying d,goInt]⟩
 .rename_i id A N
  split at h
  .rename_i e u xs p
   replace h:=dG h;obtain⟨h0,h⟩:=h;have h0:u=A:=by simpa using h0
   subst h0;replace h:=gy h;obtain⟨f,h⟩:=h;obtain⟨j,d,hk,l,o,_⟩:=lS hT f;simp only[bU]at hx;have i:=(hx.2.2 _ _ _ p).2 rfl;obtain⟨_,O,y,B,hL,S⟩:=q.obj id _ p;obtain⟨a,n,D,U⟩: ∃a n,(c.mu id).v=.slice a xs.length n/\xs.length<=n:=by
    rcases B.2 with ⟨E,G⟩|⟨g,V,W,E,_,_,G,_⟩
    all_goals grind
   split at h
   .simp only[ja]at i;rw[D]at i;subst i;exact⟨_,_,h,by simp only[bU];exact VD.int_mk,fun w=>by simp[Builtin.len_,run_underlying d,goInt,bI]⟩
   .rename_i lo X
    simp only[ja]at i;obtain⟨Y,m,cp,Z,q1,q2,q3,i⟩:=i;subst i;refine⟨_,_,h,by simp only[bU];exact VD.int_mk,fun w=> ?_⟩;simp only[Builtin.len_,List.getElem?_toArray,List.getElem?_cons_zero,Sem.run_bind,run_underlying d,Result.andThen_ok,Sem.run_pure,goInt]
    grind
  .cases h
 .cases h
theorem uf {k:IntKind}: ∀(l:List bQ) (e:List Int) (us:List Value),AY k l=a6 e->bJ c l us->us=e.map (.int k)
 |[],e,us,h,d=>by
  grind [AY,bJ]
 |v::l,e,us,h,d=>by
  cases us with
  |nil=>simp[bJ]at d
  |cons u us=>
   simp only[bJ]at d;cases v with
   |val t x=>
    cases t<;>simp only[AY,reduceCtorEq]at h
    rename_i i
    split at h
    .rename_i hk
     subst hk;split at h
     .rename_i m g
      cases h;have f:=d.1;simp only[bU]at f;rw[f.int_inv,uf l m us g d.2];rfl
     .cases h
    .cases h
   |_=>simp[AY]at h
theorem UE (w:World) (k:IntKind): ∀(d:List Int) (a:Int),((d.map (Value.int k)).foldlM Builtin.min2 (.int k a)).run P w=.ok (.int k (d.foldl Iz a)) w
 |[],a=>rfl
 |n::d,a=>by
  simp only[ax,List.foldlM_cons,aU,Sem.run_bind,Builtin.min2,Sem.run_pure,Result.andThen_ok];exact UE w k d (Iz a n)
theorem UD (w:World) (k:IntKind): ∀(d:List Int) (a:Int),((d.map (Value.int k)).foldlM Builtin.max2 (.int k a)).run P w=.ok (.int k (d.foldl BM a)) w
 |[],a=>rfl
 |n::d,a=>by
  simp only[ax,List.foldlM_cons,aU,Sem.run_bind,Builtin.max2,Sem.run_pure,Result.andThen_ok];exact UD w k d (BM a n)
theorem adx (off:Nat): ∀(us:List Value) (k:Nat) (d:List Value),off+k+us.length<=d.length->
  (us.zipIdx k).foldl (fun cs p=>Array.setIfInBounds cs (off+p.2) p.1) d.toArray=(d.take (off+k)++us++d.drop (off+k+us.length)).toArray
 |[],k,d,h=>by simp
 |u::us,k,d,h=>by
  simp only[aH]at h;have e:=adx off us (k+1) (d.set (off+k) u) (by simp;omega);simp only[List.zipIdx_cons,aU];rw[show Array.setIfInBounds d.toArray (off+k) u=(d.set (off+k) u).toArray by simp,e];congr 1;have f:off+k<d.length:=by omega
  rw[List.set_eq_take_append_cons_drop,am f];have g: ∀(A B:List Value) (n m:Nat),A.length=n->(A++u::B).take (n+1)=A++[u]/\(A++u::B).drop (n+1+m)=B.drop m:=by
   intro A B n m i;constructor
   .grind
   .rw[List.drop_append,aQ (by omega),i,aO,show n+1+m-n=m+1 by omega];rfl
  obtain⟨j,l⟩:=g (d.take (off+k)) (d.drop (off+k+1)) (off+k) us.length (by simp;omega);rw[show off+(k+1)=off+k+1 by omega,j,l];simp;congr 1;omega
theorem JI (off:Nat) (us:Array Value) (d:List Value) (h:off+us.size<=d.length):
  us.zipIdx.foldl (fun cs p=>Array.setIfInBounds cs (off+p.2) p.1) d.toArray=(d.take off++us.toList++d.drop (off+us.size)).toArray:=by
 rw[<-Array.foldl_toList,Array.toList_zipIdx];simp_all [adx]
theorem ac8 (hT:TOk P T) {y:List (Nat×TypeId)} {place:Nat->Option (Nat×Nat)} (hp: ∀i off q,y[i]? =a6 (off,q)->(T.at q).known=true->place i=a6 (off,(T.at q).size)):
  ∀(j:List (Nat×bQ)) (us:List (Nat×Value)) (cs l:List bQ) (d:List Value),Jw T y cs j=a6 l->bJ c cs d->(∀u∈d,u.oneCell'=true)->
   us.map (·.1)=j.map (·.1)->bJ c (j.map (·.2)) (us.map (·.2))-> ∃o,Instr.fill place d.toArray us=a6 o.toArray/\bJ c l o/\ ∀u∈o,u.oneCell'=true
 |[],us,cs,l,d,h,p,z,e,_=>by
  simp only[Jw,Option.some.injEq]at h;subst h;cases us with
  |nil=>exact⟨d,rfl,p,z⟩
  |cons=>simp at e
 |(i,v)::j,us,cs,l,d,h,p,z,e,s=>by
  cases us with
  |nil=>simp at e
  |cons u us=>
   obtain⟨K,u⟩:=u;simp only[ax,List.cons.injEq]at e;obtain⟨rfl,e⟩:=e;simp only[ax,bJ]at s;simp only[Jw]at h;split at h
   .rename_i off q f D E
    replace h:=dG h;obtain⟨hk,h⟩:=h;simp only[af,beq_iff_eq]at hk;split at h
    .rename_i M g
     have G:=hp _ _ _ D hk.1;obtain⟨A,N⟩:=LJ E s.1;have hl:=bJ.length _ _ A;have O:=bJ.length _ _ p;unfold putCells at g;replace g:=dG g;obtain⟨B,g⟩:=g;have B:off+f.length<=cs.length:=by simpa using B
     cases g;have S:u.cells.size=f.length:=by simpa using hl.symm
     have I:bJ c (cs.take off++f++cs.drop (off+f.length)) (d.take off++u.cells.toList++d.drop (off+f.length)):=
      bJ.append _ _ _ _ (bJ.append _ _ _ _ (bJ.take _ _ _ p) A) (bJ.drop _ _ _ p)
     have J: ∀x∈d.take off++u.cells.toList++d.drop (off+f.length),x.oneCell'=true:=by
      grind
     obtain⟨o,g1,g2,g3⟩:=ac8 hT hp j us _ l _ h I J e s.2;refine⟨o, ?_,g2,g3⟩;rw[<-g1];simp only[Instr.fill,G];rw[aq (by grind)]
     grind [JI]
    .cases h
   .cases h
end
end
section
open Option renaming some → a6, none → a7
open Bool renaming and_eq_true → af, false_eq_true → ah, not_true → au
open List renaming map_cons → ax, nil_append → aO, foldl_cons → aU
open Go.RowKit
section
variable {P:Program} {T:TT} {W0:World} {c:Cx} {R:Type} {r:R} {t:TypeId}
theorem bJ.map_eval {fr:List bQ} {a:Act} (h:bJ c fr a.tmps.toList): ∀(xs:List Operand),bJ c (xs.map (gY fr)) (xs.map a.eval)
 |[]=>by simp[bJ]
 |x::xs=>by simp only[ax,bJ];exact⟨dR h x,bJ.map_eval h xs⟩
theorem F7 {w:World} {B:Nat} {e:TypeId} {size n:Nat} {v:Value} {d:List Value} (h:w.ownsRow B e size v n d): ∃a cp,v=.slice a n cp/\n<=cp/\(d=[]\/ ∃g,a=a6 ⟨g,0,a7⟩/\g<w.heap.size/\B<=g/\gW w g 0 d):=by
 rcases h.2 with ⟨f,i⟩|⟨g,l,p,f,i,j,o,q,s,u⟩
 .refine⟨a7,0,by rw[f,i],by omega,.inl ?_⟩;have:=h.1;simp_all
 .refine⟨_,l,f,o,.inr ⟨g,rfl,(Array.getElem?_eq_some_iff.1 j).1,i, ?_⟩⟩;have:=(gW.of_block_cells j).sub 0 (n*size);simp_all
theorem ry {w:World} {B:Nat} {e:TypeId} {size n:Nat} {v:Value} {d:List Value} (h:w.ownsRow B e size v n d): ∃a cp,v=.slice a n cp/\n<=cp/\(d=[]\/ ∃g,a=a6 ⟨g,0,a7⟩/\g<w.heap.size/\gW w g 0 d):=by
 grind [F7]
theorem UN (y:c.Ok W0) {x:bQ} {e:Ty} {A:List e.den} {u:Value} (h:x.as c.hp (.list e)=a6 A) (hx:bU c x u):
  ∃a cp d,u=.slice a A.length cp/\fP (eY c.w c.free e) e.size A d/\(d=[]\/ ∃b off,a=a6 ⟨b,off,a7⟩/\b<c.w.heap.size/\ ¬c.bar b/\gW c.w b off d):=by
 cases x with
 |val J z=>
  simp only[bQ.as]at h;have e:=iy h;subst e;rw[fV]at h;cases h;simp only[bU]at hx;obtain⟨a,n,d,B,N,D,E⟩:=qW hx;exact⟨a,n,d,B,D,E.imp id fun⟨b,off,f,i,o⟩=>⟨b,off,f,i.1,i.2.2.2,o⟩⟩
 |nils=>
  simp only[bQ.as,Option.some.injEq]at h;subst h;simp only[bU]at hx;exact⟨a7,0,[],hx,rfl,.inl rfl⟩
 |lst J z b=>
  simp only[bQ.as]at h;have e:=iy h;cases e;rw[fV]at h;cases h;simp only[bU]at hx;obtain⟨a,n,d,B,N,D,E⟩:=qW hx.1;exact⟨a,n,d,B,D,E.imp id fun⟨b,off,f,i,o⟩=>⟨b,off,f,i.1,i.2.2.2,o⟩⟩
 |emp=>
  simp only[bQ.as,Option.some.injEq]at h;subst h;simp only[bU]at hx;obtain⟨a,rfl⟩:=hx;exact⟨a,0,[],rfl,rfl,.inl rfl⟩
 |slc id ver O=>
  simp only[bQ.as,Bg]at h;split at h
  .rename_i J v xs s
   replace h:=dG h;obtain⟨j,h⟩:=h;have j:v=ver:=by simpa using j
   subst j;split at h
   .rename_i W G
    have e:=iy G;cases e;rw[fV]at G;cases G;cases h;simp only[bU]at hx;have q:=(hx.2.2 _ _ _ s).2 rfl;obtain⟨_,X,d,S,hL,Y⟩:=y.obj id _ s;obtain⟨a,cp,j,Z,K⟩:=F7 S;cases O with
    |none=>
     simp only[ja]at q;rw[j]at q;exact⟨a,cp,d,q,hL,K.imp (fun h=>h) fun⟨g,f,i,U,o⟩=>⟨g,0,f,i,fun I=>(y.bar _ I).2.1 ⟨id,_,s,by rw[dL.blk,j,f];rfl⟩,o⟩⟩
    |some p=>
     obtain⟨lo,V⟩:=p;simp only[ja]at q;obtain⟨a',m,ab,M,p1,p2,p3,q⟩:=q;rw[j]at M;cases M;refine⟨(if cp=lo.toNat then a else a.map (·.add (lo.toNat*e.size))),cp-lo.toNat,(d.take (V.toNat*e.size)).drop (lo.toNat*e.size), ?_,fP.drop _ _ _ (fP.take _ _ _ hL), ?_⟩
     .simp_all [acy,I4]
     .by_cases hcp:cp=lo.toNat
      .grind
      .rw[aq hcp];rcases K with h0|⟨g,f,i,U,o⟩
       .left;rw[h0];simp
       .right;refine⟨g,0+lo.toNat*e.size,by rw[f];simp[jY],i,fun I=>(y.bar _ I).2.1 ⟨id,_,s,by rw[dL.blk,j,f];rfl⟩, ?_⟩;rw[List.drop_take];exact o.sub _ _
   .cases h
  .cases h
 |agg l=>simp[bQ.as,Ty.isAgg]at h
 |_=>simp[bQ.as]at h
theorem abM (g:c.Ok W0) {x:bQ} {e:Ty} {d:List e.den} {u:Value} (h:x.as c.hp (.list e)=a6 d) (hx:bU c x u):
  ∃a cp f,u=.slice a d.length cp/\fP (eY c.w c.free e) e.size d f/\(f=[]\/ ∃b off,a=a6 ⟨b,off,a7⟩/\b<c.w.heap.size/\gW c.w b off f):=by
 grind [UN]
theorem Io {k:IntKind} {w:World} {fr:Nat->Prop}: ∀(xs:List Int) (e:List Value),fP (eY w fr (.int k)) 1 xs e->e=xs.map (.int k)
 |[],_,h=>by cases h;rfl
 |x::xs,_,⟨d,g,i,l,f,j⟩=>by
  simp only[eY]at f;subst i;subst f;rw[Io xs g j];rfl
theorem L8: ∀(e:List Int) (d:List UInt8),e.foldl (fun r n=>r.push (UInt8.ofNat n.toNat)) (⟨d.toArray⟩:ByteArray)=⟨(d++ofBytes e).toArray⟩
 |[],d=>by simp[ofBytes]
 |n::e,d=>by
  rw[aU];have:(⟨d.toArray⟩:ByteArray).push (UInt8.ofNat n.toNat)=⟨(d++[UInt8.ofNat n.toNat]).toArray⟩:=by
   simp[ByteArray.push]
  rw[this,L8 e];simp[ofBytes]
theorem aoy (hT:TOk P T) (A:c.Ok W0) {s d:TypeId} {x:bQ} {v:Value} {K:bQ->Option R} (h:zM T s d x c.hp K=a6 r) (hx:bU c x v):
  ∃z u,K z=a6 r/\bU c z u/\ ∀w',Gw c w'->(convert s d v).run P w'=.ok u w':=by
 unfold zM at h;cases hk:((T.at s).known&&(T.at d).known)
 .simp_all
 rw[hk]at h;simp only[au,ac]at h;simp only[af]at hk;split at h
 .rename_i k1 k2 k3 n g i
  simp only[bU]at hx;obtain rfl:=hx.int_inv;have l:=hT.int hk.1 g;have o:=hT.int hk.2 i;exact⟨_,_,h,by simp only[bU];exact VD.int_mk,fun w' _=>by simp_all [convert,run_underlying,Conv.intToInt]⟩
 .rename_i str g i
  simp only[bU]at hx;obtain rfl:=hx.str_inv;have l:=hT.str hk.1 g;have o:=hT.str hk.2 i;exact⟨_,_,h,by simp only[bU];exact VD.str_mk,fun w' _=>by simp_all [convert,run_underlying]⟩
 .rename_i e g i
  split at h
  .rename_i B
   split at h
   .rename_i xs D
    replace h:=gy h;obtain⟨E,h⟩:=h;have G:=E;have l:=hT.slice hk.1 g;have o:=hT.str hk.2 i;have p:=hT.int G B;obtain⟨a,cp,f,rfl,hL,I⟩:=abM A D hx;refine⟨_,.string ⟨(ofBytes xs).toArray⟩,h,by simp only[bU];exact VD.str_mk,fun w' J=> ?_⟩;have q:=Io xs f hL;cases hxe:xs with
    |nil=>
     subst hxe;rcases a with _|M
     .simp only[convert,run_underlying l,run_underlying o,run_underlying p,Sem.run_bind,Result.andThen_ok,Conv.bytesToString,Sem.run_pure];rfl
     .rw[run_convert_bytes_string w' s d e _ _ _ l p o,run_bytesToString (P:=P) w' M _ cp [] (by rfl)];rfl
    |cons x0 Y=>
     have N:f≠[]:=by rw[q,hxe];simp
     obtain⟨b,y,rfl,O,S⟩:=I.resolve_left N;have U:=J.cells O S;have Z:(loadCells ⟨b,y,a7⟩ f.length).run P w'=.ok f.toArray w':=run_loadCells_list (P:=P) w' _ f fun j v V=>by
      obtain⟨W,X⟩:=List.getElem?_eq_some_iff.1 V;rw[jY,U j W,X]
     have ab:f.length=xs.length:=by rw[q];simp
     rw[<-hxe,run_convert_bytes_string w' s d e _ _ _ l p o,run_bytesToString (P:=P) w' ⟨b,y,a7⟩ xs.length cp xs (by simp_all)];have:=L8 xs [];simp only[aO]at this;rw[<-this];rfl
   .cases h
  .cases h
 .cases h
theorem He {d e:Type} (f:d->Sem e) (g:d->e) (w:World): ∀(l:List d),(∀x∈l,(f x).run P w=.ok (g x) w)->(l.mapM f).run P w=.ok (l.map g) w
 |[],_=>rfl
 |x::l,h=>by
  simp only[List.mapM_cons,Sem.run_bind,h x (by simp),Result.andThen_ok,He f g w l (fun y i=>h y (by simp[i])),Sem.run_pure,ax]
theorem abG {d e:Type} (f:d->Sem e) (g:d->e) (w:World) (l:Array d) (h: ∀x∈l.toList,(f x).run P w=.ok (g x) w):(l.mapM f).run P w=.ok (l.map g) w:=by
 rw[Array.mapM_eq_mapM_toList,Sem.run_map,He f g w l.toList h];simp only[Result.andThen_ok];congr 1
 grind
def Yd (P:Program) (t:TypeId):Nat:=((P.info? t).map (·.size)).getD 0
theorem Ai (hT:TOk P T) (S:c.Ok W0) {cl:Bool} {call:gz R} {o:Oper} {st:St} {a:Act} {K:bQ->St->Option R} (U:iD o.op=true) (G:c.hp=st.hp) (j:bJ c st.fr a.tmps.toList)
  (h:eF T cl call o st K=a6 r): ∃z u,K z st=a6 r/\bU c z u/\ ∀w',Gw c w'->(execOp a.eval o).run P w'=.ok (.value u) w':=by
 have E: ∀{s:Sem Value} {u:Value} {w':World},s.run P w'=.ok u w'->(do pure (Next.value (<-s)):Sem Next).run P w'=.ok (.value u) w':=fun hs=>by
  simp_all
 obtain⟨aI,op,ty,aJ,aK,aP⟩:=o;simp only at U;cases op<;>simp only[iD,jK,ah]at U
 case move x=>exact⟨_,_,h,dR j x,fun w' _=>rfl⟩
 case assign x=>exact⟨_,_,h,dR j x,fun w' _=>rfl⟩
 case pick x y z=>
  simp only[eF]at h;have hc:=dR j x;split at h
  .rename_i b J
   rw[J]at hc;simp only[bU]at hc;have ai:=hc.bool_inv;cases b
   .exact⟨_,_,h,dR j z,fun w' _=>by simp[execOp,ai,asBool]⟩
   .exact⟨_,_,h,dR j y,fun w' _=>by simp[execOp,ai,asBool]⟩
  .cases h
 case build t parts=>
  simp only[eF]at h;cases hk:(T.at t).known
  .simp_all
  rw[hk]at h;simp only[au,ac]at h;split at h
  .rename_i fs ao
   split at h
   .rename_i cs Y
    obtain⟨Z,hu,av⟩:=hT.struct hk ao;obtain⟨i,z,hi,aQ,aS,hz,aV,ab⟩:=hT.info hk;have aw:bJ c (T.at t).zero z.cells.toList:=by grind [ul]
    have ab: ∀u∈z.cells.toList,u.oneCell'=true:=fun u hu=>List.all_eq_true.1 ab u hu;obtain⟨ay,g1,g2,g3⟩:=ac8 (c:=c) hT (place:=fun k=>(Z.map fun f=>(f.offset,Yd P f.type))[k]?) (fun k aj ft ad az=>by
      rw[<-av,List.getElem?_map]at ad;cases hfl:Z.toList[k]? with
      |none=>simp_all
      |some fl=>
       rw[hfl]at ad;simp only[Option.map_some,Option.some.injEq,Prod.mk.injEq]at ad;have:Z[k]? =a6 fl:=by simpa using hfl
       obtain⟨i',z',aW,aX,_⟩:=hT.info az;simp_all [Yd]) _ (parts.toList.map fun p=>(p.1,a.eval p.2)) _ _ _ Y aw ab (by simp) (by
      simp only[List.map_map,Function.comp_def];have:=bJ.map_eval (c:=c) j (parts.toList.map (·.2));simp_all [Function.comp_def])
    have ae:=(hT t hk).2.2.2.2.2.2.1;rw[hu]at ae;simp only[Option.map_some,Option.some.injEq]at ae;refine⟨_,.agg ay.toArray,h, ?_,fun w' _=>E ?_⟩
    .have:=Kv (c:=c) hT hk g2 g3;simp_all [TI.isAgg,valOf]
    .have hm:=abG (P:=P) (fun f:Field=>do pure (f.offset,<-sizeOf f.type)) (fun f=>(f.offset,Yd P f.type)) w' Z (fun f hf=>by
      have:=List.all_eq_true.1 ae f hf;cases hi2:P.info? f.type with
      |none=>simp_all
      |some i2=>simp[sizeOf,typeInfo,hi2,Yd])
     have aA:(zeroValue t).run P w'=.ok z w':=by simp[zeroValue,typeInfo,hi,hz]
     simp only[Instr.build,Sem.run_bind,aA,Result.andThen_ok,run_underlying hu,hm];simp_all
   .cases h
  .cases h
 case load t x=>
  simp only[eF]at h;rw[<-G]at h;obtain⟨z,u,q,A,B⟩:=avp (K:=fun v=>K v st) hT S h (dR j x);exact⟨z,u,q,A,fun w' D=>E (B w' D)⟩
 case nilCheck x=>
  simp only[eF]at h;have d:=dR j x;split at h
  .rename_i id aj N
   rw[N]at d;split at h
   .rename_i bt cs Y
    have V:=d;simp only[bU]at d;rw[<-G]at Y;have I:=d.2.2 _ _ Y;exact⟨_,_,h,V,fun w' _=>by simp[execOp,I]⟩
   .cases h
  .rename_i y e N
   rw[N]at d;have V:=d;simp only[bU]at d;obtain⟨b,o,zs,I,_⟩:=d;exact⟨_,_,h,V,fun w' _=>by simp[execOp,I]⟩
  .rename_i id aB i aj N
   rw[N]at d;split at h
   .rename_i e u xs ak
    replace h:=dG h;obtain⟨h0,h⟩:=h;have h0:u=aB:=by simpa using h0
    subst h0;have V:=d;simp only[bU]at d;rw[<-G]at ak;obtain⟨g,n,cp,_,I⟩:=(d.2.2 _ _ _ ak).2 rfl;exact⟨_,_,h,V,fun w' _=>by simp[execOp,I]⟩
   .cases h
  .cases h
 case binOp op t x y yt=>
  simp only[eF]at h;rw[<-G]at h;obtain⟨z,u,q,A,B⟩:=avo (P:=P) (ox:=x) (oy:=y) (K:=fun v=>K v st) hT S h (dR j x) (dR j y);exact⟨z,u,q,A,fun w' D=>E (B w')⟩
 case unOp op t x=>
  simp only[eF]at h;obtain⟨z,u,q,A,B⟩:=aID (P:=P) (K:=fun v=>K v st) h (dR j x);exact⟨z,u,q,A,fun w' D=>E (B w')⟩
 case convert sT dT x=>
  simp only[eF]at h;rw[<-G]at h;obtain⟨z,u,q,A,B⟩:=aoy (P:=P) (K:=fun v=>K v st) hT S h (dR j x);exact⟨z,u,q,A,fun w' D=>E (B w' D)⟩
 case slice t x lo hi mx=>
  simp only[eF]at h;rw[<-G]at h;obtain⟨z,u,q,A,B⟩:=ak5 (P:=P) (K:=fun v=>K v st) hT S h (dR j x) (lL.map j lo) (lL.map j hi) (lL.map j mx);exact⟨z,u,q,A,fun w' D=>E (B w')⟩
 case fieldAddr t x f=>
  simp only[eF]at h;rw[<-G]at h;obtain⟨z,u,q,A,B⟩:=O1 (P:=P) (K:=fun v=>K v st) hT h (dR j x);exact⟨z,u,q,A,fun w' D=>E (B w')⟩
 case field t x f=>
  simp only[eF]at h;obtain⟨z,u,q,A,B⟩:=ak3 (P:=P) (K:=fun v=>K v st) hT h (dR j x);exact⟨z,u,q,A,fun w' D=>E (B w')⟩
 case indexAddr t x i=>
  simp only[eF]at h;rw[<-G]at h;obtain⟨z,u,q,A,B⟩:=O3 (P:=P) (K:=fun v=>K v st) hT S h (dR j x) (dR j i);exact⟨z,u,q,A,fun w' D=>E (B w')⟩
 case index t x i=>
  simp only[eF]at h;split at h
  .rename_i s n hs hn
   replace h:=gy h;obtain⟨q,h⟩:=h;have d:=dR j x;rw[hs]at d;obtain⟨A,B⟩:=ak4 (P:=P) hT d (dR j i) hn q;exact⟨_,_,h,A,fun w' D=>E (B w')⟩
  .cases h
 case extract x n=>
  simp only[eF]at h;have d:=dR j x;split at h
  .rename_i l hl
   rw[hl]at d;split at h
   .rename_i v I
    simp only[bU]at d;obtain⟨vs,N,an⟩:=d;obtain⟨hn,I⟩:=List.getElem?_eq_some_iff.1 I;have aF:=bJ.length _ _ an;simp at aF;have q:=bJ.get _ _ an n hn (by simp;omega);rw[I]at q;simp only[Array.getElem_toList]at q;refine⟨_,_,h,q,fun w' _=>E ?_⟩;rw[N];have:vs[n]? =a6 vs[n]:=Array.getElem?_eq_getElem (by omega);simp[Instr.extract,this]
   .cases h
  .cases h
 case call cc=>
  obtain⟨aY,W,aG⟩:=cc;simp only at U;have M:=bJ.map_eval (c:=c) j W.toList;split at U
  all_goals try (cases U;done)
  .
   simp only[eF,jZ]at h;split at h<;>try (cases h;done)
   .rename_i x J d
    split at h<;>try (cases h;done)
    rename_i t ht
    rw[<-G]at h;obtain⟨O,aH⟩: ∃O,W= #[O]:=by
     obtain⟨l⟩:=W
     match l,d with
     |[O],_=>exact⟨O,rfl⟩
    subst aH;obtain⟨t0⟩:=aG;simp only at ht;subst ht;simp only[ax,List.map_nil,List.cons.injEq,and_true]at d;subst d;obtain⟨z,u,q,A,B⟩:=q_len (P:=P) (K:=fun v=>K v st) hT S h (dR j O) (ty:=ty)
    grind [execOp,resolve,invoke,builtin]
   all_goals simp_all
  .
   simp only[eF,jZ]at h;split at h<;>try (cases h;done)
   all_goals try (rename_i J _;cases J;done)
   rename_i k n l J d
   split at h<;>try (cases h;done)
   rename_i ns ag
   rw[d]at M;obtain⟨X⟩:=W;cases X with
   |nil=>simp_all
   |cons O X=>
    simp only[ax,bJ]at M;have h0:=M.1;simp only[bU]at h0;have q:=h0.int_inv;have A:=uf _ _ _ ag M.2;exact⟨_,_,h,by simp only[bU];exact VD.int_mk,fun w' D=>by simp_all [execOp,resolve,invoke,builtin,Builtin.min_,UE]⟩
  .
   simp only[eF,jZ]at h;split at h<;>try (cases h;done)
   all_goals try (rename_i J _;cases J;done)
   rename_i k n l J d
   split at h<;>try (cases h;done)
   rename_i ns ag
   rw[d]at M;obtain⟨X⟩:=W;cases X with
   |nil=>simp_all
   |cons O X=>
    simp only[ax,bJ]at M;have h0:=M.1;simp only[bU]at h0;have q:=h0.int_inv;have A:=uf _ _ _ ag M.2;exact⟨_,_,h,by simp only[bU];exact VD.int_mk,fun w' D=>by simp_all [execOp,resolve,invoke,builtin,Builtin.max_,UD]⟩
end
end
section
open Option renaming some → a6, none → a7
open List renaming map_cons → ax
open Nat renaming le_refl → ae, le_trans → aB
open Go.RowKit
structure AQ (W0:World) (c:Cx) (st:St) (c':Cx) (st':St):Prop where
 hp:c'.hp=st'.hp
 nxt:c'.nxt=st'.nxt
 fr:st'.fr=st.fr
 stk:st'.stk=st.stk
 ok:c'.Ok W0
 le:c.Le c'
section
variable {P:Program} {T:TT} {W0:World} {c:Cx} {R:Type} {r:R} {t:TypeId}
theorem AQ.refl (d:c.Ok W0) {st:St} (e:c.hp=st.hp) (h2:c.nxt=st.nxt):AQ W0 c st c st:=⟨e,h2,rfl,rfl,d,Cx.Le.refl c⟩
theorem AQ.trans {c' d:Cx} {st e f:St} (h:AQ W0 c st c' e) (k:AQ W0 c' e d f):AQ W0 c st d f:=
 ⟨k.hp,k.nxt,k.fr.trans h.fr,k.stk.trans h.stk,k.ok,h.le.trans k.le⟩
theorem Ob {cl:Bool} {dst:Option Nat} {o:dL} {st:St} {K:Nat->St->Option R} (h:alloc cl dst o st K=a6 r):
  ∃n',dO st.hp (D9 cl st dst)=a7/\st.nxt<=D9 cl st dst/\st.nxt<=n'/\K (D9 cl st dst) {st with hp:=(D9 cl st dst,o)::st.hp,nxt:=n'}=a6 r:=by
 unfold alloc at h;split at h
 .cases h
 .rename_i h0
  replace h:=dG h;obtain⟨d,h⟩:=h;have d:st.nxt<=D9 cl st dst:=by simpa using d
  grind
theorem jf {cl:Bool} {dst:Option Nat} {o:dL} {st:St} {K:Nat->St->Option R} (h:alloc cl dst o st K=a6 r):
  ∃id n',dO st.hp id=a7/\st.nxt<=id/\st.nxt<=n'/\K id {st with hp:=(id,o)::st.hp,nxt:=n'}=a6 r:=
 let⟨n',d,e,f,g⟩:=Ob h
 ⟨_,n',d,e,f,g⟩
theorem Ag {st:St} {id:Nat} (d:c.hp=st.hp) (h2:c.nxt=st.nxt) (e:dO st.hp id=a7) (f:st.nxt<=id): ¬c.known id:=by
 rintro (⟨o,g⟩|h)
 all_goals grind
theorem nX (w:World) (o:Obj):Below w.heap.size w (w.alloc o):=(Below.refl _ _).alloc (ae _) o
theorem Ku (f:c.Ok W0) {st:St} (g:c.hp=st.hp) (h2:c.nxt=st.nxt) {id n':Nat} (j:dO st.hp id=a7) (p:st.nxt<=id) (x:st.nxt<=n') {cs:List bQ} {vs:Array Value} (e:TypeId)
  (q: ∀c',c.Le c'->dO c'.hp id=a6 (.box e cs)->c'.known id->(c'.mu id).blk=c.w.heap.size->bJ c' cs vs.toList) (s: ∀u∈vs.toList,u.oneCell'=true):
  ∃c',AQ W0 c st c' {st with hp:=(id,.box e cs)::st.hp,nxt:=n'}/\c'.w=c.w.alloc (.cells vs e)/\bU c' (.ptr id 0) (.pointer (a6 ⟨c.w.heap.size,0,a7⟩)):=by
 have hk:=Ag g h2 j p;have d:=nX c.w (.cells vs e);have hl: ∀b,dL.blk (.box e cs) ⟨c.w.heap.size,undef⟩=a6 b->c.w.heap.size<=b:=fun b d=>by
  simp_all [dL.blk]
 have h:=Cx.Le.push (o:=.box e cs) (l:=⟨c.w.heap.size,undef⟩) (nxt:=n') (w:=c.w.alloc (.cells vs e)) hk (by omega) d.size d.block hl;have i:dO (c.push id (.box e cs) ⟨c.w.heap.size,undef⟩ n' (c.w.alloc (.cells vs e))).hp id=a6 (.box e cs):=by simp[Cx.push,ed]
 have v:(c.push id (.box e cs) ⟨c.w.heap.size,undef⟩ n' (c.w.alloc (.cells vs e))).ORel W0.heap.size id (.box e cs):=by
  refine⟨by simp[Cx.push,upd_same];exact f.size,vs, ?_,q _ h i (.inl ⟨_,i⟩) (by simp[Cx.push,upd_same]),s⟩;simp only[Cx.push,upd_same];exact heap_alloc_new c.w _
 refine⟨_,⟨?_,rfl,rfl,rfl,f.push hk (by omega) d hl v,h⟩,rfl, ?_⟩
 .simp[Cx.push,g]
 .simp only[bU];refine⟨rfl,.inl ⟨.box e cs,by assumption⟩,fun y z _=>by simp[Cx.push,upd_same]⟩
theorem Ze (d:c.Ok W0) {st:St} (f:c.hp=st.hp) (h2:c.nxt=st.nxt) {id n':Nat} (g:dO st.hp id=a7) (h:st.nxt<=id) (i:st.nxt<=n') {cs:List bQ} {vs:Array Value} (j:bJ c cs vs.toList)
  (l: ∀u∈vs.toList,u.oneCell'=true) (e:TypeId):
  ∃c',AQ W0 c st c' {st with hp:=(id,.box e cs)::st.hp,nxt:=n'}/\c'.w=c.w.alloc (.cells vs e)/\bU c' (.ptr id 0) (.pointer (a6 ⟨c.w.heap.size,0,a7⟩)):=
 Ku d f h2 g h i e (fun c' o _ _ _=>bJ.le o _ _ j) l
theorem qZ (j:c.Ok W0) {st:St} (p:c.hp=st.hp) (h2:c.nxt=st.nxt) {id n':Nat} (s:dO st.hp id=a7) (x:st.nxt<=id) (N:st.nxt<=n') {y:Ty} (z:0<y.size) {xs:List y.den} {v:Value} {w:World}
  (f:Below c.w.heap.size c.w w) (e:TypeId) (d:List Value) (i:w.ownsRow c.w.heap.size e y.size v xs.length d) (hL:fP (eY c.w c.free y) y.size xs d) (A:v.oneCell'=true) (B:y=.int .u8->e=nH):
  ∃c',AQ W0 c st c' {st with hp:=(id,.arr y 0 xs)::st.hp,nxt:=n'}/\c'.w=w/\bU c' (.slc id 0 a7) v:=by
 have hk:=Ag p h2 s x;have hl: ∀b,dL.blk (.arr y 0 xs) ⟨0,v⟩=a6 b->c.w.heap.size<=b:=fun b D=>(World.ownsRow.lt i b D).1;have q:=Cx.Le.push (o:=.arr y 0 xs) (l:=⟨0,v⟩) (nxt:=n') (w:=w) hk (by omega) f.size f.block hl;have O:w.ownsRow W0.heap.size e y.size v xs.length d:=by
  refine⟨i.1, ?_⟩;rcases i.2 with h|⟨g,E,G,I,J,K⟩
  .exact .inl h
  .exact .inr ⟨g,E,G,I,aB j.size J,K⟩
 have M:(c.push id (.arr y 0 xs) ⟨0,v⟩ n' w).ORel W0.heap.size id (.arr y 0 xs):=by
  refine⟨z,e,d, ?_,fP.mono (eY.mono q.free y) _ _ hL,B⟩;simp_all [Cx.push,upd_same]
 refine⟨_,⟨?_,rfl,rfl,rfl,j.push hk (by omega) f hl M,q⟩,rfl, ?_⟩
 .simp[Cx.push,p]
 .simp only[bU];refine⟨A,.inl ⟨.arr y 0 xs,by simp[Cx.push,ed]⟩,fun t u S h=> ?_⟩;simp_all [Cx.push,ja,upd_same]
def Hz (P:Program) (W0:World) (c:Cx) (st:St) (o:Oper) (a:Act) (K:bQ->St->Option R) (r:R):Prop:=
 ∃z u d e,K z e=a6 r/\AQ W0 c st d e/\bU d z u/\((execOp a.eval o).run P c.w=.ok (.value u) d.w\/((execOp a.eval o).run P c.w=.ok .skip d.w/\u=undef))
theorem qX {st:St} {o:Oper} {a:Act} {K:bQ->St->Option R} {s:Sem Value} {z:bQ} {u:Value} {c':Cx} {d:St} (g:execOp a.eval o=(do pure (Next.value (<-s)))) (e:K z d=a6 r) (h2:AQ W0 c st c' d) (f:bU c' z u)
  (h:s.run P c.w=.ok u c'.w):Hz P W0 c st o a K r:=⟨z,u,c',d,e,h2,f,.inl (by simp_all)⟩
theorem ay7 (hT:TOk P T) (A:c.Ok W0) {cl:Bool} {call:gz R} {o:Oper} {st:St} {a:Act} {K:bQ->St->Option R} (B:c.hp=st.hp) (D:c.nxt=st.nxt) (U:o.op=.alloc t)
  (h:eF T cl call o st K=a6 r):Hz P W0 c st o a K r:=by
 obtain⟨V,op,Y,Z,ab,ad⟩:=o;simp only at U;subst U;simp only[eF]at h;replace h:=dG h;obtain⟨hk,h⟩:=h;obtain⟨i,z,hi,al,an,hz,s,f⟩:=hT.info hk;have f: ∀u∈z.cells.toList,u.oneCell'=true:=fun u hu=>List.all_eq_true.1 f u hu;have af:(Instr.alloc t true (.tuple #[])).run P c.w=.ok (.pointer (a6 ⟨c.w.heap.size,0,a7⟩)) (c.w.alloc (.cells z.cells t)):=by
  simp[Instr.alloc,zeroValue,typeInfo,hi,hz,newVar,newRow]
 have E:(alloc cl V (.box t (T.at t).zero) st fun id st=>K (.ptr id 0) st)=a6 r->Hz P W0 c st ⟨V,.alloc t,Y,Z,ab,ad⟩ a K r:=fun h=>by
  obtain⟨id,W,g,j,l,p⟩:=jf h;obtain⟨c',e,q,x⟩:=Ze A B D g j l (cs:=(T.at t).zero) (vs:=z.cells) (by grind [ul]) f t;exact qX rfl p e x (by rw[q];exact af)
 split at h
 .rename_i et ag G
  split at h
  .rename_i y hy
   replace h:=dG h;obtain⟨I,h⟩:=h;have I:0<y.size:=by simpa [PG] using I
   obtain⟨J,n1,g,j,l,p⟩:=jf h;have X:z.cells.toList=[.slice a7 0 0]:=by
    rw[G]at s
    match hq:z.cells.toList,s with
    |[v],d=>
     simp only[ax,List.map_nil,List.cons.injEq,and_true]at d;unfold wO at d
     grind
    |[],d=>simp at d
    |_::_::_,d=>simp at d
   obtain⟨c1,e,q,x⟩:=qZ A B D g j l I (xs:=[]) (Below.refl _ _) (if y=.int .u8 then nH else et) [] (World.ownsRow_nil _ _ _ _) (by simp[fP]) (v:=.slice a7 0 0) rfl (fun h=>by simp[h]);obtain⟨id,W,M,N,O,S⟩:=jf p;obtain⟨c2,g1,g2,g3⟩:=Ze e.ok e.hp e.nxt M N O (cs:=[.slc J 0 a7]) (vs:=z.cells) (by simp_all [bJ]) f t;rw[q]at g3;refine qX rfl S (e.trans g1) g3 ?_;simp_all
  .exact E h
 .rename_i fs ag G
  rw[cond_eq_ite]at h;split at h
  .obtain⟨J,n1,g,j,l,p⟩:=jf h;have X:z.cells.toList=[.pointer a7,.slice a7 0 0]:=by
    rw[G]at s
    match hq:z.cells.toList,s with
    |[v,v'],d=>
     simp only[ax,List.map_nil,List.cons.injEq,and_true]at d;obtain⟨ah,ai⟩:=d;have q1:v=.pointer a7:=by
      unfold wO at ah
      grind
     have q2:v'=.slice a7 0 0:=by
      unfold wO at ai
      grind
     rw[q1,q2]
    |[],d=>simp at d
    |[_],d=>simp at d
    |_::_::_::_,d=>simp at d
   obtain⟨c1,e,q,x⟩:=qZ A B D g j l (y:=.int .u8) (by simp[Ty.size]) (xs:=[]) (Below.refl _ _) nH [] (World.ownsRow_nil _ _ _ _) (by simp[fP]) (v:=.slice a7 0 0) rfl (fun _=>rfl);obtain⟨W,M,N,O,S⟩:=Ob p;obtain⟨c2,g1,g2,g3⟩:=Ku e.ok e.hp e.nxt M N O (cs:=[.slf _,.slc J 0 a7]) (vs:=z.cells) t (fun c' aj hg ak ao=>by
    rw[X];simp only[bJ,bU];refine⟨⟨rfl,ak,fun _ _ _=>.inl trivial⟩, ?_,trivial⟩;have:=bU.le aj _ _ x
    assumption) f
   rw[q]at g3;refine qX rfl S (e.trans g1) g3 ?_;simp_all
  .exact E h
 .exact E h
theorem aHU (hT:TOk P T) (e:c.Ok W0) {cl:Bool} {call:gz R} {o:Oper} {st:St} {a:Act} {K:bQ->St->Option R} {x:Operand} (f:c.hp=st.hp) (g:c.nxt=st.nxt) (i:bJ c st.fr a.tmps.toList) (d:o.op=.box t x)
  (h:eF T cl call o st K=a6 r):Hz P W0 c st o a K r:=by
 obtain⟨B,D,E,G,I,J⟩:=o;simp only at d;subst d;simp only[eF]at h;split at h
 .rename_i M j
  replace h:=dG h;obtain⟨hk,h⟩:=h;obtain⟨id,N,l,p,q,s⟩:=jf h;obtain⟨u,v⟩:=LJ j (dR i x);obtain⟨O,y,z,A⟩:=Ze e f g l p q u v t;refine qX rfl s y A ?_;rw[z];rfl
 .cases h
theorem aC6 {hp:gK} {y:Ty} {v:bQ} {x:y.den} (h:v.as [] y=a6 x) {u:Value} (d:bU c v u):eY c.w c.free y x u.cells.toList:=by
 cases v with
 |val t' z=>
  simp only[bQ.as]at h;have e:=iy h;subst e;rw[fV]at h;cases h;simp only[bU]at d;exact d.cells
 |nils=>
  simp only[bU]at d;subst d;cases y<;>simp only[bQ.as,reduceCtorEq]at h;cases h;exact⟨a7,0,[],rfl,by simp,rfl,.inl rfl⟩
 |lst t' z b=>
  simp only[bQ.as]at h;have e:=iy h;subst e;rw[fV]at h;cases h;simp only[bU]at d;exact d.1.cells
 |emp=>
  simp only[bU]at d;obtain⟨a,rfl⟩:=d;cases y<;>simp only[bQ.as,reduceCtorEq]at h;cases h;exact⟨a,0,[],rfl,by simp,rfl,.inl rfl⟩
 |slc id ver g=>cases y<;>simp_all [bQ.as,Bg,dO]
 |agg l=>
  simp only[bQ.as]at h;replace h:=dG h;simp only[bU]at d;obtain⟨i,rfl,f,_⟩:=d;exact oO h.2 f
 |_=>simp[bQ.as]at h
theorem fP.replicate {e:Type} {Q:e->List Value->Prop} {size:Nat} {x:e} {d:List Value} (hd:d.length=size) (hx:Q x d): ∀n,fP Q size (List.replicate n x) (List.replicate n d).flatten
 |0=>by simp[fP]
 |n+1=>⟨d,(List.replicate n d).flatten,by rfl,hd,hx,fP.replicate hd hx n⟩
theorem D7 (d:Array Value): ∀n,(madeCells d (n*d.size)).toList=(List.replicate n d.toList).flatten:=by
 intro n;by_cases h0:d.size=0
 .simp_all [madeCells]
 apply List.ext_getElem?;intro j;have f:(List.replicate n d.toList).flatten.length=n*d.size:=by simp
 by_cases e:j<n*d.size
 .have g: ∀n j,j<n*d.size->(List.replicate n d.toList).flatten[j]? =d.toList[j %d.size]? :=by
   intro n
   induction n with
   |zero=>omega
   |succ n h=>
    intro j e;rw[List.replicate_succ,List.flatten_cons]
    grind [Nat.mod_eq_of_lt,List.getElem?_append_right,Nat.mod_eq_sub_mod]
  grind [madeCells]
 simp_all [madeCells]
theorem Xc {e:Ty} (place:Nat->Option (Nat×Nat)) (s: ∀i,place i=a6 (i*e.size,e.size)): ∀(j:List (Nat×bQ)) (us:List (Nat×Value)) (xs f:List e.den) (g:List Value),Jz e xs j=a6 f->fP (eY c.w c.free e) e.size xs g->
   us.map (·.1)=j.map (·.1)->bJ c (j.map (·.2)) (us.map (·.2))-> ∃l,Instr.fill place g.toArray us=a6 l.toArray/\fP (eY c.w c.free e) e.size f l/\f.length=xs.length
 |[],us,xs,f,g,h,hL,d,_=>by
  simp only[Jz,Option.some.injEq]at h;subst h;cases us with
  |nil=>exact⟨g,rfl,hL,rfl⟩
  |cons=>simp at d
 |(i,v)::j,us,xs,f,g,h,hL,d,q=>by
  cases us with
  |nil=>simp at d
  |cons u us=>
   obtain⟨o,u⟩:=u;simp only[ax,List.cons.injEq]at d;obtain⟨rfl,d⟩:=d;simp only[ax,bJ]at q;simp only[Jz]at h;split at h
   .rename_i x D
    replace h:=dG h;obtain⟨p,h⟩:=h;have p:o<xs.length:=by simpa [PG] using p
    have hd:=aC6 (hp:=[]) D q.1;have y:=eY.length _ _ _ hd;obtain⟨z,E,K,A,B,G,I⟩:=fP.at_ o xs g p hL;subst G;have J:=fP.set x u.cells.toList y hd o xs A z B p hL I E;obtain⟨l,g1,g2,g3⟩:=Xc place s j us _ f _ h J d q.2;refine⟨l, ?_,g2,by rw[g3];simp⟩;rw[<-g1];simp only[Instr.fill,s];have M:u.cells.size=e.size:=by simpa using y
    rw[aq (by simp_all)];congr 1;have:=JI (o*e.size) u.cells (A++z++B) (by simp;omega)
    grind
   .cases h
end
end
section
open Option renaming some → a6, none → a7
open Bool renaming and_eq_true → af
open List renaming take_of_length_le → bn
open Nat renaming le_refl → ae, le_mul_of_pos_right → bF
open Go.RowKit
section
variable {P:Program} {T:TT} {W0:World} {c:Cx} {R:Type} {r:R} {t:TypeId}
theorem qG (hT:TOk P T) {n:Nat} {d:TypeId} (e:(T.at t).k=.slice d) (h:T.rowOf t n=true):P.underlying t=a6 (.slice d)/\(T.at d).known=true/\(T.at d).size=n/\0<n/\0<(T.at d).bytes:=by
 grind [lS]
theorem XV (hT:TOk P T) {f:TypeId} (hk:(T.at f).known=true) {e:Ty} {d:e.den} (hd:G6 e (T.at f).zero=a6 d):
  ∃i z,P.info? f=a6 i/\i.zero=a6 z/\i.size=(T.at f).size/\i.bytes=(T.at f).bytes/\eY c.w c.free e d z.cells.toList:=by
 obtain⟨i,z,g,h,j,l,o,p⟩:=hT.info hk
 grind [oO,ul]
theorem aeR (w:World) (d:List Value) (e:TypeId) (size n:Nat) (hl:d.length=n*size) (f:n<=maxLen):
  (w.alloc (.cells d.toArray e)).ownsRow w.heap.size e size (.slice (a6 ⟨w.heap.size,0,a7⟩) n n) n d:=
 ⟨hl,.inr ⟨w.heap.size,n,d.toArray,rfl,ae _,heap_alloc_new w _,ae _,f,by simpa using hl,by simp[<-hl]⟩⟩
theorem Y4 (hT:TOk P T) (E:c.Ok W0) {cl:Bool} {call:gz R} {o:Oper} {st:St} {a:Act} {K:bQ->St->Option R} {n:Nat} {f:Array (Nat×Operand)} (G:c.hp=st.hp) (I:c.nxt=st.nxt) (J:bJ c st.fr a.tmps.toList)
  (l:o.op=.buildSlice t n f) (h:eF T cl call o st K=a6 r):Hz P W0 c st o a K r:=by
 obtain⟨ai,op,ty,aj,ak,al⟩:=o;simp only at l;subst l;simp only[eF]at h;split at h
 .rename_i g M
  split at h
  .rename_i e N
   split at h
   .rename_i d hd
    replace h:=dG h;obtain⟨q,h⟩:=h;simp only[af,leN,decide_eq_true_eq]at q;obtain⟨s,hk,O,u,_⟩:=qG hT M q.1;split at h
    .rename_i xs S
     obtain⟨id,n',U,V,W,X⟩:=jf h;obtain⟨i,z,Y,Z,an,_,v⟩:=XV (c:=c) hT hk hd;have x:=eY.length _ _ _ v;have ab:z.cells.size=e.size:=by simpa using x
     have ad:=fP.replicate (Q:=eY c.w c.free e) x v n;obtain⟨j,g1,g2,g3⟩:=Xc (c:=c) (fun i=>a6 (i*e.size,e.size)) (fun _=>rfl) _ (f.toList.map fun p=>(p.1,a.eval p.2)) _ _ _ S ad (by simp) (by
      simp only[List.map_map,Function.comp_def];have:=bJ.map_eval (c:=c) J (f.toList.map (·.2));simp_all [Function.comp_def])
     have y:xs.length=n:=by rw[g3];simp
     have A:=fP.length _ _ g2;rw[y]at A;have ao:n<=n*e.size:=bF n u;have B:=aeR c.w j g e.size n A (by simp only[maxLen];omega);rw[<-y]at B;obtain⟨c',d1,d2,d3⟩:=qZ E G I U V W u (nX c.w (.cells j.toArray g)) g j B g2 rfl (fun h=>hT.byte hk (by rw[N,h]));refine qX rfl X d1 d3 ?_;rw[d2];have D:(sizeOf g).run P c.w=.ok e.size c.w:=by rw[hT.sizeOf hk,O]
     have au:(zeroValue g).run P c.w=.ok z c.w:=by simp[zeroValue,typeInfo,Y,Z]
     have av:n*e.size<=2^24:=by omega
     have ag:Instr.fill (fun i=>a6 (i*e.size,e.size)) ((Array.range (n*e.size)).map (z.cells[· %z.cells.size]!)) (Array.map (fun p=>(p.1,a.eval p.2)) f).toList=a6 j.toArray:=by
      rw[<-g1];have:=D7 z.cells n;rw[ab]at this;have h3:(Array.range (n*e.size)).map (z.cells[· %z.cells.size]!)=(List.replicate n z.cells.toList).flatten.toArray:=by
       apply Array.ext';rw[<-this];rfl
      rw[h3];simp
     by_cases h0:n*e.size=0
     .have ah:n=0:=by
       omega
      subst ah;simp only[Instr.buildSlice,Sem.run_bind,run_underlying s,Result.andThen_ok,D,Sem.run_ite,Nat.zero_mul,if_true,Sem.run_pure];simp only[Nat.zero_mul]at ag;rw[aq (by omega)];have aw:Instr.fill (fun i=>a6 (i*e.size,e.size)) ((Array.range 0).map ((#[]:Array Value)[· %(#[]:Array Value).size]!)) (Array.map (fun p=>(p.1,a.eval p.2)) f).toList=a6 j.toArray:=by
       grind
      simp_all [newRow]
     .simp only[Instr.buildSlice,Sem.run_bind,run_underlying s,Result.andThen_ok,D,Sem.run_ite];simp_all [newRow]
    .cases h
   .cases h
  .cases h
 .cases h
theorem ad6 (hT:TOk P T) (y:c.Ok W0) {cl:Bool} {call:gz R} {o:Oper} {st:St} {a:Act} {K:bQ->St->Option R} {l cp:Operand} (A:c.hp=st.hp) (B:c.nxt=st.nxt) (p:bJ c st.fr a.tmps.toList)
  (q:o.op=.makeSlice t l cp) (h:eF T cl call o st K=a6 r):Hz P W0 c st o a K r:=by
 obtain⟨aj,op,ty,ak,al,an⟩:=o;simp only at q;subst q;simp only[eF]at h;split at h
 .rename_i g D
  split at h
  .rename_i e ln f E hl G
   split at h
   .rename_i d hd
    replace h:=gy h;obtain⟨s,h⟩:=h;simp only[af,decide_eq_true_eq]at s;obtain⟨I,J,M,b3⟩:=s;obtain⟨N,hk,O,S,U⟩:=qG hT D I;obtain⟨id,n',V,W,X,Y⟩:=jf h;obtain⟨i,z,Z,hz,ab,ao,u⟩:=XV (c:=c) hT hk hd;have v:=eY.length _ _ _ u;have j:z.cells.size=e.size:=by simpa using v
    have ad:=fP.replicate (Q:=eY c.w c.free e) v u ln.toNat;obtain⟨k,r1⟩:=rW hl (dR p l);obtain⟨k',r2⟩:=rW G (dR p cp);have au:f.toNat<=f.toNat*(T.at g).bytes:=bF _ U;have av:f.toNat<=140737488355328:=by grind [kH]
    have ag:f<=9223372036854775807:=by omega
    have ah:(i.bytes:Int)*f<=281474976710656:=by
     grind [kH]
    have aw:=run_make (P:=P) c.w t g i z N Z hz k k' ln f J M ah ag;have x:=D7 z.cells f.toNat;rw[j]at x;have ax:((List.replicate f.toNat z.cells.toList).flatten).length=f.toNat*e.size:=by simp[j]
    have ai:(c.w.alloc (.cells (madeCells z.cells (f.toNat*i.size)) g)).ownsRow c.w.heap.size g e.size (.slice (a6 ⟨c.w.heap.size,0,a7⟩) ln.toNat f.toNat) (List.replicate ln.toNat d).length (List.replicate ln.toNat z.cells.toList).flatten:=by
     refine⟨by simp[j],.inr ⟨c.w.heap.size,f.toNat,madeCells z.cells (f.toNat*i.size),by simp,ae _,heap_alloc_new _ _,by simp;omega,by simp only[maxLen];omega, ?_, ?_⟩⟩
     .grind
     .rw[ab,O,x];have:f.toNat=ln.toNat+(f.toNat-ln.toNat):=by omega
      rw[this,<-List.replicate_append_replicate,List.flatten_append];rw[List.take_append];simp[j];rw[bn (by simp[j])]
    obtain⟨c',d1,d2,d3⟩:=qZ y A B V W X S (nX c.w _) g _ ai ad rfl (fun h=>hT.byte hk (by rw[E,h]));refine qX rfl Y d1 d3 ?_;simp_all
   .cases h
  .cases h
 .cases h
end
end
section
open Option renaming some → a6, none → a7
open List renaming length_append → ai, nil_append → aO, eq_nil_of_length_eq_zero → bD
open Nat renaming le_refl → ae, mul_le_mul_right → bC
open Go.RowKit
section
variable {P:Program} {T:TT} {W0:World} {c:Cx} {R:Type} {r:R} {t:TypeId}
theorem Zm {w:World} {B:Nat} {e:TypeId} {size n cap g:Nat} {f:List Value} (h:w.ownsRow B e size (.slice (a6 ⟨g,0,a7⟩) n cap) n f) {k:Nat} (hk:k<=n):
  w.ownsRow B e size (.slice (a6 ⟨g,0,a7⟩) k cap) k (f.take (k*size)):=by
 have hl:=h.1;have q:=bC size hk;refine⟨by simp;omega,.inr ?_⟩;rcases h.2 with ⟨d,_⟩|⟨s,u,i,d,j,l,v,o,p,x⟩
 .cases d
 .cases d;refine⟨g,cap,i,rfl,j,l,by omega,o,p, ?_⟩
  grind
theorem H7 {d:TypeId} (x:P.underlying t=a6 (.slice d)) {w:World} {B:Nat} {i:TypeInfo} {z:Value} {size W:Nat} (hi:P.info? d=a6 i) (E:i.zero=a6 z) (ab:i.size=size) (ad:i.bytes=W)
  (G:z.cells.size=size) (I:0<size) {f:TypeId} {v:Value} {n:Nat} {o:List Value} (h:w.ownsRow B f size v n o) {a:Option Addr} {m cp:Nat} {news:List Value} (hl:news.length=m*size) (J: ∀u∈news,u.oneCell'=true)
  (af:news=[]\/ ∃b off,a=a6 ⟨b,off,a7⟩/\gW w b off news) (K:n+m<=maxLen) (M:(n+m)*W<=140737488355328) (N:B<=w.heap.size) (ty:TypeId):
  ∃l w' q,(Builtin.append_ #[t,t] ty #[v,.slice a m cp]).run P w=.ok l w'/\w'.ownsRow B q size l (n+m) (o++news)/\w.grownBy w' v.ownBlock/\(l.ownBlock=v.ownBlock\/l.ownBlock=a6 w.heap.size)/\l.oneCell'=true/\(q=f\/q=d):=by
 by_cases hm:m=0
 .subst hm;have hn:news=[]:=bD (by simpa using hl);subst hn;obtain⟨O,X,s,ag,_⟩:=ry h;refine⟨v,w,f, ?_,by simpa using h,⟨rfl,rfl,rfl,ae _,fun _ _ _=>rfl⟩,.inl rfl,by rw[s];rfl,.inl rfl⟩;rw[s];cases a<;>cases O<;>simp[Builtin.append_,run_underlying x,sizeOf,typeInfo,hi,Builtin.lenOf,Builtin.firstCells,loadCells,loadCellsFrom,ag,storeCells]
 .have ah:news≠[]:=by
   intro h0;rw[h0]at hl;have:=Nat.mul_pos (Nat.pos_of_ne_zero hm) I;simp at hl;omega
  obtain⟨b,off,rfl,hc⟩:=af.resolve_left ah;have D: ∀j u,news[j]? =a6 u->w.cell? ((⟨b,off,a7⟩:Addr).add j)=a6 u:=fun j u hj=>by
   obtain⟨aj,ak⟩:=List.getElem?_eq_some_iff.1 hj;rw[jY,hc j aj,ak]
  subst ab;subst ad;by_cases he:f=d
  .subst he;obtain⟨l,w',q,y,S,_,U⟩:=run_append_own_at (P:=P) w B t ty f i z i.size i.bytes x hi E rfl rfl G I v n o h ⟨b,off,a7⟩ m cp news hl D J K M N;obtain⟨O,X,s,_⟩:=ry y;exact⟨l,w',f,q,y,S,U,by rw[s];rfl,.inl rfl⟩
  .
   rcases h.2 with ⟨rfl,rfl⟩|⟨g,p,A,rfl,al,Y,ay,an,ao,az⟩
   .have hx:o=[]:=bD (by simpa using h.1);subst hx;obtain⟨l,w',q,y,S,_,U⟩:=run_append_own_at (P:=P) w B t ty d i z i.size i.bytes x hi E rfl rfl G I (.slice a7 0 0) 0 [] (World.ownsRow_nil _ _ _ _) ⟨b,off,a7⟩ m cp news hl D J K M N;obtain⟨O,X,s,_⟩:=ry y;exact⟨l,w',d,q,y,S,U,by rw[s];rfl,.inr rfl⟩
   .by_cases hroom:n+m<=p
    .have au:n*i.size+news.length<=A.size:=by rw[hl,ao,<-Nat.add_mul];exact bC _ hroom
     have hf:=run_firstCells_some (P:=P) w i.size m ⟨b,off,a7⟩ m cp news hl D;have Z:=run_storeCells_at P g (n*i.size) f news 0 A w Y (by simpa using au) J;simp only[Nat.add_zero]at Z;have hr:(Builtin.append_ #[t,t] ty #[.slice (a6 ⟨g,0,a7⟩) n p,.slice (a6 ⟨b,off,a7⟩) m cp]).run P w=
       .ok (.slice (a6 ⟨g,0,a7⟩) (n+m) p) (w.setRow g (A.toList.take (n*i.size)++news++A.toList.drop (n*i.size+news.length)).toArray):=by
      simp[Builtin.append_,run_underlying x,sizeOf,typeInfo,hi,Builtin.lenOf,hroom,hf,Addr.add_lit,Z]
     have V:(o++news).length=(n+m)*i.size:=by grind
     refine⟨_,_,f,hr,⟨V,.inr ⟨g,p,_,rfl,al,setRow_heap w g A _ f _ Y,hroom,an, ?_, ?_⟩⟩,⟨rfl,rfl,rfl,by simp,fun k _ hk=>setRow_other w g k _ (fun e=>hk (by simp[Value.ownBlock,e]))⟩,Or.inl rfl,rfl,.inl rfl⟩
     all_goals grind
    .have holds: ∀j u,o[j]? =a6 u->w.cell? ((⟨g,0,a7⟩:Addr).add j)=a6 u:=h.cells (g:=g) rfl;have hr:=run_append_grow (P:=P) w t ty d i z x hi E ⟨g,0,a7⟩ n p o h.1 holds ⟨b,off,a7⟩ m cp news hl D (by omega) (by grind [maxLen]) (growslice_fits (by omega) M);have aw:=grownCap_ge w (n+m) p d;have ax:grownCap w (n+m) p d<=maxLen:=grownCap_le_maxLen w (n+m) p d K;have V:(o++news).length=(n+m)*i.size:=by rw[ai,h.1,hl,Nat.add_mul]
     refine⟨_,_,d,hr,⟨V,.inr ⟨w.heap.size,_,_,rfl,N,heap_alloc_new w.drew _,aw,ax, ?_, ?_⟩⟩,⟨rfl,rfl,rfl,by simp,fun k hk _=>Below.heap_alloc w.drew _ k hk⟩,Or.inr rfl,rfl,.inr rfl⟩
     .simp only[Array.size_append,List.size_toArray,size_zeroCells,G,h.1,hl,<-Nat.add_mul];simp_all
     grind
theorem afL (hT:TOk P T) {d:TypeId} (o:P.underlying t=a6 (.slice d)) {w:World} {i:TypeInfo} {z:Value} {size p:Nat} (hi:P.info? d=a6 i) (q:i.zero=a6 z) (A:i.size=size) (B:i.bytes=p)
  (D:z.cells.size=size) (E:0<size) {av:Option Addr} {b off m cp:Nat} {news:List Value} (hl:news.length=m*size) (G: ∀u∈news,u.oneCell'=true)
  (I:gW w b off news) (S:0<m) (U:m<=maxLen) (V:m*p<=140737488355328) (ty:TypeId):
  ∃e w' g,(Builtin.append_ #[t,t] ty #[.slice av 0 0,.slice (a6 ⟨b,off,a7⟩) m cp]).run P w=.ok e w'/\w'.ownsRow w.heap.size g size e m news/\Below w.heap.size w w'/\e.oneCell'=true/\g=d:=by
 have s: ∀j u,news[j]? =a6 u->w.cell? ((⟨b,off,a7⟩:Addr).add j)=a6 u:=fun j u J=>by
  obtain⟨K,M⟩:=List.getElem?_eq_some_iff.1 J;rw[jY,I j K,M]
 subst A;subst B;cases av with
 |none=>
  obtain⟨e,w',g,l,f,_,W⟩:=run_append_own_at (P:=P) w w.heap.size t ty d i z i.size i.bytes o hi q rfl rfl D E (.slice a7 0 0) 0 [] (World.ownsRow_nil _ _ _ _) ⟨b,off,a7⟩ m cp news hl s G (by omega) (by simp_all) (ae _);obtain⟨av,X,N,_⟩:=ry l;rw[Nat.zero_add,aO]at l;exact⟨e,w',d,g,l,⟨f.os,f.tape,f.output,f.size,fun k hk=>f.block k hk (by simp[Value.ownBlock])⟩,by rw[N];rfl,rfl⟩
 |some O=>
  have hr:=run_append_grow (P:=P) w t ty d i z o hi q O 0 0 [] (by simp) (fun j v h=>by simp at h) ⟨b,off,a7⟩ m cp news hl s (by omega) (by grind [maxLen]) (growslice_fits (by omega) (by simp_all));have x:=grownCap_ge w (0+m) 0 d;have y:grownCap w (0+m) 0 d<=maxLen:=grownCap_le_maxLen w (0+m) 0 d (by omega);simp only[Nat.zero_add]at hr x y;refine⟨_,_,d,hr, ?_, ?_,rfl,rfl⟩
  .refine⟨hl,.inr ⟨w.heap.size,_,_,rfl,ae _,heap_alloc_new w.drew _,x,y, ?_, ?_⟩⟩
   .have:=Nat.add_mul m (grownCap w m 0 d-m) i.size;simp_all [size_zeroCells]
   simp_all
  .exact⟨rfl,rfl,rfl,by simp,fun k hk=>Below.heap_alloc w.drew _ k hk⟩
theorem Q8 {u d:TypeId} (l:P.underlying t=a6 (.slice d)) (o:P.underlying u=a6 .string) {w:World} {B:Nat} {i:TypeInfo} (hi:P.info? d=a6 i) (q:i.zero=a6 (.int .u8 0)) (z:i.size=1) (x:i.bytes=1)
  {v:Value} {n:Nat} {h:List Value} (p:w.ownsRow B d 1 v n h) (s:ByteArray) (D:n+s.size<=140737488355328) (E:B<=w.heap.size) (ty:TypeId):
  ∃e w',(Builtin.append_ #[t,u] ty #[v,.string s]).run P w=.ok e w'/\w'.ownsRow B d 1 e (n+s.size) (h++Lib.strCells s)/\w.grownBy w' v.ownBlock/\(e.ownBlock=v.ownBlock\/e.ownBlock=a6 w.heap.size)/\e.oneCell'=true:=by
 obtain⟨e,w',f,A,G,M⟩:=Lib.run_append_own_string (P:=P) w B t u ty d i l o hi q z x v n h p s (by simp only[maxLen];omega) D E;obtain⟨N,O,I,_⟩:=ry A;refine⟨e,w',f,A,G, ?_,by rw[I];rfl⟩;have S:h.length=n:=by simpa using p.1
 rcases p.2 with ⟨rfl,rfl⟩|⟨g,y,J,rfl,U,K,V,W,X,Y⟩
 .by_cases hm:s.size=0
  .simp_all
  .right;have hr:=run_append_nil_string (P:=P) w t u ty d i (.int .u8 0) l o hi q s (by omega) (by omega) (by rw[x];omega);rw[hr]at f;cases f;rfl
 .by_cases hroom:n+s.size<=y
  .left;have hr:=Lib.run_append_room_string (P:=P) w t u ty d i l o hi z g n y J K s hroom (by omega);rw[hr]at f;cases f;rfl
  .right;have holds: ∀j u,h[j]? =a6 u->w.cell? ((⟨g,0,a7⟩:Addr).add j)=a6 u:=p.cells (g:=g) rfl;have hr:=Lib.run_append_grow_string (P:=P) w t u ty d i (.int .u8 0) l o hi q ⟨g,0,a7⟩ n y h (by simp_all) holds s (by omega) (by omega) (by rw[x];exact growslice_fits (by omega) (by omega));rw[hr]at f;cases f;rfl
end
end
section
open Option renaming some → a6, none → a7
open Bool renaming and_eq_true → af
open List renaming length_append → ai, map_cons → ax, nil_append → aO
open Nat renaming le_refl → ae, eq_of_beq_eq_true → aj, le_mul_of_pos_right → bF
open Go.RowKit
section
variable {P:Program} {T:TT} {W0:World} {c:Cx} {R:Type} {r:R} {t:TypeId}
theorem rQ {d:Type} {l:List d} {b:Nat} (h:dY l b=true):l.length*b<=140737488355328:=by
 unfold dY kH at h;simp_all
theorem fP.one {w:World} {fr:Nat->Prop} {e:Ty}: ∀(xs:List e.den) (g:List Value),fP (eY w fr e) e.size xs g-> ∀u∈g,u.oneCell'=true
 |[],_,h=>by cases h;simp
 |y::i,_,⟨d,j,l,q,o,p⟩=>by
  subst l;intro u f;rcases List.mem_append.1 f with f|f
  .exact eY.one _ _ _ o u f
  .exact fP.one i j p u f
theorem ak9 (g:c.Ok W0) {st:St} (z:c.hp=st.hp) (A:c.nxt=st.nxt) {e:Ty} (B:0<e.size) {id d:Nat} {xs:List e.den} (i:dO c.hp id=a6 (.arr e d xs)) {f:Value} {w':World} {o:TypeId} {ws:List e.den} {p:List Value}
  (M:w'.ownsRow W0.heap.size o e.size f ws.length p) (hL:fP (eY c.w c.free e) e.size ws p) (l:c.w.grownBy w' (c.mu id).v.ownBlock) (D: ∀b,(c.mu id).v.ownBlock=a6 b->W0.heap.size<=b)
  (N:f.ownBlock=(c.mu id).v.ownBlock\/f.ownBlock=a6 c.w.heap.size) (E:f.oneCell'=true) (G:e=.int .u8->o=nH):
  ∃c',AQ W0 c st c' {st with hp:=iV st.hp id (.arr e (d+1) ws)}/\c'.w=w'/\bU c' (.slc id (d+1) a7) f:=by
 have I:Below W0.heap.size W0 w':=g.bel.grown l g.size D;have q:(dL.arr e d xs).like (c.mu id) (.arr e (d+1) ws) ⟨0,f⟩:=⟨by omega,fun h=>by omega⟩;have s: ∀b,b<c.w.heap.size->(dL.arr e d xs).blk (c.mu id)≠a6 b->w'.heap[b]? =c.w.heap[b]? :=fun b j O=>l.block b j (by
  grind [dL.blk])
 have u: ∀b,(dL.arr e (d+1) ws).blk ⟨0,f⟩=a6 b->(dL.arr e d xs).blk (c.mu id)=a6 b\/c.w.heap.size<=b:=fun b j=>by
  simp only[dL.blk]at j ⊢
  grind
 have x: ∀(b:Nat) (L:Loop),(dL.arr e d xs).blk (c.mu id)=a6 b->c.w.heap[b]? =a6 (Obj.loop L)-> ∃J:Loop,w'.heap[b]? =a6 (Obj.loop J):=fun b L j hL=>absurd hL ((g.obj id _ i).no_loop (by simp) j);have y:=Cx.Le.put (w:=w') g i q l.size s u x;refine⟨c.put id (.arr e (d+1) ws) ⟨0,f⟩ w',⟨by simp[Cx.put,z],A,rfl,rfl,g.put i q I l.size s u x ?_,y⟩,rfl, ?_⟩
 .refine⟨B,o,p, ?_,fP.mono (eY.mono y.free e) _ _ hL,G⟩;simp_all [Cx.put,upd_same]
 .simp only[bU];refine⟨E,.inl ⟨_,Cx.put_get i⟩,fun S U V K=> ?_⟩;rw[Cx.put_get i]at K;simp_all [ja,Cx.put,upd_same]
theorem Q7 (hT:TOk P T) (o:c.Ok W0) {st:St} (J:c.hp=st.hp) (K:c.nxt=st.nxt) {f:TypeId} (M:P.underlying t=a6 (.slice f)) (hk:(T.at f).known=true) {e:Ty} (j:(T.at f).size=e.size) (N:0<e.size) (O:0<(T.at f).bytes)
  {id p:Nat} {xs:List e.den} (y:dO c.hp id=a6 (.arr e p xs)) {v:Value} {k cp:Nat} {g:Option Addr} (A:(c.mu id).v=.slice g xs.length cp) (az:k<=xs.length) (S:v=.slice g k cp)
  {d:List e.den} {a:Option Addr} {m:Nat} {s:List Value} (u:fP (eY c.w c.free e) e.size d s) (U:s=[]\/ ∃b off,a=a6 ⟨b,off,a7⟩/\b<c.w.heap.size/\gW c.w b off s)
  (aA:((xs.take k++d).length)*(T.at f).bytes<=140737488355328) (ty:TypeId) (V:e=.int .u8->f=nH):
  ∃c' x,AQ W0 c st c' {st with hp:=iV st.hp id (.arr e (p+1) (xs.take k++d))}/\(Builtin.append_ #[t,t] ty #[v,.slice a d.length m]).run P c.w=.ok x c'.w/\bU c' (.slc id (p+1) a7) x:=by
 obtain⟨_,W,X,B,hL,Y⟩:=o.obj id _ y;obtain⟨i,z,Z,ab,ad,hz,ag,aB⟩:=hT.info hk;have ah:z.cells.size=e.size:=by
  have:=congrArg List.length ag;rw[hT.zlen hk,j]at this;simpa using this
 have ak:=fP.take k _ _ hL;have al:=fP.length _ _ u;have an:=fP.one _ _ u;have aF:(xs.take k).length=k:=by simp;omega
 have D:c.w.ownsRow W0.heap.size W e.size v k (X.take (k*e.size)):=by
  rw[A]at B;rcases B.2 with ⟨l,e2⟩|⟨g',aG,aH,l,_⟩
  .simp only[Value.slice.injEq]at l;obtain⟨rfl,_,rfl⟩:=l;simp_all [World.ownsRow_nil]
  grind [Zm]
 have ao:k+d.length<=maxLen:=by
  have h2:k+d.length<=(k+d.length)*(T.at f).bytes:=bF _ O
  grind [maxLen]
 obtain⟨x,w',l,hr,au,E,G,av,aw⟩:=H7 M Z hz ab ad (by rw[ah,j]) (by omega) (by rw[j];exact D) (a:=a) (cp:=m) (by rw[j];exact al) an (U.imp (fun h=>h) fun⟨b,off,q1,_,q3⟩=>⟨b,off,q1,q3⟩) ao
  (by simp_all) o.size ty
 rw[j]at au;have I:v.ownBlock=(c.mu id).v.ownBlock:=by rw[A,S];cases g<;>rfl
 have ay: ∀b,(c.mu id).v.ownBlock=a6 b->W0.heap.size<=b:=fun b hb=>(World.ownsRow.lt D b (I.trans hb)).1;rw[I]at E G;obtain⟨c',d1,d2,d3⟩:=ak9 o J K N y (ws:=xs.take k++d) (by simp_all) (fP.append _ _ _ _ ak u) E ay G av (fun h=>aw.elim (fun q=>q.trans (Y h)) fun q=>q.trans (V h))
 grind
theorem Lm {w:World} {fr:Nat->Prop} (s:List UInt8):fP (eY w fr (.int .u8)) (Ty.int .u8).size (dD s) (Lib.strCells ⟨s.toArray⟩):=by
 induction s with
 |nil=>rfl
 |cons b l d=>
  refine⟨[.int .u8 b.toNat],Lib.strCells ⟨l.toArray⟩,by simp[Lib.strCells],rfl,rfl, ?_⟩
  assumption
theorem an9 (hT:TOk P T) (A:c.Ok W0) {cl:Bool} {dst:Option Tmp} {ty:TypeId} {pos:String} {after:Array Edge} {guard:Option (Nat×Bool)} {st:St} {a:Act} {K:bQ->St->Option R} {args:Array Operand} {t t':TypeId} {s x:bQ} (J:c.hp=st.hp) (Y:c.nxt=st.nxt) (Z:bJ c st.fr a.tmps.toList)
  (B:args.toList.map (gY st.fr)=[s,x]) (h:zL T cl dst t t' s x st K=a6 r):Hz P W0 c st ⟨dst,.call {callee:=.builtin .append,args:=args,argTypes:=[t,t'].toArray},ty,pos,after,guard⟩ a K r:=by
 obtain⟨al⟩:=args
 match al,B with
 |[D,M],B=>
  simp only[ax,List.map_nil,List.cons.injEq,and_true]at B;obtain⟨rfl,rfl⟩:=B;have o:=dR Z D;have E:=dR Z M;have aH: ∀w,(execOp a.eval ⟨dst,.call {callee:=.builtin .append,args:=[D,M].toArray,argTypes:=[t,t'].toArray},ty,pos,after,guard⟩).run P w=
    ((Builtin.append_ #[t,t'] ty #[a.eval D,a.eval M]).run P w).andThen fun v G=>.ok (.value v) G:=fun w=>by
   simp[execOp,resolve,invoke,builtin,Sem.run_bind]
  unfold zL at h;split at h
  .rename_i d y an ao
   rw[ao]at E;simp only[bU]at E;have E:=E.str_inv;split at h
   .rename_i he
    replace h:=dG h;obtain⟨hc,h⟩:=h;simp only[af]at hc;obtain⟨⟨au,av⟩,ab⟩:=hc;have ad:=Ff hT au;obtain⟨hu,hk,aI,aJ,aK⟩:=qG hT an av;have ab:(T.at d).bytes=1:=aj ab;obtain⟨i,z,N,aP,aQ,hz,aS,aU⟩:=hT.info hk;have O:d=nH:=hT.byte hk he;have ag:i.zero=a6 (.int .u8 0):=by
     rcases(hT d hk).2.2.1 with q|q
     .simp_all
     .rw[he]at q;have aw:(T.at d).k=.int .u8:=by
       cases hkq:(T.at d).k with
       |int k=>simp_all [lG]
       |struct fs=>
        rw[hkq]at q;simp only[lG]at q;cases fs with
        |nil=>simp[jG]at q
        |cons f l=>
         grind [jG]
       |slice e'=>
        rw[hkq]at q;simp only[lG]at q;cases hq:(T.at e').ty<;>rw[hq]at q<;>simp at q
       |bool=>rw[hkq]at q;cases q
       |str=>rw[hkq]at q;cases q
       |other=>rw[hkq]at q;cases q
       |fn=>rw[hkq]at q;cases q
       |ptr e'=>rw[hkq]at q;cases q
       |map _ _=>rw[hkq]at q;cases q
      exact hT.zero_byte hk aw N
    cases hsv:gY st.fr D with
    |nils=>
     rw[hsv]at h o;simp only at h;simp only[bU]at o;obtain⟨j,h⟩:=gy h;have j:y.length<=140737488355328:=of_decide_eq_true j;obtain⟨v',G,hr,p,g,ah,S⟩:=Q8 (ty:=ty) hu ad N ag (by omega) (by omega) (World.ownsRow_nil c.w c.w.heap.size d 1) ⟨y.toArray⟩ (by show 0+y.toArray.size<=_;simpa using j) (ae _);obtain⟨id,n',f1,f2,f3,f4⟩:=jf h;have ay:Below c.w.heap.size c.w G:=⟨g.os,g.tape,g.output,g.size,fun k hk=>g.block k hk (by simp[Value.ownBlock])⟩;have az:0+(⟨y.toArray⟩:ByteArray).size=(dD y).length:=by show 0+y.toArray.size=_;simp[dD]
     rw[aO,az]at p;obtain⟨U,V,d2,W⟩:=qZ A J Y f1 f2 f3 (y:=.int .u8) (by simp[Ty.size]) ay d _ p (Lm y) S (fun _=>O);exact⟨_,_,U,_,f4,V,W,.inl (by simp_all)⟩
    |slc id ver vw=>
     rw[hsv]at h o;simp only at h;split at h
     .rename_i u xs I
      rw[<-J]at I;replace h:=dG h;obtain⟨X,h⟩:=h;have X:u=ver:=by simpa using X
      subst X;split at h
      .replace h:=gy h;obtain⟨j,h⟩:=h;have j:=rQ j;simp only[bU]at o;have aA:=(o.2.2 _ _ _ I).2 rfl;simp only[ja]at aA;obtain⟨_,e0,zs,ak,hL,aB⟩:=A.obj id _ I;have aF:e0=d:=(aB rfl).trans O.symm;subst aF;have aG:(⟨y.toArray⟩:ByteArray).size=(dD y).length:=by show y.toArray.size=_;simp[dD]
       obtain⟨v',G,hr,p,g,ah,S⟩:=Q8 (ty:=ty) hu ad N ag (by omega) (by omega) ak ⟨y.toArray⟩ (by simp_all) A.size;rw[aG,<-ai]at p;obtain⟨U,V,d2,W⟩:=ak9 A J Y (e:=.int .u8) (by simp[Ty.size]) I p (fP.append _ _ _ _ hL (Lm y)) g (fun b hb=>(World.ownsRow.lt ak b hb).1) ah S (fun _=>O);exact⟨_,_,U,_,h,V,W,.inl (by simp_all)⟩
      .cases h
     .cases h
    |_=>rw[hsv]at h;cases h
   .cases h
  .cases h
theorem atZ (hT:TOk P T) (D:c.Ok W0) {cl:Bool} {call:gz R} {o:Oper} {st:St} {a:Act} {K:bQ->St->Option R} {args:Array Operand} {ts:Array TypeId} (E:c.hp=st.hp) (V:c.nxt=st.nxt) (aI:bJ c st.fr a.tmps.toList)
  (ho:o.op=.call {callee:=.builtin .append,args:=args,argTypes:=ts}) (h:eF T cl call o st K=a6 r):Hz P W0 c st o a K r:=by
 obtain⟨aW,op,S,aX,aY,aZ⟩:=o;simp only at ho;subst ho;simp only[eF,jZ]at h;split at h<;>try (cases h;done)
 all_goals try (rename_i hb _;cases hb;done)
 rename_i s x hb ad
 split at h<;>try (cases h;done)
 rename_i t t' aJ
 obtain⟨ts⟩:=ts;simp only at aJ;subst aJ;rw[cond_eq_ite]at h;split at h
 rotate_left
 .grind [an9]
 rename_i ak
 have ak:t=t':=by simpa using ak
 subst ak;obtain⟨al⟩:=args
 match al,ad with
 |[s0,x0],ad=>
  simp only[ax,List.map_nil,List.cons.injEq,and_true]at ad;obtain⟨rfl,rfl⟩:=ad;have f:=dR aI s0;have hx:=dR aI x0;have aK: ∀w,(execOp a.eval ⟨aW,.call {callee:=.builtin .append,args:=[s0,x0].toArray,argTypes:=[t,t].toArray},S,aX,aY,aZ⟩).run P w=
    ((Builtin.append_ #[t,t] S #[a.eval s0,a.eval x0]).run P w).andThen fun v w'=>.ok (.value v) w':=fun w=>by
   simp[execOp,resolve,invoke,builtin,Sem.run_bind]
  unfold Jv at h;split at h
  .rename_i et ag
   split at h
   .rename_i e he
    split at h
    .cases h
    .rename_i j aP
     rw[<-E]at aP;obtain⟨a2,m2,an,aQ,l,ah⟩:=abM D aP hx;split at h
     .
      rename_i W
      rw[W]at f;simp only[bU]at f;replace h:=gy h;obtain⟨p,h⟩:=h;simp only[af]at p;obtain⟨y,hk,d,G,I⟩:=qG hT ag p.1;have X:=rQ p.2;obtain⟨i,z,J,ao,au,hz,aw,bd⟩:=hT.info hk;have ay:z.cells.size=e.size:=by
       have:=congrArg List.length aw;rw[hT.zlen hk,d]at this;simpa using this
      have az:=fP.length _ _ l;have aA:=fP.one _ _ l;have aS:0+j.length<=maxLen:=by
       have h2:j.length<=j.length*(T.at et).bytes:=bF _ I;simp only[maxLen];omega
      obtain⟨v',w',e1,hr,Y,M,bD,aB,aF⟩:=H7 y J hz ao au (by rw[ay,d]) (by omega) (World.ownsRow_nil c.w c.w.heap.size et (T.at et).size) (a:=a2) (cp:=m2) (by rw[d];exact az) aA (ah.imp (fun h=>h) fun⟨b,aU,q1,_,q3⟩=>⟨b,aU,q1,q3⟩) aS
       (by simp_all) (ae _) S
      rw[d,aO,Nat.zero_add]at Y;obtain⟨id,n',f1,f2,f3,f4⟩:=jf h;have bf:Below c.w.heap.size c.w w':=⟨M.os,M.tape,M.output,M.size,fun k hk=>M.block k hk (by simp[Value.ownBlock])⟩;obtain⟨N,A,d2,O⟩:=qZ D E V f1 f2 f3 G bf e1 an Y l aB (fun q=>(aF.elim (fun q=>q) fun q=>q).trans (hT.byte hk (by rw[he,q])));exact⟨_,_,N,_,f4,A,O,.inl (by simp_all)⟩
     .
      rename_i W
      rw[W]at f;simp only[bU]at f;obtain⟨Z,f⟩:=f;replace h:=gy h;obtain⟨p,h⟩:=h;simp only[af]at p;obtain⟨y,hk,d,G,I⟩:=qG hT ag p.1;have X:=rQ p.2;obtain⟨i,z,J,ao,au,hz,aw,bd⟩:=hT.info hk;have ay:z.cells.size=e.size:=by
       have:=congrArg List.length aw;rw[hT.zlen hk,d]at this;simpa using this
      have az:=fP.length _ _ l;have aA:=fP.one _ _ l;have aS:0+j.length<=maxLen:=by
       have h2:j.length<=j.length*(T.at et).bytes:=bF _ I;simp only[maxLen];omega
      cases hlt:PG 0 j.length with
      |false=>
       rw[hlt]at h;simp only[ac]at h;have h0:j.length=0:=by simpa [PG] using hlt
       refine⟨.emp,.slice Z 0 0,c,st,h,AQ.refl D E V,by simp only[bU];exact⟨Z,rfl⟩,.inl ?_⟩;rw[aK,f,aQ,h0];cases a2<;>cases Z<;>simp[Builtin.append_,run_underlying y,sizeOf,typeInfo,J,Builtin.lenOf,Builtin.firstCells,loadCells,loadCellsFrom,storeCells]
      |true=>
       rw[hlt]at h;simp only[aa]at h;have bg:0<j.length:=by simpa [PG] using hlt
       have bi:an≠[]:=by
        grind [Nat.mul_pos]
       obtain⟨b,aU,rfl,_,hc⟩:=ah.resolve_left bi;obtain⟨v',w',e1,hr,Y,M,aB,aF⟩:=afL hT y J hz ao au (by rw[ay,d]) (by omega) (w:=c.w) (av:=Z) (cp:=m2) (by rw[d];exact az) aA hc bg (by omega) X S;rw[d]at Y;obtain⟨id,n',f1,f2,f3,f4⟩:=jf h;obtain⟨N,A,d2,O⟩:=qZ D E V f1 f2 f3 G M e1 an Y l aB (fun q=>aF.trans (hT.byte hk (by rw[he,q])));exact⟨_,_,N,_,f4,A,O,.inl (by simp_all)⟩
     .
      rename_i id bn vw W
      rw[W]at f;split at h
      .rename_i e' u xs ab
       rw[<-E]at ab;replace h:=dG h;obtain⟨aG,h⟩:=h;have aG:u=bn:=by simpa using aG
       subst aG;split at h
       .rename_i cb aH
        have bt:=iy aH;cases bt;rw[fV]at aH;cases aH;simp only[bU]at f;have U:=(f.2.2 _ _ _ ab).2 rfl;obtain⟨_,e0,zs,bu,hL,cc⟩:=D.obj id _ ab;obtain⟨g,cp,hv,p,_⟩:=ry bu;split at h
        .replace h:=gy h;obtain⟨B,h⟩:=h;simp only[af]at B;obtain⟨y,hk,d,G,I⟩:=qG hT ag B.1;have X:=rQ B.2;simp only[ja]at U;rw[hv]at U;obtain⟨N,v',A,d2,O⟩:=Q7 hT D E V y hk d G I ab hv (ae _) U (m:=m2) l ah (by simp_all) S (fun q=>hT.byte hk (by rw[he,q]));rw[List.take_length]at A;exact⟨_,_,N,_,h,A,O,.inl (by simp_all)⟩
        .rename_i lo J
         replace h:=gy h;obtain⟨B,h⟩:=h;simp only[af,bP,beq_iff_eq]at B;obtain⟨B,rfl,bz⟩:=B;obtain⟨y,hk,d,G,I⟩:=qG hT ag B;have X:=rQ bz;simp only[ja]at U;obtain⟨g',m',cd,aV,p1,p2,p3,U⟩:=U;rw[hv]at aV;cases aV;have bC:a.eval s0=.slice g J.toNat cp:=by
          simp_all [Addr.add]
         obtain⟨N,v',A,d2,O⟩:=Q7 hT D E V y hk d G I ab hv (k:=J.toNat) (by omega) bC (m:=m2) l ah X S (fun q=>hT.byte hk (by rw[he,q]));exact⟨_,_,N,_,h,A,O,.inl (by rw[aK,aQ,d2];rfl)⟩
       .cases h
      .cases h
     .cases h
   .cases h
  .cases h
end
end
section
open Option renaming some → a6, none → a7
open Bool renaming and_eq_true → af
open List renaming append_assoc → ag, length_append → ai, map_cons → ax, nil_append → aO, drop_of_length_le → aQ, take_of_length_le → bn
open Nat renaming le_refl → ae, eq_of_beq_eq_true → aj, le_trans → aB
open Go.RowKit
section
variable {P:Program} {T:TT} {W0:World} {c:Cx} {R:Type} {r:R} {t:TypeId}
theorem G8 {cs vs d:List bQ} {off:Nat} (h:putCells cs off vs=a6 d):off+vs.length<=cs.length/\d=cs.take off++vs++cs.drop (off+vs.length):=by
 unfold putCells at h;replace h:=dG h;simp_all
theorem O7 (hT:TOk P T) (hk:(T.at t).known=true) {w:World} {g o:Nat} {d:Array Value} {e:TypeId} (f:w.heap[g]? =a6 (.cells d e (0,0))) {v:Value} (hl:v.cells.size=(T.at t).size) (h:o+v.cells.size<=d.size)
  (i: ∀u∈v.cells.toList,u.oneCell'=true):
  (Instr.storeAt t (.pointer (a6 ⟨g,o,a7⟩)) v).run P w=.ok () (w.setRow g (d.toList.take o++v.cells.toList++d.toList.drop (o+v.cells.size)).toArray):=by
 have j:=run_storeCells_at P g o e v.cells.toList 0 d w f (by simpa using h) i;simp only[Nat.add_zero,Array.length_toList]at j;simp only[Instr.storeAt,Instr.sureAddr,Sem.run_bind,Sem.run_pure,Result.andThen_ok,storeVar,hT.sizeOf hk w,Sem.run_ite];simp_all
theorem at6 (hT:TOk P T) (s:c.Ok W0) {dst:Option Nat} {ty:TypeId} {pos} {after} {guard} {st:St} {a:Act} {K:St->Option R} {x y:Operand} (V:c.hp=st.hp) (ao:c.nxt=st.nxt) (au:bJ c st.fr a.tmps.toList)
  (h:JB T st t (gY st.fr x) (gY st.fr y) K=a6 r): ∃c' av,K av=a6 r/\AQ W0 c st c' av/\(execOp a.eval ⟨dst,.store t x y,ty,pos,after,guard⟩).run P c.w=.ok .skip c'.w:=by
 simp only[JB]at h;split at h
 .cases h
 rename_i l aF
 replace h:=dG h;obtain⟨hk,h⟩:=h;simp only[af,beq_iff_eq]at hk;obtain⟨hk,aw⟩:=hk;obtain⟨r1,r2⟩:=LJ aF (dR au y);have hl:l.length=(a.eval y).cells.size:=by simpa using bJ.length _ _ r1
 have D:=dR au x;have ay: ∀w Z,(Instr.storeAt t (a.eval x) (a.eval y)).run P w=.ok () Z->(execOp a.eval ⟨dst,.store t x y,ty,pos,after,guard⟩).run P w=.ok .skip Z:=fun w Z hw=>by
  simp_all [execOp]
 split at h
 .rename_i id f ab
  rw[ab]at D;split at h
  .rename_i E cs z
   split at h
   .rename_i aZ W
    obtain⟨p1,rfl⟩:=G8 W;rw[<-V]at z;simp only[bU]at D;have hv:=D.2.2 _ _ z;obtain⟨hB,us,h3,h4,h5⟩:=s.obj id _ z;have bd:cs.length=us.size:=by simpa using bJ.length _ _ h4
    have G:=O7 (o:=f) hT hk h3 (v:=a.eval y) (by rw[<-hl,aw]) (by omega) r2;rw[<-hv]at G;have J:(dL.box E cs).like (c.mu id) (.box E (cs.take f++l++cs.drop (f+l.length))) (c.mu id):=rfl;have M:c.w.heap.size<=(c.w.setRow (c.mu id).blk (us.toList.take f++(a.eval y).cells.toList++us.toList.drop (f+(a.eval y).cells.size)).toArray).heap.size:=by simp
    have N: ∀b,b<c.w.heap.size->(dL.box E cs).blk (c.mu id)≠a6 b->(c.w.setRow (c.mu id).blk (us.toList.take f++(a.eval y).cells.toList++us.toList.drop (f+(a.eval y).cells.size)).toArray).heap[b]? =c.w.heap[b]? :=
     fun b _ ad=>setRow_other _ _ _ _ (fun e=>ad (by simp[dL.blk,e]))
    have O: ∀b,(dL.box E (cs.take f++l++cs.drop (f+l.length))).blk (c.mu id)=a6 b->(dL.box E cs).blk (c.mu id)=a6 b\/c.w.heap.size<=b:=fun b A=>.inl A;have S: ∀(b:Nat) (L:Loop),(dL.box E cs).blk (c.mu id)=a6 b->c.w.heap[b]? =a6 (Obj.loop L)-> ∃L':Loop,(c.w.setRow (c.mu id).blk (us.toList.take f++(a.eval y).cells.toList++us.toList.drop (f+(a.eval y).cells.size)).toArray).heap[b]? =a6 (Obj.loop L'):=fun b L A hL=>absurd hL ((s.obj id _ z).no_loop (by simp) A);have X:=Cx.Le.put (w:=c.w.setRow (c.mu id).blk (us.toList.take f++(a.eval y).cells.toList++us.toList.drop (f+(a.eval y).cells.size)).toArray) s z J M N O S;have ah:Below W0.heap.size W0 (c.w.setRow (c.mu id).blk (us.toList.take f++(a.eval y).cells.toList++us.toList.drop (f+(a.eval y).cells.size)).toArray):=
     s.bel.trans ⟨rfl,rfl,rfl,by simp,fun k hk=>setRow_other _ _ _ _ (by omega)⟩
    refine⟨c.put id _ (c.mu id) _,_,h,⟨by simp[Cx.put,V],ao,rfl,rfl,s.put z J ah M N O S ?_,X⟩,ay _ _ G⟩;refine⟨by simp only[Cx.put,upd_same];exact hB,(us.toList.take f++(a.eval y).cells.toList++us.toList.drop (f+(a.eval y).cells.size)).toArray, ?_, ?_, ?_⟩
    .simp only[Cx.put,upd_same]
     grind [setRow_heap]
    .grind [bJ.append,bJ.take,bJ.drop,bJ.le]
    grind
   .cases h
  .cases h
 .rename_i id aG i f ab
  rw[ab]at D;split at h
  .rename_i e u xs I
   rw[<-V]at I;replace h:=dG h;obtain⟨ak,h⟩:=h;have ak:u=aG:=by simpa using ak
   subst ak;replace h:=dG h;obtain⟨U,h⟩:=h;have U:i<xs.length:=by simpa [PG] using U
   split at h
   .rename_i cs W
    split at h
    .rename_i x' aH
     simp only[bU]at D;obtain⟨B,n',aI,q1,q2⟩:=(D.2.2 _ _ _ I).2 rfl;obtain⟨aJ,e0,zs,al,hL,aK⟩:=s.obj id _ I;rcases al.2 with ⟨Y,e2⟩|⟨g,bf,j,Y,e2,e3,e4,e5,e6,e7⟩
     .omega
     rw[q1]at Y;simp only[Value.slice.injEq,Option.some.injEq,Addr.mk.injEq,and_true]at Y;obtain⟨rfl,rfl,rfl⟩:=Y;obtain⟨d,d1,d2,p,q,d3,d4⟩:=fP.at_ i xs zs U hL;have aP:xs.getD i e.dflt=xs[i]:=by simp[List.getD,U]
     rw[aP]at W;obtain⟨p1,rfl⟩:=G8 W;have hf:=Dz (c:=c) e _ _ d2;have bg:=bJ.length _ _ hf;have bi:f+l.length<=d.length:=by omega
     have aS:=bJ.append _ _ _ _ (bJ.append _ _ _ _ (bJ.take f _ _ hf) r1) (bJ.drop (f+l.length) _ _ hf);have az:=oO aH aS;have aU:=eY.length _ _ _ az;have an:j.toList=p++d++q++j.toList.drop (xs.length*e.size):=by
      grind [List.take_append_drop]
     have z:j.size=xs.length*e.size+(j.toList.drop (xs.length*e.size)).length:=by
      have h1:=congrArg List.length an;have h2:=congrArg List.length d3;rw[al.1]at h2
      grind
     have aA:=congrArg List.length d3;rw[al.1]at aA;simp only[ai]at aA;have G:=O7 (o:=i*e.size+f) hT hk e3 (v:=a.eval y) (by rw[<-hl,aw]) (by omega) r2;rw[<-q2]at G;have aV:j.toList.take (i*e.size+f)++(a.eval y).cells.toList++j.toList.drop (i*e.size+f+(a.eval y).cells.size)=p++(d.take f++(a.eval y).cells.toList++d.drop (f+l.length))++q++j.toList.drop (xs.length*e.size):=by
      have t1:j.toList.take (i*e.size+f)=p++d.take f:=by
       rw[an,ag,ag,List.take_append,bn (by omega),d4,Nat.add_sub_cancel_left,List.take_append_of_le_length (by omega)]
      have t2:j.toList.drop (i*e.size+f+(a.eval y).cells.size)=d.drop (f+l.length)++q++j.toList.drop (xs.length*e.size):=by
       conv=>lhs;rw[an]
       rw[ag,ag,List.drop_append,aQ (by omega),aO,d4,List.drop_append,List.drop_append];have z1:i*e.size+f+(a.eval y).cells.size-i*e.size=f+l.length:=by omega
       have z2:f+l.length-d.length=0:=by omega
       rw[z1,z2];simp
      rw[t1,t2];simp
     rw[aV]at G;have aW:=fP.set x' (d.take f++(a.eval y).cells.toList++d.drop (f+l.length)) aU az i xs p d q U (by grind) d4 d1;generalize d.take f++(a.eval y).cells.toList++d.drop (f+l.length)=d' at*;have J:(dL.arr e u xs).like (c.mu id) (.arr e u (gX xs i x')) (c.mu id):=⟨ae _,fun _=>⟨rfl,rfl⟩⟩;have aX:(dL.arr e u xs).blk (c.mu id)=a6 B:=by simp[dL.blk,q1,Value.ownBlock]
     have M:c.w.heap.size<=(c.w.setRow B (p++d'++q++j.toList.drop (xs.length*e.size)).toArray).heap.size:=by simp
     have N: ∀b,b<c.w.heap.size->(dL.arr e u xs).blk (c.mu id)≠a6 b->(c.w.setRow B (p++d'++q++j.toList.drop (xs.length*e.size)).toArray).heap[b]? =c.w.heap[b]? :=
      fun b _ ad=>setRow_other _ _ _ _ (fun e=>ad (by rw[aX,e]))
     have O: ∀b,(dL.arr e u (gX xs i x')).blk (c.mu id)=a6 b->(dL.arr e u xs).blk (c.mu id)=a6 b\/c.w.heap.size<=b:=fun b A=>.inl A;have S: ∀(b:Nat) (L:Loop),(dL.arr e u xs).blk (c.mu id)=a6 b->c.w.heap[b]? =a6 (Obj.loop L)-> ∃L':Loop,(c.w.setRow B (p++d'++q++j.toList.drop (xs.length*e.size)).toArray).heap[b]? =a6 (Obj.loop L'):=fun b L A hL=>absurd hL ((s.obj id _ I).no_loop (by simp) A);have X:=Cx.Le.put (w:=c.w.setRow B (p++d'++q++j.toList.drop (xs.length*e.size)).toArray) s I J M N O S;have ah:Below W0.heap.size W0 (c.w.setRow B (p++d'++q++j.toList.drop (xs.length*e.size)).toArray):=
      s.bel.trans ⟨rfl,rfl,rfl,by simp,fun k hk=>setRow_other _ _ _ _ (by omega)⟩
     refine⟨c.put id _ (c.mu id) _,_,h,⟨by simp[Cx.put,V],ao,rfl,rfl,s.put I J ah M N O S ?_,X⟩,ay _ _ G⟩;refine⟨aJ,e0,p++d'++q, ?_,fP.mono (eY.mono X.free e) _ _ aW,aK⟩;have aY:(p++d'++q).length=xs.length*e.size:=by
      grind
     simp only[Cx.put,upd_same,gX,List.length_set];refine⟨aY,.inr ⟨B,aI,_,q1,e2,setRow_heap c.w _ j _ e0 _ e3,e4,e5, ?_, ?_⟩⟩
     all_goals grind
    .cases h
   .cases h
  .cases h
 .cases h
theorem G7 {w:World} {B:Nat} {e:TypeId} {size n:Nat} {v d:Value} {i:List Value} (h:w.ownsRow B e size v n i) {hi:Int} (h0:0<=hi) (D:hi<=n) (s:ja size v (a6 (0,hi)) d):
  w.ownsRow B e size d hi.toNat (i.take (hi.toNat*size))/\ ∀b,d.ownBlock=a6 b->v.ownBlock=a6 b:=by
 obtain⟨a,m,cp,j,_,_,E,u⟩:=s;have hk:hi.toNat<=n:=by omega
 have q:(i.take (hi.toNat*size)).length=hi.toNat*size:=by
  rw[List.length_take,h.1];simp_all
 rcases h.2 with ⟨f,l⟩|⟨g,G,x,f,l,y,I,z,A,J⟩
 .rw[j]at f;cases f;subst l;have:hi.toNat=0:=by omega
  have o:d=.slice a7 0 0:=by rw[u,this];rfl
  subst o;refine⟨⟨q,.inl ⟨rfl,this⟩⟩,fun b p=>by cases p⟩
 .rw[j]at f;cases f;have o:d=.slice (a6 ⟨g,0,a7⟩) hi.toNat cp:=by
   grind [Addr.add]
  subst o;subst j;refine⟨⟨q,.inr ⟨g,cp,x,rfl,l,y,by omega,z,A, ?_⟩⟩,fun b p=>p⟩
  grind
theorem ax8 {st:St} {c':Cx} {h:St} (hd:AQ W0 c st c' h) {id off i:Nat} {j:TypeId} {cs:List bQ} {e:Ty} {w:Nat} {xs:List e.den} {hi:Int} (ak:id≠i)
  (s:dO h.hp id=a6 (.box j cs)) (f:dO h.hp i=a6 (.arr e w xs)) (al:cs.getD off .undef=.slc i w (a6 (0,hi))):
  ∃u,AQ W0 c st u {h with hp:=iV (iV h.hp i (.arr e (w+1) (xs.take hi.toNat))) id (.box j (cs.set off (.slc i (w+1) a7)))}/\u.w=c'.w:=by
 have l:=hd.ok;rw[<-hd.hp]at s f;obtain⟨hB,us,h3,v,G⟩:=l.obj id _ s;have an:cs.length=us.toList.length:=bJ.length _ _ v;have ao:off<cs.length:=by
  grind
 have au:off<us.toList.length:=by omega
 have I:bU c' (.slc i w (a6 (0,hi))) us.toList[off]:=by
  have:=bJ.getD v off;simp_all
 obtain⟨J,K,M,x,hL,N⟩:=l.obj i _ f;have o:=I;simp only[bU]at o;have y:=(o.2.2 _ _ _ f).2 rfl;have⟨O,S⟩:0<=hi/\hi<=bI xs:=by
  obtain⟨a1,n1,d,z,_,U,V,_⟩:=y;obtain⟨a2,c2,W,_⟩:=ry x;rw[W]at z;cases z;exact⟨U,V⟩
 obtain⟨av,A⟩:=G7 x O S y;have hk:(dL.arr e w xs).like (c'.mu i) (.arr e (w+1) (xs.take hi.toNat)) ⟨(c'.mu i).blk,us.toList[off]⟩:=⟨by omega,fun e=>by omega⟩;have B:=Cx.Le.put (w:=c'.w) l f hk (ae _) (fun _ _ _=>rfl) (fun b g=>.inl (A b g)) (fun b L _ hL=>⟨L,hL⟩);have p:=Cx.Ok.put (w:=c'.w) l f hk l.bel (ae _) (fun _ _ _=>rfl) (fun b g=>.inl (A b g)) (fun b L _ hL=>⟨L,hL⟩) (by
  refine⟨J,K,M.take (hi.toNat*e.size), ?_,fP.take _ _ _ (fP.mono (eY.mono B.free e) _ _ hL),N⟩;simp_all [bI,Cx.put,upd_same])
 have aw:bU (c'.put i (dL.arr e (w+1) (List.take hi.toNat xs)) ⟨(c'.mu i).blk,us.toList[off]⟩ c'.w) (.slc i (w+1) a7) us.toList[off]:=by
  simp only[bU];refine⟨o.1,.inl ⟨_,Cx.put_get f⟩,fun t' u' ay X=> ?_⟩;rw[Cx.put_get f]at X;simp_all [ja,Cx.put,upd_same]
 have D:dO (c'.put i (dL.arr e (w+1) (List.take hi.toNat xs)) ⟨(c'.mu i).blk,us.toList[off]⟩ c'.w).hp id=a6 (.box j cs):=by
  simp only[Cx.put,jy]
  grind
 have az:(c'.put i (dL.arr e (w+1) (List.take hi.toNat xs)) ⟨(c'.mu i).blk,us.toList[off]⟩ c'.w).mu id=c'.mu id:=by
  simp_all [Cx.put,upd_ne]
 generalize q:c'.put i (dL.arr e (w+1) (List.take hi.toNat xs)) ⟨(c'.mu i).blk,us.toList[off]⟩ c'.w=d at*;have Y:d.w=c'.w:=by rw[<-q];rfl
 have Z:d.hp=iV c'.hp i (.arr e (w+1) (xs.take hi.toNat)):=by rw[<-q];rfl
 have ab:d.nxt=c'.nxt:=by rw[<-q];rfl
 have E:(dL.box j cs).like (d.mu id) (.box j (cs.set off (.slc i (w+1) a7))) (d.mu id):=rfl;have ad:=Cx.Le.put (w:=d.w) p D E (ae _) (fun _ _ _=>rfl) (fun b g=>.inl g) (fun b L _ hL=>⟨L,hL⟩);have ah:=Cx.Ok.put (w:=d.w) p D E p.bel (ae _) (fun _ _ _=>rfl) (fun b g=>.inl g) (fun b L _ hL=>⟨L,hL⟩) (by
  refine⟨by simp_all [Cx.put,upd_same],us,by simp_all [Cx.put,upd_same], ?_,G⟩
  grind [bJ.le,bJ.setL])
 refine⟨_,⟨?_, ?_,hd.fr,hd.stk,ah,(hd.le.trans B).trans ad⟩,Y⟩
 .simp only[Cx.put];rw[Z,hd.hp]
 .show d.nxt=h.nxt;rw[ab,hd.nxt]
theorem anG {g:gK} {st:St} {x y:bQ} {K:St->Option R} {c':Cx} {f:St} (hd:AQ W0 c st c' f) (h:ac5 g f x y K=a6 r): ∃d e,K e=a6 r/\AQ W0 c st d e/\d.w=c'.w:=by
 have same:K f=a6 r-> ∃d e,K e=a6 r/\AQ W0 c st d e/\d.w=c'.w:=fun h=>⟨c',f,h,hd,rfl⟩;unfold ac5 at h;split at h
 .split at h
  .split at h
   .rw[cond_eq_ite]at h;split at h
    .rename_i i
     simp only[af,Bool.not_eq_true']at i;split at h
     .rename_i l o
      split at h
      .rename_i p
       rw[cond_eq_ite]at h;split at h
       .rename_i j
        simp only[af,beq_iff_eq]at j
        grind [aj,ax8]
       .exact same h
      .exact same h
     .exact same h
    .exact same h
   .exact same h
  .exact same h
 .exact same h
theorem ay8 (hT:TOk P T) (l:c.Ok W0) {cl:Bool} {call:gz R} {o:Oper} {st:St} {a:Act} {K:bQ->St->Option R} {x y:Operand} (p:c.hp=st.hp) (q:c.nxt=st.nxt) (s:bJ c st.fr a.tmps.toList)
  (d:o.op=.store t x y) (h:eF T cl call o st K=a6 r):Hz P W0 c st o a K r:=by
 obtain⟨e,G,f,g,i,j⟩:=o;simp only at d;subst d;simp only[eF]at h;obtain⟨I,J,u,hd,v⟩:=at6 (dst:=e) (ty:=f) (pos:=g) (after:=i) (guard:=j) hT l p q s h;obtain⟨z,A,B,D,E⟩:=anG hd u;exact⟨_,undef,z,A,B,D,by simp[bU],.inr ⟨by rw[E];exact v,rfl⟩⟩
theorem VM (w:World) (t d ty:TypeId) (B size n:Nat) (v:Value) (f:List Value) (e:TypeId) (h:w.ownsRow B e size v n f) (i:P.underlying ty=a6 (.pointer d)):
  ∃u w',(Builtin.unsafeSliceData_ #[t] ty #[v]).run P w=.ok u w'/\Below w.heap.size w w'/\u.oneCell'=true/\(∃p,u=.pointer p)/\ ∀a m cp,v=.slice a m cp->m≠0->u=.pointer a:=by
 rcases h.2 with ⟨rfl,rfl⟩|⟨g,j,l,rfl,_,o,s,_⟩
 .exact⟨_,w,Lib.run_unsafeSliceData_nil w _ _ 0 0,Below.refl _ _,rfl,⟨_,rfl⟩,fun a m cp h q=>by simp_all⟩
 .by_cases hc:j=0
  .subst hc;refine⟨_,_,Lib.run_unsafeSliceData_zero w _ _ d i ⟨g,0,a7⟩ n (e,l.size) (by simp[World.shape?,o]),nX _ _,rfl,⟨_,rfl⟩,fun a m cp h q=> ?_⟩;cases h;omega
  .exact⟨_,w,Lib.run_unsafeSliceData_row w _ _ _ _ _ hc,Below.refl _ _,rfl,⟨_,rfl⟩,fun a m cp h _=>by cases h;rfl⟩
theorem ad8 (hT:TOk P T) (s:c.Ok W0) {cl:Bool} {call:gz R} {o:Oper} {st:St} {a:Act} {K:bQ->St->Option R} {args:Array Operand} {i:Array TypeId} (x:c.hp=st.hp) (G:c.nxt=st.nxt) (I:bJ c st.fr a.tmps.toList)
  (y:o.op=.call {callee:=.builtin .unsafeSliceData,args:=args,argTypes:=i}) (h:eF T cl call o st K=a6 r):Hz P W0 c st o a K r:=by
 obtain⟨J,op,j,M,N,O⟩:=o;simp only at y;subst y;simp only[eF,jZ]at h;split at h<;>try (cases h;done)
 all_goals try (rename_i z _;cases z;done)
 rename_i id ak z f
 split at h<;>try (cases h;done)
 rename_i t A
 split at h<;>try (cases h;done)
 rename_i e v xs d
 rw[cond_eq_ite]at h;split at h
 .rename_i B
  simp only[af,beq_iff_eq]at B;obtain⟨rfl,an,S⟩:=B;obtain⟨i⟩:=i;simp only at A;subst A;obtain⟨U⟩:=args
  match U with
  |[]=>simp at f
  |_::_::_=>simp at f
  |[l]=>
   simp only[ax,List.map_nil,List.cons.injEq,and_true]at f;have p:=dR I l;rw[f]at p;simp only[bU]at p;rw[<-x]at d;have D:=(p.2.2 _ _ _ d).2 rfl;simp only[ja]at D;obtain⟨_,V,W,X,hL,ao⟩:=s.obj id _ d;obtain⟨Y,Z⟩:=hT.isPtr S;obtain⟨u,q,hr,E,ab,hp,ad⟩:=VM c.w t Y j W0.heap.size e.size xs.length (c.mu id).v W V X Z;refine⟨_,u,c.at_ q,st,h,⟨x,G,rfl,rfl,s.ext E,Cx.Le.ext E⟩, ?_,.inl ?_⟩
   .simp only[bU];refine⟨ab,.inl ⟨_,d⟩,fun t' u' ah g=> ?_⟩;have g:dO c.hp id=a6 (.arr t' u' ah):=g;rw[d]at g;cases g;exact⟨ae _,fun _=>⟨hp,ad⟩⟩
   .have:(execOp a.eval ⟨J,.call {callee:=.builtin .unsafeSliceData,args:=[l].toArray,argTypes:=[t].toArray},j,M,N,O⟩).run P c.w=
      ((Builtin.unsafeSliceData_ #[t] j #[a.eval l]).run P c.w).andThen fun v q=>.ok (.value v) q:=by
     simp[execOp,resolve,invoke,builtin,Sem.run_bind]
    rw[this,D,hr];rfl
 .cases h
theorem KN (w:World): ∀(xs:List Int) (a:Addr) (d:ByteArray),(∀j x,xs[j]? =a6 x->w.cell? (a.add j)=a6 (.int .u8 x))->(loadBytes a d xs.length).run P w=.ok (xs.foldl (fun r n=>r.push (UInt8.ofNat n.toNat)) d) w
 |[],a,d,_=>by simp[loadBytes]
 |x::xs,a,d,h=>by
  have h0:w.cell? a=a6 (.int .u8 x):=by
   have:=h 0 x rfl
   assumption
  have f:=KN w xs (a.add 1) (d.push (UInt8.ofNat x.toNat)) fun j y e=>by
   have:=h (j+1) y (by simpa using e)
   grind [Addr.add]
  simp_all [loadBytes]
theorem UF {d it ty e:TypeId} (hp:P.underlying d=a6 (.pointer e)) (h:P.cellsOf e=1) (w:World) (g cells:Nat) (i:w.shape? g=a6 (e,cells)) (xs:List Int) (h0:xs≠[]) (A:xs.length<=cells) (B:xs.length<=9223372036854775807)
  (l: ∀j x,xs[j]? =a6 x->w.cell? ((⟨g,0,a7⟩:Addr).add j)=a6 (.int .u8 x)):
  (Builtin.unsafeString_ #[d,it] ty #[.pointer (a6 ⟨g,0,a7⟩),.int .i64 xs.length]).run P w=.ok (.string ⟨(ofBytes xs).toArray⟩) (w.freeze ⟨g,0,a7⟩ xs.length):=by
 have hl:xs.length≠0:=by simpa using h0
 have o:=KN (P:=P) w xs ⟨g,0,a7⟩ .empty l;have p:=Lib.liesAt_bytes (P:=P) h (cells/P.cellsOf e) xs.length (by simp_all);have q: ¬(9223372036854775807:Int)<(xs.length:Int):=by omega
 have u:Builtin.unsafeString_ #[d,it] ty #[.pointer (a6 ⟨g,0,a7⟩),.int .i64 xs.length]=
   (do
    let n<-asInt (.int .i64 xs.length)
    if n<0 then runtimePanic (.error "unsafe.String: len out of range")
    if n>IntKind.i64.max then unsupported (.unsafePointer "String: a length above the largest int")
    if n=0 then pure (.string .empty)
    else if<-variablesAt ⟨g,0,a7⟩ (<-elemOf d) n.toNat then do
     let s<-loadBytes ⟨g,0,a7⟩ .empty n.toNat
     freeze ⟨g,0,a7⟩ n.toNat
     pure (.string s)
    else unsupported (.unsafePointer "String: not so many bytes at ptr")):=rfl
 rw[u];have v:IntKind.i64.max=9223372036854775807:=rfl;have y: ¬(xs.length:Int)<0:=by omega
 have f:=L8 xs [];have z:(⟨([]:List UInt8).toArray⟩:ByteArray)=.empty:=rfl;rw[z]at f;simp[asInt,asIntOf,v,q,y,hl,variablesAt,i,elemOf,run_underlying hp,p,o];exact f
theorem ad5 (d:c.Ok W0) {st:St} (x:c.hp=st.hp) (y:c.nxt=st.nxt) {id f:Nat} {e:Ty} {xs:List e.den} (i:dO c.hp id=a6 (.arr e f xs)) {w':World} (j:c.w.heap.size<=w'.heap.size)
  (o: ∀b,(c.mu id).v.ownBlock≠a6 b->w'.heap[b]? =c.w.heap[b]?) (l:w'.os=c.w.os/\w'.tape=c.w.tape/\w'.output=c.w.output):
  ∃c',AQ W0 c st c' {st with hp:=iV st.hp id .dead}/\c'.w=w':=by
 have p:(dL.arr e f xs).like (c.mu id) .dead (c.mu id):=trivial;have q: ∀(b:Nat) (L:Loop),(dL.arr e f xs).blk (c.mu id)=a6 b->c.w.heap[b]? =a6 (Obj.loop L)-> ∃z:Loop,w'.heap[b]? =a6 (Obj.loop z):=fun b L g hL=>absurd hL ((d.obj id _ i).no_loop (by simp) g);have s: ∀b,dL.dead.blk (c.mu id)=a6 b->(dL.arr e f xs).blk (c.mu id)=a6 b\/c.w.heap.size<=b:=fun b g=>by cases g
 have u: ∀b,b<c.w.heap.size->(dL.arr e f xs).blk (c.mu id)≠a6 b->w'.heap[b]? =c.w.heap[b]? :=fun b _ A=>o b A;have B:Below W0.heap.size W0 w':=by
  refine⟨l.1.trans d.bel.os,l.2.1.trans d.bel.tape,l.2.2.trans d.bel.output,aB d.bel.size j,fun b g=>(o b fun h=> ?_).trans (d.bel.block b g)⟩;have:=((d.obj id _ i).lt (b:=b) h).1;omega
 have D:=Cx.Le.put (w:=w') d i p j u s q;exact⟨c.put id .dead (c.mu id) w',⟨by simp[Cx.put,x],y,rfl,rfl,d.put i p B j u s q trivial,D⟩,rfl⟩
theorem Tz (hT:TOk P T) (y:c.Ok W0) {cl:Bool} {call:gz R} {o:Oper} {st:St} {a:Act} {K:bQ->St->Option R} {args:Array Operand} {z:Array TypeId} (A:c.hp=st.hp) (V:c.nxt=st.nxt) (W:bJ c st.fr a.tmps.toList)
  (X:o.op=.call {callee:=.builtin .unsafeString,args:=args,argTypes:=z}) (h:eF T cl call o st K=a6 r):Hz P W0 c st o a K r:=by
 obtain⟨an,op,i,ao,au,av⟩:=o;simp only at X;subst X;simp only[eF,jZ]at h;split at h<;>try (cases h;done)
 all_goals try (rename_i u _;cases u;done)
 rename_i id aU n u d
 split at h<;>try (cases h;done)
 rename_i B l Y
 split at h<;>try (cases h;done)
 rename_i v xs q
 rw[cond_eq_ite]at h;split at h
 .rename_i Z
  simp only[af,beq_iff_eq]at Z;obtain⟨rfl,aw⟩:=Z;replace h:=gy h;obtain⟨D,h⟩:=h;have D:n=(xs.length:Int):=by simpa [bP,bI] using D
  subst D;obtain⟨z⟩:=z;simp only at Y;subst Y;obtain⟨al⟩:=args
  match al with
  |[]=>simp at d
  |[_]=>simp at d
  |_::_::_::_=>simp at d
  |[E,G]=>
   simp only[ax,List.map_nil,List.cons.injEq,and_true]at d;have I:=dR W E;have f:=dR W G;rw[d.1]at I;rw[d.2]at f;simp only[bU]at I f;have f:=f.int_inv;rw[<-A]at q;obtain⟨hp,ay⟩:=(I.2.2 _ _ _ q).2 rfl;obtain⟨_,e0,zs,ab,hL,J⟩:=y.obj id _ q;have J:=J rfl;obtain⟨az,aA⟩:=hT.isBytes aw;have ad:(execOp a.eval ⟨an,.call {callee:=.builtin .unsafeString,args:=[E,G].toArray,argTypes:=[B,l].toArray},i,ao,au,av⟩).run P c.w=
     ((Builtin.unsafeString_ #[B,l] i #[a.eval E,a.eval G]).run P c.w).andThen fun v M=>.ok (.value v) M:=by
    simp[execOp,resolve,invoke,builtin,Sem.run_bind]
   have aF:zs=xs.map (.int .u8):=Io xs zs hL;by_cases hx:xs=[]
   .subst hx;obtain⟨p,hp⟩:=hp;obtain⟨N,O,S⟩:=ad5 y A V q (w':=c.w) (ae _) (fun _ _=>rfl) ⟨rfl,rfl,rfl⟩;refine⟨_,.string .empty,N,_,h,O, ?_,.inl ?_⟩
    .simp only[bU];exact VD.str_mk
    .rw[ad,hp,f];have:=Lib.run_unsafeString_none (P:=P) c.w B l i p;simp only[List.length_nil,Int.natCast_zero]at this ⊢;rw[this,S];rfl
   .have s:xs.length≠0:=by simpa using hx
    rcases ab.2 with ⟨_,h0⟩|⟨g,aG,ah,U,aV,hg,aW,aH,ak,aX⟩
    .exact absurd h0 s
    .have hp:=ay _ _ _ U s;have aI: ∀b,(c.mu id).v.ownBlock≠a6 b->(c.w.freeze ⟨g,0,a7⟩ xs.length).heap[b]? =c.w.heap[b]? :=fun b u=>by
      have aJ:g≠b:=fun e=>u (by rw[U,<-e];rfl);unfold World.freeze;rw[aq s];simp only[Array.getElem?_modify];rw[aq aJ]
     have aK:(c.w.freeze ⟨g,0,a7⟩ xs.length).heap.size=c.w.heap.size:=by
      unfold World.freeze;rw[aq s];simp
     have aP:(c.w.freeze ⟨g,0,a7⟩ xs.length).os=c.w.os/\(c.w.freeze ⟨g,0,a7⟩ xs.length).tape=c.w.tape/\(c.w.freeze ⟨g,0,a7⟩ xs.length).output=c.w.output:=by
      unfold World.freeze;rw[aq s];exact⟨rfl,rfl,rfl⟩
     obtain⟨N,O,S⟩:=ad5 y A V q (w':=c.w.freeze ⟨g,0,a7⟩ xs.length) (Nat.le_of_eq aK.symm) aI aP;refine⟨_,.string ⟨(ofBytes xs).toArray⟩,N,_,h,O, ?_,.inl ?_⟩
     .simp only[bU];exact VD.str_mk
     .rw[ad,hp,f];have aS: ∀j x,xs[j]? =a6 x->c.w.cell? ((⟨g,0,a7⟩:Addr).add j)=a6 (.int .u8 x):=fun j x hj=>by
       have:=ab.cells (g:=g) (by rw[U];rfl) j (.int .u8 x) (by rw[aF];simp[hj]);exact this
      have ak:ah.size=aG:=by simpa [Ty.size] using ak
      rw[UF (ty:=i) (it:=l) az aA c.w g ah.size (by rw[<-J];simp[World.shape?,hg]) xs hx (by omega) (by unfold maxLen at aH;omega) aS,S];rfl
 .cases h
end
end
section
open Option renaming some → a6, none → a7
open Bool renaming and_eq_true → af
open List renaming map_cons → ax
open Go.RowKit
theorem Sv {d l:IntKind} {a:Int}: ∀(f:List MapEntry) (g:List (Int×Int)) (i:Nat),f.map (fun e=>(e.key,e.val))=g.map (fun p=>(Value.int d p.1,Value.int l p.2))->
  (D8 g a=a7/\Instr.findNow (.int d) (.int d a) f i=a6 a7/\ ∀b cl,(f++[(⟨.int d a,.int l b,cl⟩:MapEntry)]).map (fun e=>(e.key,e.val))=(nS g a b).map (fun p=>(Value.int d p.1,Value.int l p.2)))\/
  ∃v j,D8 g a=a6 v/\Instr.findNow (.int d) (.int d a) f i=a6 (a6 (i+j,.int l v))/\(∃q,f[j]? =a6 q/\q.key=.int d a)/\
   ∀b,(f.modify j (fun e=>{e with key:=.int d a,val:=.int l b})).map (fun e=>(e.key,e.val))=(nS g a b).map (fun p=>(Value.int d p.1,Value.int l p.2))
 |[],[],i,_=>.inl ⟨rfl,rfl,fun b cl=>rfl⟩
 |[],_::_,_,h=>by simp at h
 |_::_,[],_,h=>by simp at h
 |e::f,(k,v)::g,i,h=>by
  simp only[ax,List.cons.injEq,Prod.mk.injEq]at h;obtain⟨⟨u,y⟩,x⟩:=h;have s:Instr.sameNow (.int d) (.int d a) e.key=a6 (a==k):=by rw[u];simp[Instr.sameNow]
  by_cases hak:a=k
  .subst hak;refine .inr ⟨v,0,by simp[D8,bP], ?_,⟨e,rfl,u⟩,fun b=> ?_⟩
   .simp[Instr.findNow,s,y]
   .simp[nS,bP,x]
  .have o:(a==k)=false:=by simpa using hak
   rw[o]at s;rcases Sv (a:=a) f g (i+1) x with ⟨g1,g2,g3⟩|⟨z,j,g1,g2,⟨q,g3,g4⟩,g5⟩
   .refine .inl ⟨by simp[D8,bP,o,g1],by simp[Instr.findNow,s,g2],fun b cl=> ?_⟩;have:=g3 b cl;simp only[nS,bP,o,ac,List.cons_append,ax,List.cons.injEq,Prod.mk.injEq];simp_all
   .refine .inr ⟨z,j+1,by simp[D8,bP,o,g1], ?_,⟨q,by simpa using g3,g4⟩,fun b=> ?_⟩
    .grind [Instr.findNow]
    .have:=g5 b;simp only[nS,bP,o,ac,List.modify_succ_cons,ax,List.cons.injEq,Prod.mk.injEq];simp_all
section
variable {P:Program} {T:TT} {W0:World} {c:Cx} {R:Type} {r:R} {t:TypeId}
theorem TQ (hT:TOk P T) {a b:IntKind} (h:T.mapOf t=a6 (a,b)): ∃k e,P.underlying t=a6 (.map k e)/\P.underlying k=a6 (.int a)/\ ∃i,P.info? e=a6 i/\i.zero=a6 (.int b 0):=by
 unfold TT.mapOf at h;replace h:=dG h;obtain⟨hk,h⟩:=h;split at h
 .rename_i k e g
  replace h:=dG h;obtain⟨d,h⟩:=h;simp only[af]at d;split at h
  .rename_i o p j l
   cases h;obtain⟨i,z,f,_⟩:=hT.info d.2;exact⟨k,e,hT.map hk g,hT.int d.1 j,i,f,hT.zero_int d.2 l f⟩
  .cases h
 .cases h
theorem aFf (g:c.Ok W0) {st:St} (h:c.hp=st.hp) (h2:c.nxt=st.nxt) {id n':Nat} (i:dO st.hp id=a7) (j:st.nxt<=id) (s:st.nxt<=n') (d e:IntKind):
  ∃c',AQ W0 c st c' {st with hp:=(id,.mp d e [])::st.hp,nxt:=n'}/\c'.w=c.w.alloc (.map #[] 0)/\bU c' (.mpv id) (.map (a6 c.w.heap.size)):=by
 have hk:=Ag h h2 i j;have f:=nX c.w (.map #[] 0);have hl: ∀b,dL.blk (.mp d e []) ⟨c.w.heap.size,undef⟩=a6 b->c.w.heap.size<=b:=fun b f=>by
  simp_all [dL.blk]
 have p:=Cx.Le.push (o:=.mp d e []) (l:=⟨c.w.heap.size,undef⟩) (nxt:=n') (w:=c.w.alloc (.map #[] 0)) hk (by omega) f.size f.block hl;have q:(c.push id (.mp d e []) ⟨c.w.heap.size,undef⟩ n' (c.w.alloc (.map #[] 0))).ORel W0.heap.size id (.mp d e []):=by
  refine⟨by simp[Cx.push,upd_same];exact g.size,#[],0, ?_,rfl⟩;simp only[Cx.push,upd_same];exact heap_alloc_new c.w _
 refine⟨_,⟨?_,rfl,rfl,rfl,g.push hk (by omega) f hl q,p⟩,rfl, ?_⟩
 .simp[Cx.push,h]
 .simp only[bU];refine⟨rfl,.inl ⟨.mp d e [],by simp[Cx.push,ed]⟩,fun _ _ _ _=>by simp[Cx.push,upd_same]⟩
theorem aoa (hT:TOk P T) (e:c.Ok W0) {cl:Bool} {call:gz R} {o:Oper} {st:St} {a:Act} {K:bQ->St->Option R} {f:Option Operand} (g:c.hp=st.hp) (i:c.nxt=st.nxt) (d:o.op=.makeMap t f)
  (h:eF T cl call o st K=a6 r):Hz P W0 c st o a K r:=by
 obtain⟨z,A,B,D,E,G⟩:=o;simp only at d;subst d;simp only[eF]at h;split at h
 .rename_i j l I
  obtain⟨id,J,p,q,u,v⟩:=jf h;obtain⟨M,x,N,y⟩:=aFf e g i p q u j l;refine qX (s:=Instr.makeMap t a7) rfl v x y (by simp_all [Instr.makeMap])
 .cases h
theorem at1 (hT:TOk P T) (f:c.Ok W0) {cl:Bool} {call:gz R} {o:Oper} {st:St} {a:Act} {K:bQ->St->Option R} {x y:Operand} {ok:Bool} (g:c.hp=st.hp) (z:c.nxt=st.nxt) (A:bJ c st.fr a.tmps.toList) (B:o.op=.lookup t x y ok)
  (h:eF T cl call o st K=a6 r):Hz P W0 c st o a K r:=by
 obtain⟨ab,op,ty,ad,ae,ag⟩:=o;simp only at B;subst B;simp only[eF]at h;split at h
 .rename_i kk vk id N O
  split at h
  .rename_i ah d S D n l U
   replace h:=dG h;obtain⟨hk,h⟩:=h;simp only[af,decide_eq_true_eq]at hk;obtain⟨rfl,rfl,rfl⟩:=hk;obtain⟨kt,V,E,e,i,W,X⟩:=TQ hT N;have p:=dR A x;rw[O]at p;simp only[bU]at p;rw[<-g]at l;have G:=p.2.2 _ _ _ l;obtain⟨hB,Y,ai,I,Z⟩:=f.obj id _ l;have q:=dR A y;rw[U]at q;simp only[bU]at q;have J:=q.int_inv;have hz:(zeroValue V).run P c.w=.ok (.int d 0) c.w:=by simp[zeroValue,typeInfo,W,X]
   have M:MapKept.IsKey (.int D) (.int D n):=rfl;rcases Sv (a:=n) Y.toList S 0 Z with ⟨g1,g2,_⟩|⟨v,j,g1,g2,_,_⟩
   .simp only[kN,auQ,g1]at h;refine qX (s:=Instr.lookup t (a.eval x) (a.eval y) ok) (u:=if ok then .tuple #[.int d 0,.bool false]else .int d 0) rfl h (AQ.refl f g z) ?_ ?_
    .cases ok
     .simp_all [bU,VD.int_mk]
     .simp only[aa,bU,if_true];exact⟨_,rfl,by simp_all [bJ,bU,VD.int_mk,VD.bool_mk]⟩
    .rw[G,J];simp[Instr.lookup,run_underlying E,MapKept.run_getObj_map I,MapKept.run_checkKey e M,MapKept.run_findKey e g2,hz,Result.andThen]
   .simp only[kN,auQ,g1]at h;refine qX (s:=Instr.lookup t (a.eval x) (a.eval y) ok) (u:=if ok then .tuple #[.int d v,.bool true]else .int d v) rfl h (AQ.refl f g z) ?_ ?_
    .cases ok
     .simp_all [bU,VD.int_mk]
     .simp only[aa,bU,if_true];exact⟨_,rfl,by simp_all [bJ,bU,VD.int_mk,VD.bool_mk]⟩
    .rw[G,J];simp[Instr.lookup,run_underlying E,MapKept.run_getObj_map I,MapKept.run_checkKey e M,MapKept.run_findKey e g2,Result.andThen]
  .cases h
 .cases h
theorem ad7 (hT:TOk P T) (A:c.Ok W0) {cl:Bool} {call:gz R} {o:Oper} {st:St} {a:Act} {K:bQ->St->Option R} {x y z:Operand} (U:c.hp=st.hp) (ag:c.nxt=st.nxt) (I:bJ c st.fr a.tmps.toList) (V:o.op=.mapUpdate t x y z)
  (h:eF T cl call o st K=a6 r):Hz P W0 c st o a K r:=by
 obtain⟨ah,op,ty,ai,aj,ak⟩:=o;simp only at V;subst V;simp only[eF]at h;split at h
 .rename_i kk vk id hm al
  split at h
  .rename_i aA aB s f n q b u hn B
   replace h:=dG h;obtain⟨hk,h⟩:=h;simp only[af,decide_eq_true_eq]at hk;obtain⟨rfl,rfl,rfl,rfl⟩:=hk;obtain⟨kt,et,W,E,i,u3,u4⟩:=TQ hT hm;have J:=dR I x;rw[al]at J;simp only[bU]at J;rw[<-U]at u;have hv:=J.2.2 _ _ _ u;obtain⟨hB,G,M,D,h4⟩:=A.obj id _ u;have N:=dR I y;rw[hn]at N;simp only[bU]at N;have an:=N.int_inv;have O:=dR I z;rw[B]at O;simp only[bU]at O;have ao:=O.int_inv;have S:MapKept.IsKey (.int f) (.int f n):=rfl;have X: ∃g l,(Instr.mapUpdate t (a.eval x) (a.eval y) (a.eval z)).run P c.w=.ok () {c.w with heap:=c.w.heap.setIfInBounds (c.mu id).blk (.map g l)}/\g.toList.map (fun e=>(e.key,e.val))=(nS s n b).map (fun p=>(Value.int f p.1,Value.int q p.2)):=by
    rw[hv,an,ao];rcases Sv (a:=n) G.toList s 0 h4 with ⟨g1,g2,g3⟩|⟨v,j,g1,g2,⟨e0,g3,g4⟩,g5⟩
    .exact⟨G.push ⟨.int f n,.int q b,M⟩,M+1,by
      simp[Instr.mapUpdate,run_underlying W,MapKept.run_getObj_map D,MapKept.run_checkKey E S,MapKept.run_findKey E g2,MapKept.run_setObj_map _ D,Result.andThen],by
      simp_all⟩
    .have hj:G[j]? =a6 e0:=by simpa using g3
     exact⟨G.modify j (fun e'=>{e' with key:=.int f n,val:=.int q b}),M,by
      simp[Instr.mapUpdate,run_underlying W,MapKept.run_getObj_map D,MapKept.run_checkKey E S,MapKept.run_findKey E g2,hj,g4,MapKept.run_keyThatStays S,MapKept.run_setObj_map _ D,Result.andThen],by
      simp_all⟩
   obtain⟨g,l,X,au⟩:=X;have av:(execOp a.eval ⟨ah,.mapUpdate t x y z,ty,ai,aj,ak⟩).run P c.w=.ok .skip {c.w with heap:=c.w.heap.setIfInBounds (c.mu id).blk (.map g l)}:=by
    simp_all [execOp]
   have iV:=MapKept.heap_set (o':=Obj.map g l) D;have Y:(dL.mp f q s).like (c.mu id) (.mp f q (nS s n b)) (c.mu id):=rfl;have Z:c.w.heap.size<=({c.w with heap:=c.w.heap.setIfInBounds (c.mu id).blk (.map g l)}:World).heap.size:=by simp
   have ab: ∀d,d<c.w.heap.size->(dL.mp f q s).blk (c.mu id)≠a6 d->({c.w with heap:=c.w.heap.setIfInBounds (c.mu id).blk (.map g l)}:World).heap[d]? =c.w.heap[d]? :=
    fun d _ aw=>iV.2 d (fun e=>aw (by simp[dL.blk,e]))
   have ad: ∀d,(dL.mp f q (nS s n b)).blk (c.mu id)=a6 d->(dL.mp f q s).blk (c.mu id)=a6 d\/c.w.heap.size<=d:=fun d B=>.inl B;have ae: ∀(d:Nat) (L:Loop),(dL.mp f q s).blk (c.mu id)=a6 d->c.w.heap[d]? =a6 (Obj.loop L)-> ∃L':Loop,({c.w with heap:=c.w.heap.setIfInBounds (c.mu id).blk (.map g l)}:World).heap[d]? =a6 (Obj.loop L'):=fun d L B hL=>absurd hL ((A.obj id _ u).no_loop (by simp) B);have ay:=Cx.Le.put (w:={c.w with heap:=c.w.heap.setIfInBounds (c.mu id).blk (.map g l)}) A u Y Z ab ad ae;have az:Below W0.heap.size W0 {c.w with heap:=c.w.heap.setIfInBounds (c.mu id).blk (.map g l)}:=
    A.bel.trans ⟨rfl,rfl,rfl,by simp,fun k hk=>iV.2 k (by omega)⟩
   refine⟨_,undef,c.put id _ (c.mu id) _,_,h,⟨by simp[Cx.put,U],ag,rfl,rfl,A.put u Y az Z ab ad ae ?_,ay⟩,by simp[bU],.inr ⟨av,rfl⟩⟩;refine⟨by simp only[Cx.put,upd_same];exact hB,g,l, ?_,au⟩;simp_all [Cx.put,upd_same]
  .cases h
 .cases h
end
end
section
open Option renaming some → a6, none → a7
open Nat renaming le_refl → ae, le_trans → aB
open Go.RowKit
def FW (rd:Option Nat):Fence:={Fence.wide with round:=rd}
theorem pG (rd:Option Nat) {n:Nat}:(FW rd).depth.isSome=true->1<=n:=fun h=>by simp[FW,Fence.wide]at h
def mkD (r:Nat):Deferred:={target:=.collected r,args:= #[]}
def CS (c:Cx):List (List bQ)->List (Array Value)->Prop
 |[],[]=>True
 |f::d,t::e=>bJ c f t.toList/\CS c d e
 |_,_=>False
theorem CS.le {c c':Cx} (h:c.Le c'): ∀(e:List (List bQ)) (g:List (Array Value)),CS c e g->CS c' e g
 |[],[],_=>trivial
 |f::e,t::g,d=>⟨bJ.le h _ _ d.1,CS.le h e g d.2⟩
 |[],_::_,d=>d.elim
 |_::_,[],d=>d.elim
structure Cx.Mono (c c':Cx):Prop where
 mks: ∀r,r∈c.mks->r∈c'.mks
 lp: ∀(b:Nat) (L:Loop),c.w.heap[b]? =a6 (Obj.loop L)-> ∃L':Loop,c'.w.heap[b]? =a6 (Obj.loop L')
 size:c.w.heap.size<=c'.w.heap.size
 bar:c'.bar=c.bar
 out: ∀b,c.out b->c'.out b/\c'.w.heap[b]? =c.w.heap[b]?
theorem Cx.Le.mono {c c':Cx} (h:c.Le c'):c.Mono c':=⟨h.mks,h.lp,h.size,h.bar,h.out⟩
theorem Cx.Mono.refl (c:Cx):c.Mono c:=⟨fun _ h=>h,fun b L h=>⟨L,h⟩,ae _,rfl,fun _ h=>⟨h,rfl⟩⟩
theorem Cx.Mono.trans {a b c:Cx} (h:a.Mono b) (k:b.Mono c):a.Mono c:=
 ⟨fun r hr=>k.mks r (h.mks r hr),fun b L hL=>let⟨e,f⟩:=h.lp b L hL;k.lp b e f,aB h.size k.size,k.bar.trans h.bar,fun x d=>⟨(k.out x (h.out x d).1).1,(k.out x (h.out x d).1).2.trans (h.out x d).2⟩⟩
structure iM (W0:World) (b0:Nat) (rd:Option Nat) (c:Cx) (st:St) (a:Act) (ats:List (Array Value)):Prop where
 hp:c.hp=st.hp
 nxt:c.nxt=st.nxt
 ok:c.Ok W0
 fr:bJ c st.fr a.tmps.toList
 stk:CS c st.stk ats
 df: ∃ds:List Nat,a.defers=ds.map mkD/\ds.Nodup/\ ∀r∈ds,r∈c.mks/\b0<=r
 rd: ∀l,rd=a6 l-> ∃L:Loop,c.w.heap[l]? =a6 (Obj.loop L)
section
variable {P:Program} {T:TT} {W0:World} {b0 n:Nat} {rd:Option Nat} {c:Cx} {R:Type} {r:R} {st:St} {a:Act} {ats:List (Array Value)}
theorem avn (a:Act) (dst:Option Nat) (v:Value) (fr:List bQ) (z:bQ) (h:bJ c fr a.tmps.toList) (e:bU c z v):bJ c (match dst with|some d=>fr.set d z|none=>fr) (a.put dst v).tmps.toList:=by
 grind [Act.put,bJ.set]
theorem aFN (st:St) (dst:Option Nat) (z:bQ):(st.put dst z).fr=(match dst with|some d=>st.fr.set d z|none=>st.fr)/\(st.put dst z).hp=st.hp/\(st.put dst z).nxt=st.nxt/\(st.put dst z).stk=st.stk:=by
 cases dst<;>exact⟨rfl,rfl,rfl,rfl⟩
theorem put_defers (a:Act) (dst:Option Nat) (v:Value):(a.put dst v).defers=a.defers:=by cases dst<;>rfl
theorem iM.put (h:iM W0 b0 rd c st a ats) {dst:Option Nat} {z:bQ} {v:Value} (d:bU c z v):iM W0 b0 rd c (st.put dst z) (a.put dst v) ats:=by
 obtain⟨e,f,g,i⟩:=aFN st dst z;exact⟨h.hp.trans f.symm,h.nxt.trans g.symm,h.ok,by rw[e];exact avn a dst v _ z h.fr d,by rw[i];exact h.stk,by rw[put_defers];exact h.df,h.rd⟩
theorem iM.did (h:iM W0 b0 rd c st a ats) {c':Cx} {d:St} (hd:AQ W0 c st c' d):iM W0 b0 rd c' d a ats:=
 ⟨hd.hp,hd.nxt,hd.ok,by rw[hd.fr];exact bJ.le hd.le _ _ h.fr,by rw[hd.stk];exact CS.le hd.le _ _ h.stk,
  let⟨f,g,i,e⟩:=h.df;⟨f,g,i,fun r hr=>⟨hd.le.mks r (e r hr).1,(e r hr).2⟩⟩,fun l hl=>let⟨L,hL⟩:=h.rd l hl;hd.le.lp l L hL⟩
def mg (P:Program) (W0:World) (n:Nat) (call:gz R):Prop:=
 ∀(b0:Nat) (rd:Option Nat) (f:bQ) (g:List bQ) (l:Option Nat) (st:St) (K:bQ->St->Option R) (r:R),call f g l st K=a6 r->
  ∀(c:Cx) (a:Act) (ats:List (Array Value)) (h:Value) (i:Array Value),iM W0 b0 rd c st a ats->bU c f h->bJ c g i.toList->
   ∀(o:Oper) (next:Act->World->Prop) (Q:Exit->Act->World->Prop),(∀e z u j,K z j=a6 r->iM W0 b0 rd e j a ats->bU e z u->c.Mono e->next (a.put o.dst u) e.w)->
    o.uponIn (FW rd) n P a next Q ((do let d<-Deferred.ofValue h i;invoke d.target d.args:Sem Next).run P c.w)
def qV:Op->Bool
 |.defer _=>true
 |_=>false
theorem xw {o:Oper} (h:qV o.op=false) (rd:Option Nat) (d:Operand->Value):Oper.semAt rd d o=execOp d o:=
 Oper.semAt_eq rd d o fun c e=>by rw[e]at h;cases h
theorem qO (o:Oper) (w:World) (d:Operand->Value): ∀f,o.about P w d=a6 f->(FW rd).fn f:=fun _ _=>trivial
theorem nR {o:Oper} {K:bQ->St->Option R} (hd:qV o.op=false) (h:Hz P W0 c st o a K r) (hr:iM W0 b0 rd c st a ats) {next:Act->World->Prop} {Q:Exit->Act->World->Prop}
  (g: ∀c' z u e,K z e=a6 r->iM W0 b0 rd c' e a ats->bU c' z u->c.Mono c'->next (a.put o.dst u) c'.w):o.wpIn (FW rd) n P a c.w next Q:=by
 obtain⟨z,u,c',e,i,f,j,d⟩:=h;refine⟨qO o c.w _, ?_⟩;rw[xw hd];have:=g c' z u e i (hr.did f) j f.le.mono;rcases d with d|⟨d,rfl⟩
 .rw[d];exact this
 .rw[d];exact this
theorem Uc (hT:TOk P T) {cl:Bool} {call:gz R} (G:mg P W0 n call) {o:Oper} {K:bQ->St->Option R} (h:eF T cl call o st K=a6 r) (hr:iM W0 b0 rd c st a ats) {next:Act->World->Prop} {Q:Exit->Act->World->Prop}
  (d: ∀c' z u A,K z A=a6 r->iM W0 b0 rd c' A a ats->bU c' z u->c.Mono c'->next (a.put o.dst u) c'.w):o.wpIn (FW rd) n P a c.w next Q:=by
 by_cases hq:iD o.op=true
 .obtain⟨z,u,I,q,J⟩:=Ai hT hr.ok hq hr.hp hr.fr h;have hd:qV o.op=false:=by cases ho:o.op<;>simp_all [iD,jK,qV]
  exact nR hd ⟨z,u,c,st,I,AQ.refl hr.ok hr.hp hr.nxt,q,.inl (J c.w (Below.refl _ _))⟩ hr d
 .cases ho:o.op with
  |alloc t=>exact nR (by rw[ho];rfl) (ay7 hT hr.ok hr.hp hr.nxt ho h) hr d
  |box t x=>exact nR (by rw[ho];rfl) (aHU hT hr.ok hr.hp hr.nxt hr.fr ho h) hr d
  |buildSlice t k O=>exact nR (by rw[ho];rfl) (Y4 hT hr.ok hr.hp hr.nxt hr.fr ho h) hr d
  |makeSlice t l cp=>exact nR (by rw[ho];rfl) (ad6 hT hr.ok hr.hp hr.nxt hr.fr ho h) hr d
  |store t x y=>exact nR (by rw[ho];rfl) (ay8 hT hr.ok hr.hp hr.nxt hr.fr ho h) hr d
  |makeFunc fn first s=>
   obtain⟨dst,v,e,g,i,j⟩:=o;simp only at ho;subst ho;simp only[eF]at h;split at h
   .rename_i f B
    obtain⟨S⟩:=first
    simp only at B;subst B;refine nR rfl ⟨_,.func (.func f) #[] (s.map a.eval),c,st,h,AQ.refl hr.ok hr.hp hr.nxt, ?_,.inl ?_⟩ hr d
    .simp only[bU];refine⟨_,rfl, ?_⟩;have:=bJ.map_eval (c:=c) hr.fr s.toList;simpa using this
    simp_all [execOp,Instr.makeFunc]
   .rename_i l f U
    replace h:=dG h;obtain⟨V,h⟩:=h;have M:s= #[]:=by
     simp_all
    subst M;refine nR rfl ⟨_,.func (.func f) (first.map a.eval) #[],c,st,h,AQ.refl hr.ok hr.hp hr.nxt, ?_,.inl ?_⟩ hr d
    .simp only[bU];refine⟨_,rfl, ?_⟩;have:=bJ.map_eval (c:=c) hr.fr first.toList;simpa using this
    simp_all [execOp,Instr.makeFunc]
   .cases h
  |makeMap t W=>exact nR (by rw[ho];rfl) (aoa hT hr.ok hr.hp hr.nxt ho h) hr d
  |lookup t x y k=>exact nR (by rw[ho];rfl) (at1 hT hr.ok hr.hp hr.nxt hr.fr ho h) hr d
  |mapUpdate t x y z=>exact nR (by rw[ho];rfl) (ad7 hT hr.ok hr.hp hr.nxt hr.fr ho h) hr d
  |call N=>
   obtain⟨D,p,E⟩:=N;cases D with
   |builtin b=>
    cases b with
    |append=>exact nR (by rw[ho];rfl) (atZ hT hr.ok hr.hp hr.nxt hr.fr ho h) hr d
    |unsafeSliceData=>exact nR (by rw[ho];rfl) (ad8 hT hr.ok hr.hp hr.nxt hr.fr ho h) hr d
    |unsafeString=>exact nR (by rw[ho];rfl) (Tz hT hr.ok hr.hp hr.nxt hr.fr ho h) hr d
    |len=>rw[ho]at hq;exact absurd rfl hq
    |min=>rw[ho]at hq;exact absurd rfl hq
    |max=>rw[ho]at hq;exact absurd rfl hq
    |_=>
     obtain⟨dst,v,e,g,i,j⟩:=o;simp only at ho;subst ho;simp[eF,jZ]at h
   |invoke x m=>
    simp_all [eF]
   |value f=>
    obtain⟨dst,v,e,g,i,j⟩:=o;simp only at ho;subst ho;simp only[eF]at h;refine⟨qO _ c.w _, ?_⟩;rw[xw rfl];have q:=G b0 rd _ _ dst st K r h c a ats (a.eval f) (p.map a.eval) hr (dR hr.fr f) (by
     have:=bJ.map_eval (c:=c) hr.fr p.toList;simpa using this) ⟨dst,.call {callee:=.value f,args:=p,argTypes:=E},e,g,i,j⟩ next Q d
    exact q
  |_=>
   obtain⟨dst,v,e,g,i,j⟩:=o;simp only at ho;subst ho
   first
    |(simp[iD,jK]at hq;done)
    |(simp[eF]at h;done)
theorem Ja (ops:Array Oper) (j d:Nat) (h:(ops[j]?).bind (·.dst)=a6 d) (tmps:Array Value):yielded ops tmps j=(match tmps[d]? with|some (.bool b)=>a6 b|_=>a7):=by
 grind [yielded]
theorem Nc (hT:TOk P T) {cl:Bool} {call:gz R} (s:mg P W0 n call) (ops:Array Oper) {K:St->Option R} {Q:Exit->Act->World->Prop}: ∀(l:List Oper) (c:Cx) (st:St) (a:Act),iq T cl call ops K l st=a6 r->iM W0 b0 rd c st a ats->
  (∀c' e p,K e=a6 r->iM W0 b0 rd c' e p ats->c.Mono c'->Q .normal p c'.w)->wpListIn (FW rd) n P ops Q l a c.w
 |[],c,st,a,h,hr,q=>by
  simp only[iq]at h;exact q c st a h hr (Cx.Mono.refl c)
 |o::l,c,st,a,h,hr,q=>by
  simp only[iq]at h;have Z: ∀(c:Cx) (st:St) (a:Act),iM W0 b0 rd c st a ats->(∀c' e p,K e=a6 r->iM W0 b0 rd c' e p ats->c.Mono c'->Q .normal p c'.w)->eF T cl call o st (fun v st=>iq T cl call ops K l (st.put o.dst v))=a6 r->
    o.wpIn (FW rd) n P a c.w (wpListIn (FW rd) n P ops Q l) Q:=fun c st a hr q h=>
   Uc hT s h hr fun c' z u e E G I J=>Nc hT s ops l c' (e.put o.dst z) (a.put o.dst u) E (G.put I) fun M N O k1 k2 k3=>q M N O k1 k2 (J.trans k3)
  have y: ∀(st:St),iM W0 b0 rd c st a ats->iq T cl call ops K l (st.put o.dst (.tup []))=a6 r->(∀f,o.about P c.w a.eval=a6 f->(FW rd).fn f)/\wpListIn (FW rd) n P ops Q l (a.put o.dst undef) c.w:=fun st hr h=>
   ⟨qO o c.w _,Nc hT s ops l c (st.put o.dst (.tup [])) (a.put o.dst undef) h (hr.put (by simp only[bU];exact⟨#[],rfl,by simp[bJ]⟩)) q⟩
  simp only[wpListIn];cases hg:o.guard with
  |none=>
   rw[hg]at h;rw[am (by simp[Region.wanted,hg])]
   grind
  |some S=>
   obtain⟨j,U⟩:=S;rw[hg]at h;simp only at h;split at h
   .cases h
   .rename_i d hd
    have g:=Ja ops j d hd a.tmps;have i:=hr.fr.getD d;have V:=bJ.length _ _ hr.fr;rw[Array.length_toList]at V;split at h
    .rename_i b A
     rw[A]at i;simp only[bU]at i;have W:=i.bool_inv;have ab:d<a.tmps.size:=by
      grind
     have B:a.tmps[d]? =a6 (.bool b):=by
      simp_all
     rw[B]at g;simp only at g;have X:a.put (a6 d) (.bool b)=a:=by
      simp only[Act.put];obtain⟨ad,af⟩:=Array.getElem?_eq_some_iff.1 B;have:a.tmps.setIfInBounds d (.bool b)=a.tmps:=by
       grind
      rw[this]
     have D:iM W0 b0 rd c (st.put (a6 d) (.val .bool b)) a ats:=by
      have:=hr.put (dst:=a6 d) (z:=.val .bool b) (v:=.bool b) (by simp_all [bU]);rwa [X]at this
     cases b<;>cases U<;>(try simp only[aa,ac]at h)
     .rw[am (by simp[Region.wanted,hg,g])]
      grind
     .rw[aq (by simp[Region.wanted,hg,g])];exact y _ D h
     .rw[aq (by simp[Region.wanted,hg,g])];exact y _ D h
     .rw[am (by simp[Region.wanted,hg,g])]
      grind
    .rename_i A
     rw[A]at i;simp only[bU]at i;obtain⟨vs,W,_⟩:=i;have Y:yielded ops a.tmps j=a7:=by
      rw[g];cases he:a.tmps[d]? with
      |none=>rfl
      |some x=>
       simp_all
     rw[aq (by simp[Region.wanted,hg,Y])];exact y st hr h
    .cases h
end
end
section
open List renaming mem_cons_of_mem → ak, map_cons → ax, mem_append_right → bz
open Nat renaming le_refl → ae
open Go.RowKit
structure Cx.Keeps (c c':Cx) (l:List Nat):Prop where
 free: ∀b,c.free b->c'.free b/\c'.w.heap[b]? =c.w.heap[b]?
 ref: ∀id∈l,c.known id->c'.known id
 obj: ∀id∈l,∀o',dO c'.hp id=some o'-> ∃o,dO c.hp id=some o/\o.like (c.mu id) o' (c'.mu id)
theorem Cx.Keeps.sub {c c':Cx} {l m:List Nat} (h:c.Keeps c' l) (e: ∀i∈m,i∈l):c.Keeps c' m:=⟨h.free,fun i d=>h.ref i (e i d),fun i d=>h.obj i (e i d)⟩
theorem Cx.Keeps.left {c c':Cx} {l m:List Nat} (h:c.Keeps c' (l++m)):c.Keeps c' l:=h.sub fun i d=>List.mem_append_left _ d
theorem Cx.Keeps.right {c c':Cx} {l m:List Nat} (h:c.Keeps c' (l++m)):c.Keeps c' m:=h.sub fun i d=>bz _ d
mutual
theorem bU.keeps {c c':Cx}: ∀(v:bQ) (x:Value),c.Keeps c' (refs v)->bU c v x->bU c' v x
 |.undef,_,_,_=>by simp[bU]
 |.val t x,v,h,d=>by
  simp only[bU]at d ⊢;exact⟨fun e=>let⟨cs,j,g⟩:=d.1 e;⟨cs,j,eY.mono h.free t x _ g⟩,fun e=>eY.mono h.free t x _ (d.2 e)⟩
 |.nils,_,_,d=>by assumption
 |.emp,_,_,d=>by assumption
 |.lst t x b,v,h,d=>by
  simp only[bU]at d ⊢;exact⟨⟨fun e=>let⟨cs,j,g⟩:=d.1.1 e;⟨cs,j,eY.mono h.free (.list t) x _ g⟩,fun e=>eY.mono h.free (.list t) x _ (d.1.2 e)⟩,d.2⟩
 |.nilp,_,_,d=>by assumption
 |.nilfn,_,_,d=>by assumption
 |.tup l,v,h,d=>by simp only[bU]at d ⊢;obtain⟨y,j,g⟩:=d;exact⟨y,j,bJ.keeps l _ (by simpa [refs] using h) g⟩
 |.agg l,v,h,d=>by simp only[bU]at d ⊢;obtain⟨y,j,g,z⟩:=d;exact⟨y,j,bJ.keeps l _ (by simpa [refs] using h) g,z⟩
 |.cellp t x,v,h,d=>by
  simp only[bU]at d ⊢;obtain⟨b,o,D,j,g,z,E⟩:=d;exact⟨b,o,D,j,(h.free b g).1,z.of_block (h.free b g).2,eY.mono h.free t x _ E⟩
 |.ptr id G,v,h,d=>by
  simp only[bU]at d ⊢;obtain⟨q,d⟩:=d;refine⟨q,h.ref id (by simp[refs]) d.1,fun t cs s=> ?_⟩;obtain⟨o,j,g⟩:=h.obj id (by simp[refs]) _ s;cases o<;>simp only[dL.like]at g;simp_all
 |.slf id,v,h,d=>by
  simp only[bU]at d ⊢;obtain⟨q,d⟩:=d;refine⟨q,h.ref id (by simp[refs]) d.1,fun t cs s=> ?_⟩;obtain⟨o,j,g⟩:=h.obj id (by simp[refs]) _ s;cases o<;>simp only[dL.like]at g;simp_all
 |.sd id A,v,h,d=>by
  simp only[bU]at d ⊢;obtain⟨q,d⟩:=d;refine⟨q,h.ref id (by simp[refs]) d.1,fun t u xs s=> ?_⟩;obtain⟨o,j,g⟩:=h.obj id (by simp[refs]) _ s;cases o with
  |arr t' v' B=>
   grind [dL.like]
  |box _ _=>simp[dL.like]at g
  |lp _ _ _ _ _ _ _ _=>simp[dL.like]at g
  |dead=>simp[dL.like]at g
  |mp _ _ _=>simp[dL.like]at g
 |.slc id A I,v,h,d=>by
  simp only[bU]at d ⊢;obtain⟨q,d⟩:=d;refine⟨q,h.ref id (by simp[refs]) d.1,fun t u xs s=> ?_⟩;obtain⟨o,j,g⟩:=h.obj id (by simp[refs]) _ s;cases o with
  |arr t' v' B=>
   grind [dL.like]
  |box _ _=>simp[dL.like]at g
  |lp _ _ _ _ _ _ _ _=>simp[dL.like]at g
  |dead=>simp[dL.like]at g
  |mp _ _ _=>simp[dL.like]at g
 |.ep id A i G,v,h,d=>by
  simp only[bU]at d ⊢;obtain⟨q,d⟩:=d;refine⟨q,h.ref id (by simp[refs]) d.1,fun t u xs s=> ?_⟩;obtain⟨o,j,g⟩:=h.obj id (by simp[refs]) _ s;cases o with
  |arr t' v' B=>
   grind [dL.like]
  |box _ _=>simp[dL.like]at g
  |lp _ _ _ _ _ _ _ _=>simp[dL.like]at g
  |dead=>simp[dL.like]at g
  |mp _ _ _=>simp[dL.like]at g
 |.fn f l,v,h,d=>by simp only[bU]at d ⊢;obtain⟨y,j,g⟩:=d;exact⟨y,j,bJ.keeps l _ (by simpa [refs] using h) g⟩
 |.mfn f l,v,h,d=>by simp only[bU]at d ⊢;obtain⟨y,j,g⟩:=d;exact⟨y,j,bJ.keeps l _ (by simpa [refs] using h) g⟩
 |.mpv id,v,h,d=>by
  simp only[bU]at d ⊢;obtain⟨q,d⟩:=d;refine⟨q,h.ref id (by simp[refs]) d.1,fun J K M s=> ?_⟩;obtain⟨o,j,g⟩:=h.obj id (by simp[refs]) _ s;cases o<;>simp only[dL.like]at g;simp_all
 |.yld id,v,h,d=>by
  simp only[bU]at d ⊢;obtain⟨q,d⟩:=d;refine⟨q,h.ref id (by simp[refs]) d.1,fun f N O jo S U n p s=> ?_⟩;obtain⟨o,j,g⟩:=h.obj id (by simp[refs]) _ s;cases o<;>simp only[dL.like]at g;simp_all
theorem bJ.keeps {c c':Cx}: ∀(l:List bQ) (xs:List Value),c.Keeps c' (lD l)->bJ c l xs->bJ c' l xs
 |[],[],_,_=>by simp[bJ]
 |v::l,x::xs,h,d=>by
  simp only[lD]at h;simp only[bJ]at d ⊢;exact⟨bU.keeps v x h.left d.1,bJ.keeps l xs h.right d.2⟩
 |[],_::_,_,d=>by simp[bJ]at d
 |_::_,[],_,d=>by simp[bJ]at d
end
theorem CS.keeps {c c':Cx}: ∀(e:List (List bQ)) (g:List (Array Value)),c.Keeps c' (su e)->CS c e g->CS c' e g
 |[],[],_,_=>trivial
 |f::e,t::g,h,d=>by
  simp only[su]at h;exact⟨bJ.keeps _ _ h.left d.1,CS.keeps e g h.right d.2⟩
 |[],_::_,_,d=>d.elim
 |_::_,[],_,d=>d.elim
theorem jS (p:Nat->Bool): ∀(h:gK) (i:Nat),dO (h.filter fun e=>p e.1) i=if p i=true then dO h i else none
 |[],i=>by simp[dO]
 |(k,o)::h,i=>by
  rw[List.filter_cons];by_cases hk:p k=true
  .simp only[hk,if_true,ed,jS p h i]
   grind
  .rw[aq hk,jS p h i,ed]
   grind
theorem wZ: ∀(h:gK) (i:Nat) (o:dL),dO h i=some o->(i,o)∈h
 |[],i,o,d=>by simp[dO]at d
 |(k,e)::h,i,o,d=>by
  rw[ed]at d;split at d
  .simp_all
  .exact ak _ (wZ h i o d)
theorem Aj: ∀(h:gK) (e:Nat×dL),e∈h-> ∀i∈e.2.refs,i∈xu h
 |[],e,d,i,f=>by simp at d
 |(k,o)::h,e,d,i,f=>by
  simp only[xu,List.mem_append];rcases List.mem_cons.1 d with g|g
  .simp_all
  .right;exact Aj h e g i f
theorem uC {d l:List Nat} (h:Eb d l=true): ∀i∈l,i∉d:=by
 intro i e hd;have:=List.all_eq_true.1 h i e;simp only[Bool.not_eq_true',Zc]at this;have f:d.any (Nat.beq i)=true:=List.any_eq_true.2 ⟨i,hd,by simp⟩;simp_all
theorem Cx.keeps_filter {c:Cx} {p:Nat->Bool} {l:List Nat} (q: ∀i∈l,i∉((c.hp.filter fun e=> !p e.1).map (·.1))):c.Keeps {c with hp:=c.hp.filter fun e=>p e.1} l:=by
 refine⟨fun b g=>⟨⟨g.1, ?_,g.2.2⟩,rfl⟩,fun i h hk=> ?_,fun i h j d=> ?_⟩
 .rintro ⟨i,o,f,s⟩;rw[jS]at f;split at f
  .exact g.2.1 ⟨i,o,f,s⟩
  .cases f
 .rcases hk with ⟨o,d⟩|hk
  .left;refine⟨o, ?_⟩;rw[jS];split
   .exact d
   .rename_i hp
    exfalso;refine q i h (List.mem_map.2 ⟨(i,o),List.mem_filter.2 ⟨wZ _ _ _ d,by simp[hp]⟩,rfl⟩)
  .exact .inr hk
 .rw[jS]at d;split at d
  .exact⟨j,d,j.like_refl _⟩
  .cases d
section
variable {P:Program} {T:TT} {W0:World} {b0 n:Nat} {rd:Option Nat} {c:Cx} {R:Type} {r:R} {st:St} {a:Act} {ats:List (Array Value)}
theorem Ue (c:Cx) (p:Nat->Bool): ∀b,c.out b->({c with hp:=c.hp.filter fun e=>p e.1}:Cx).out b/\({c with hp:=c.hp.filter fun e=>p e.1}:Cx).w.heap[b]? =c.w.heap[b]? :=fun b f=>⟨⟨f.1,(by
 rintro ⟨i,o,d,g⟩;simp only at d g;rw[jS]at d;split at d
 .exact f.2.1 ⟨i,o,d,g⟩
 .cases d),f.2.2⟩,rfl⟩
theorem Cx.Ok.filter (l:c.Ok W0) {p:Nat->Bool} (hk:c.Keeps {c with hp:=c.hp.filter fun e=>p e.1} (xu (c.hp.filter fun e=>p e.1))):({c with hp:=c.hp.filter fun e=>p e.1}:Cx).Ok W0:=by
 have sub: ∀i o,dO (c.hp.filter fun e=>p e.1) i=some o->dO c.hp i=some o:=fun i o h=>by
  simp_all [jS]
 refine⟨l.bel,fun i o y=> ?_,fun i j o q b d g=>l.inj i j o q b (sub i o d) (sub j q g),l.mks,fun b u=>⟨(l.bar b u).1,(fun⟨i,o,d,g⟩=>(l.bar b u).2.1 ⟨i,o,sub i o d,g⟩),(l.bar b u).2.2⟩,l.phi⟩;have h0:=l.obj i o (sub i o y);have z:=wZ _ _ _ y;cases o with
 |box e cs=>
  obtain⟨d,A,g,s,v⟩:=h0;exact⟨d,A,g,bJ.keeps _ _ (hk.sub fun j x=>Aj _ _ z j x) s,v⟩
 |arr t ver xs=>
  obtain⟨h0,e,B,d,g,s⟩:=h0;exact⟨h0,e,B,d,fP.mono (eY.mono hk.free t) _ _ g,s⟩
 |lp f fr ps jo bd ky n p=>
  obtain⟨h0,d,L,g,s,v⟩:=h0;exact⟨h0,d,L,g,bJ.keeps _ _ (hk.sub fun j x=>Aj _ _ z j x) s,v⟩
 |dead=>trivial
 |mp kk vk D=>exact h0
theorem iM.gc (hr:iM W0 b0 rd c st a ats) {d:Nat} {v:bQ} {u:Value} (l:bU c v u) {f:St} (h:gc d v st=some f):
  ∃c',iM W0 b0 rd c' f a ats/\bU c' v u/\c.Mono c'/\c'.w=c.w/\f.stk=st.stk/\f.fr=st.fr:=by
 obtain⟨fr,stk,o,q⟩:=st;simp only[Go.Proofs.YtlhpdcadgbjhiaaGreatDoor.gc]at h;rw[cond_eq_ite]at h;split at h
 .rename_i g
  cases h;have j:=hr.hp;simp only at j;subst j;have s: ∀p:Nat->Bool,Eb ((c.hp.filter fun e=> !p e.1).map (·.1)) (refs v++lD fr++su stk++xu (c.hp.filter fun e=>p e.1))=true->
    ∃c',iM W0 b0 rd c' ⟨fr,stk,c.hp.filter fun e=>p e.1,q⟩ a ats/\bU c' v u/\c.Mono c'/\c'.w=c.w/\stk=stk/\fr=fr:=fun p g=>by
   have x:=uC g;have hk:=Cx.keeps_filter (c:=c) (p:=p) x;exact⟨{c with hp:=c.hp.filter fun e=>p e.1},⟨rfl,hr.nxt,hr.ok.filter (p:=p) hk.right,bJ.keeps _ _ hk.left.left.right hr.fr,CS.keeps _ _ hk.left.right hr.stk,hr.df,hr.rd⟩,bU.keeps _ _ hk.left.left.left l,⟨fun _ h=>h,fun b L h=>⟨L,h⟩,ae _,rfl,Ue c p⟩,rfl,rfl,rfl⟩
  exact s (fun i=>Nat.blt i d||Zc (avq (c.hp.filter fun e=> !Nat.blt e.1 d) 3 (refs v++lD fr++su stk++xu (c.hp.filter fun e=>Nat.blt e.1 d))) i) g
 .cases h
theorem adF (f:dL->dL): ∀(h:gK) (i:Nat),dO (h.map fun e=>(e.1,f e.2)) i=(dO h i).map f
 |[],i=>rfl
 |(k,o)::h,i=>by
  simp only[ax,ed,adF f h i];split<;>rfl
def Cx.anew (c:Cx):Cx:={c with hp:=c.hp.map fun e=>(e.1,e.2.anew c.hp)}
theorem dL.anew_blk (h:gK) (o:dL) (l:Loc):(o.anew h).blk l=o.blk l:=by cases o<;>rfl
theorem Cx.anew_get (c:Cx) (i:Nat):dO c.anew.hp i=(dO c.hp i).map (dL.anew c.hp):=adF _ _ _
theorem Cx.anew_free (c:Cx): ∀b,c.free b->c.anew.free b/\c.anew.w.heap[b]? =c.w.heap[b]? :=fun b d=>⟨⟨d.1,by
 rintro ⟨i,o,e,f⟩;rw[Cx.anew_get]at e;obtain⟨g,h,rfl⟩:=Option.map_eq_some_iff.1 e;rw[dL.anew_blk]at f;exact d.2.1 ⟨i,g,h,f⟩,d.2.2⟩,rfl⟩
theorem Cx.anew_out (c:Cx): ∀b,c.out b->c.anew.out b/\c.anew.w.heap[b]? =c.w.heap[b]? :=fun b d=>⟨⟨d.1,(by
 rintro ⟨i,o,e,f⟩;rw[Cx.anew_get]at e;obtain⟨g,h,rfl⟩:=Option.map_eq_some_iff.1 e;rw[dL.anew_blk]at f;exact d.2.1 ⟨i,g,h,f⟩),d.2.2⟩,rfl⟩
theorem Cx.anew_known (c:Cx) {i:Nat} (h:c.known i):c.anew.known i:=by
 rcases h with ⟨o,d⟩|h
 .exact .inl ⟨_,by rw[Cx.anew_get,d];rfl⟩
 .exact .inr h
theorem DI {h:gK} {id d:Nat} (hf:SV h id d=true): ∃t xs,dO h id=some (.arr t d xs):=by
 simp only[SV,aCR]at hf
 grind
mutual
theorem bU.anew {c:Cx}: ∀(v:bQ) (x:Value),bU c v x->bU c.anew (Go.Proofs.YtlhpdcadgbjhiaaGreatDoor.anew c.hp v) x
 |.undef,_,_=>by simp[bU,Go.Proofs.YtlhpdcadgbjhiaaGreatDoor.anew]
 |.val t x,v,d=>by
  simp only[bU,Go.Proofs.YtlhpdcadgbjhiaaGreatDoor.anew]at d ⊢;exact⟨fun e=>let⟨cs,h,g⟩:=d.1 e;⟨cs,h,eY.mono c.anew_free t x _ g⟩,fun e=>eY.mono c.anew_free t x _ (d.2 e)⟩
 |.nils,_,d=>by simpa only[bU,Go.Proofs.YtlhpdcadgbjhiaaGreatDoor.anew] using d
 |.emp,_,d=>by simpa only[bU,Go.Proofs.YtlhpdcadgbjhiaaGreatDoor.anew] using d
 |.lst t x b,v,d=>by
  simp only[bU,Go.Proofs.YtlhpdcadgbjhiaaGreatDoor.anew]at d ⊢;exact⟨⟨fun e=>let⟨cs,h,g⟩:=d.1.1 e;⟨cs,h,eY.mono c.anew_free (.list t) x _ g⟩,fun e=>eY.mono c.anew_free (.list t) x _ (d.1.2 e)⟩,d.2⟩
 |.nilp,_,d=>by simpa only[bU,Go.Proofs.YtlhpdcadgbjhiaaGreatDoor.anew] using d
 |.nilfn,_,d=>by simpa only[bU,Go.Proofs.YtlhpdcadgbjhiaaGreatDoor.anew] using d
 |.tup l,v,d=>by simp only[bU,Go.Proofs.YtlhpdcadgbjhiaaGreatDoor.anew]at d ⊢;obtain⟨s,h,g⟩:=d;exact⟨s,h,bJ.anew l _ g⟩
 |.agg l,v,d=>by simp only[bU,Go.Proofs.YtlhpdcadgbjhiaaGreatDoor.anew]at d ⊢;obtain⟨s,h,g,z⟩:=d;exact⟨s,h,bJ.anew l _ g,z⟩
 |.cellp t x,v,d=>by
  simp only[bU,Go.Proofs.YtlhpdcadgbjhiaaGreatDoor.anew]at d ⊢;obtain⟨b,o,I,h,g,z,J⟩:=d;exact⟨b,o,I,h,(c.anew_free b g).1,z.of_block (c.anew_free b g).2,eY.mono c.anew_free t x _ J⟩
 |.ptr id K,v,d=>by
  simp only[bU,Go.Proofs.YtlhpdcadgbjhiaaGreatDoor.anew]at d ⊢;obtain⟨q,d⟩:=d;refine⟨q,c.anew_known d.1,fun t cs j=> ?_⟩;rw[Cx.anew_get]at j;obtain⟨o,h,g⟩:=Option.map_eq_some_iff.1 j;cases o<;>simp only[dL.anew,reduceCtorEq]at g;exact d.2 _ _ h
 |.slf id,v,d=>by
  simp only[bU,Go.Proofs.YtlhpdcadgbjhiaaGreatDoor.anew]at d ⊢;obtain⟨q,d⟩:=d;refine⟨q,c.anew_known d.1,fun t cs j=> ?_⟩;rw[Cx.anew_get]at j;obtain⟨o,h,g⟩:=Option.map_eq_some_iff.1 j;cases o<;>simp only[dL.anew,reduceCtorEq]at g;exact d.2 _ _ h
 |.sd id B,v,d=>by
  simp only[bU,Go.Proofs.YtlhpdcadgbjhiaaGreatDoor.anew]at d ⊢;rw[cond_eq_ite];split
  .rename_i y
   obtain⟨D,E,h0⟩:=DI y;simp only[bU];obtain⟨q,d⟩:=d;refine⟨q,c.anew_known d.1,fun t u xs j=>⟨Nat.zero_le _,fun G=> ?_⟩⟩;exact(d.2 _ _ _ h0).2 rfl
  .simp[bU]
 |.slc id B M,v,d=>by
  simp only[bU,Go.Proofs.YtlhpdcadgbjhiaaGreatDoor.anew]at d ⊢;rw[cond_eq_ite];split
  .rename_i y
   obtain⟨D,E,h0⟩:=DI y;simp only[bU];obtain⟨q,d⟩:=d;refine⟨q,c.anew_known d.1,fun t u xs j=>⟨Nat.zero_le _,fun G=> ?_⟩⟩;rw[Cx.anew_get,h0]at j;simp only[Option.map_some,dL.anew,Option.some.injEq,dL.arr.injEq]at j;obtain⟨A,_,_⟩:=j;rw[<-A];exact(d.2 _ _ _ h0).2 rfl
  .simp[bU]
 |.ep id B i K,v,d=>by
  simp only[bU,Go.Proofs.YtlhpdcadgbjhiaaGreatDoor.anew]at d ⊢;rw[cond_eq_ite];split
  .rename_i y
   obtain⟨D,E,h0⟩:=DI y;simp only[bU];obtain⟨q,d⟩:=d;refine⟨q,c.anew_known d.1,fun t u xs j=>⟨Nat.zero_le _,fun G=> ?_⟩⟩;rw[Cx.anew_get,h0]at j;simp only[Option.map_some,dL.anew,Option.some.injEq,dL.arr.injEq]at j;obtain⟨A,_,_⟩:=j;rw[<-A];exact(d.2 _ _ _ h0).2 rfl
  .simp[bU]
 |.fn f l,v,d=>by simp only[bU,Go.Proofs.YtlhpdcadgbjhiaaGreatDoor.anew]at d ⊢;obtain⟨s,h,g⟩:=d;exact⟨s,h,bJ.anew l _ g⟩
 |.mfn f l,v,d=>by simp only[bU,Go.Proofs.YtlhpdcadgbjhiaaGreatDoor.anew]at d ⊢;obtain⟨s,h,g⟩:=d;exact⟨s,h,bJ.anew l _ g⟩
 |.mpv id,v,d=>by
  simp only[bU,Go.Proofs.YtlhpdcadgbjhiaaGreatDoor.anew]at d ⊢;obtain⟨q,d⟩:=d;refine⟨q,c.anew_known d.1,fun N O S j=> ?_⟩;rw[Cx.anew_get]at j;obtain⟨o,h,g⟩:=Option.map_eq_some_iff.1 j;cases o<;>simp only[dL.anew,reduceCtorEq]at g;exact d.2 _ _ _ h
 |.yld id,v,d=>by
  simp only[bU,Go.Proofs.YtlhpdcadgbjhiaaGreatDoor.anew]at d ⊢;obtain⟨q,d⟩:=d;refine⟨q,c.anew_known d.1,fun f U V jo W X n p j=> ?_⟩;rw[Cx.anew_get]at j;obtain⟨o,h,g⟩:=Option.map_eq_some_iff.1 j;cases o<;>simp only[dL.anew,reduceCtorEq]at g;exact d.2 _ _ _ _ _ _ _ _ h
theorem bJ.anew {c:Cx}: ∀(l:List bQ) (xs:List Value),bJ c l xs->bJ c.anew (zF c.hp l) xs
 |[],[],_=>by simp[bJ,zF]
 |v::l,x::xs,d=>by
  simp only[bJ,zF]at d ⊢;exact⟨bU.anew v x d.1,bJ.anew l xs d.2⟩
 |[],_::_,d=>by simp[bJ]at d
 |_::_,[],d=>by simp[bJ]at d
end
theorem CS.anew {c:Cx}: ∀(e:List (List bQ)) (g:List (Array Value)),CS c e g->CS c.anew (e.map (zF c.hp)) g
 |[],[],_=>trivial
 |f::e,t::g,d=>⟨bJ.anew _ _ d.1,CS.anew e g d.2⟩
 |[],_::_,d=>d.elim
 |_::_,[],d=>d.elim
theorem iM.anew (hr:iM W0 b0 rd c st a ats): ∃c',iM W0 b0 rd c' (X3 st) a ats/\c.Mono c'/\c'.w=c.w:=by
 obtain⟨y,J,K,M⟩:=st;have u:=hr.hp;simp only at u;subst u;refine⟨c.anew,⟨rfl,hr.nxt,⟨hr.ok.bel,fun i o v=> ?_,fun i j o q b d g l s=> ?_,hr.ok.mks,fun b z=>(Cx.anew_out c b (hr.ok.bar b z)).1,hr.ok.phi⟩,bJ.anew _ _ hr.fr,CS.anew _ _ hr.stk,hr.df,hr.rd⟩,⟨fun _ h=>h,fun b L h=>⟨L,h⟩,ae _,rfl,Cx.anew_out c⟩,rfl⟩
 .rw[Cx.anew_get]at v;obtain⟨x,d,rfl⟩:=Option.map_eq_some_iff.1 v;have h0:=hr.ok.obj i x d;cases x with
  |box e cs=>
   obtain⟨d,A,g,l,s⟩:=h0;exact⟨d,A,g,bJ.anew _ _ l,s⟩
  |arr t ver xs=>
   obtain⟨h0,e,B,d,g,l⟩:=h0;exact⟨h0,e,B,d,fP.mono (eY.mono c.anew_free t) _ _ g,l⟩
  |lp f y ps jo bd ky n p=>
   obtain⟨h0,d,L,g,l,s⟩:=h0;exact⟨h0,d,L,g,bJ.anew _ _ l,s⟩
  |dead=>trivial
  |mp kk vk N=>exact h0
 .rw[Cx.anew_get]at d g;obtain⟨D,E,rfl⟩:=Option.map_eq_some_iff.1 d;obtain⟨G,I,rfl⟩:=Option.map_eq_some_iff.1 g;rw[dL.anew_blk]at l s;exact hr.ok.inj i j D G b E I l s
theorem zW {l:List Nat}: ∀(i:Nat) (fr:List bQ) (xs:List Value),bJ c fr xs->bJ c (GZ l i fr) xs
 |i,[],[],_=>by simp[bJ,GZ]
 |i,v::fr,x::xs,h=>by
  simp only[bJ,GZ]at h ⊢;refine⟨?_,zW (i+1) fr xs h.2⟩;rw[cond_eq_ite]
  grind [bU]
 |i,[],_::_,h=>by simp[bJ]at h
 |i,_::_,[],h=>by simp[bJ]at h
end
end
end Go.Proofs.YtlhpdcadgbjhiaaGreatDoor
