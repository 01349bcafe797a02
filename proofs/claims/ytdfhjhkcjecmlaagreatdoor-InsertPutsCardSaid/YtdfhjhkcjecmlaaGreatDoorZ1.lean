/- Parts of the proof, joined and shortened by a program: the plain machine, the functions as it prints them, and the mathematics over them. -/
import Derived.Calls
import Derived.Still
import Derived.Orders
import Derived.Laws.Sem
import Derived.Test.YtdfhjhkcjecmlaaGreatDoorProg
import Derived.WalkKit
import Derived.WalkSmall
import Derived.Below
import Derived.Laws.AppendOwn
import Derived.Lib.LaidTab
import Derived.Lib.ItoaNum
import Derived.KernelRfl
import Derived.Laws.StructEq
import Derived.Laws.Slices
import Derived.Laws.Cells
import Derived.Laws.Strings
import Derived.Laws.MakeOwn
import Derived.Laws.BytesString
import Derived.Maps.AppendAt
import Derived.Lib.AppendStr
import Derived.Lib.UnsafeStr
import Derived.MapKept
import Derived.TacticsIn
import Derived.RangeFuncIn
import Derived.RangeFuncLeaves
import Derived.Sort.QuietThIn
set_option linter.unusedVariables false
set_option linter.unusedSimpArgs false
set_option maxRecDepth 100000
set_option maxHeartbeats 4000000
namespace Go.Proofs.YtdfhjhkcjecmlaaGreatDoor
section
open Option renaming some → a6, none → a7
theorem aa.{u} {d:Sort u} (a b:d):cond true a b=a:=rfl
theorem ac.{u} {d:Sort u} (a b:d):cond false a b=b:=rfl
theorem am.{u} {c:Prop} {h:Decidable c} (d:c) {f:Sort u} {t e:f}:ite c t e=t:=if_pos d
theorem aq.{u} {c:Prop} {h:Decidable c} (d:¬c) {f:Sort u} {t e:f}:ite c t e=e:=if_neg d
inductive Ty where
 |unit
 |bool
 |int (k:IntKind)
 |str
 |list (t:Ty)
 |pair (a b:Ty)
 deriving DecidableEq
@[reducible] def Ty.den:Ty->Type
 |.unit=>Unit
 |.bool=>Bool
 |.int _=>Int
 |.str=>List UInt8
 |.list t=>List t.den
 |.pair a b=>a.den×b.den
def Ty.dflt:(t:Ty)->t.den
 |.unit=>()
 |.bool=>false
 |.int _=>0
 |.str=>[]
 |.list _=>[]
 |.pair a b=>(a.dflt,b.dflt)
def Ty.size:Ty->Nat
 |.unit=>0
 |.pair a b=>a.size+b.size
 |_=>1
def Ty.isAgg:Ty->Bool
 |.unit=>true
 |.pair _ _=>true
 |_=>false
def kY {t':Ty} (t:Ty) (x:t'.den):Option t.den:=if h:t'=t then a6 (cast (congrArg Ty.den h) x)else a7
def Ty.same:(t:Ty)->t.den->t.den->Bool
 |.unit,_,_=>true
 |.bool,x,y=>x==y
 |.int _,x,y=>x==y
 |.str,x,y=>x==y
 |.list _,_,_=>false
 |.pair a b,x,y=>a.same x.1 y.1&&b.same x.2 y.2
def sub {d:Type} (l:List d) (lo hi:Int):List d:=(l.take hi.toNat).drop lo.toNat
inductive di where
 |undef
 |val (t:Ty) (x:t.den)
 |nils
 |nilp
 |nilfn
 |tup (l:List di)
 |agg (l:List di)
 |cellp (t:Ty) (x:t.den)
 |ptr (id off:Nat)
 |slc (id ver:Nat) (view:Option (Int×Int))
 |ep (id ver:Nat) (i:Nat) (off:Nat)
 |fn (f:FuncId) (caps:List di)
 |mfn (f:FuncId) (fst:List di)
 |mpv (id:Nat)
 |yld (id:Nat)
 |emp
 |lst (t:Ty) (x:List t.den) (nil:Bool)
 |slf (id:Nat)
 |sd (id ver:Nat)
inductive Ex where
 |normal
 |exit (id:Nat)
 |goto (l:Nat)
 |ret
inductive eu where
 |box (t:TypeId) (cells:List di)
 |arr (t:Ty) (ver:Nat) (xs:List t.den)
 |lp (f:FuncId) (fr:List di) (ps:List Nat) (jr bd:Code) (key:Option Nat) (state:Nat) (pend:Option Ex)
 |dead
 |mp (kk vk:IntKind) (es:List (Int×Int))
abbrev iw:=List (Nat×eu)
def eG:iw->Nat->Option eu
 |[],_=>a7
 |(k,o)::h,i=>bif k==i then a6 o else eG h i
def jB:iw->Nat->eu->iw
 |[],_,_=>[]
 |(k,o)::h,i,d=>bif k==i then(k,d)::h else(k,o)::jB h i d
structure St where
 fr:List di
 stk:List (List di)
 hp:iw
 nxt:Nat
inductive TK where
 |bool|str|other
 |int (k:IntKind)
 |slice (e:TypeId)
 |struct (fs:List (Nat×TypeId))
 |fn
 |ptr (e:TypeId)
 |map (k e:TypeId)
structure TI where
 known:Bool
 k:TK
 size:Nat
 bytes:Nat
 ty:Option Ty
 zero:List di
 eq:Bool
 bld:Bool:=false
 keep:Bool:=false
instance:Inhabited TI:=⟨⟨false,.other,0,0,a7,[],false,false,false⟩⟩
inductive TT where
 |nil
 |node (k:Nat) (i:TI) (l r:TT)
def TT.at:TT->TypeId->TI
 |.nil,_=>default
 |.node k i l r,t=>bif Nat.beq k t then i else bif Nat.blt t k then l.at t else r.at t
def TI.isAgg (i:TI):Bool:=match i.k with|.struct _=>true|_=>false
def flat:(t:Ty)->t.den->List di
 |.unit,_=>[]
 |.pair a b,x=>flat a x.1++flat b x.2
 |.bool,x=>[.val .bool x]
 |.int k,x=>[.val (.int k) x]
 |.str,x=>[.val .str x]
 |.list t,x=>[.val (.list t) x]
def di.cells:di->Option (List di)
 |.val t x=>a6 (flat t x)
 |.agg l=>a6 l
 |.undef=>a7
 |.tup _=>a7
 |v=>a6 [v]
def leaf (t:Ty):di->Option t.den
 |.val t' x=>kY t x
 |.nils=>match t with|.list _=>a6 []|_=>a7
 |_=>a7
def mk:(t:Ty)->List di->Option (t.den×List di)
 |.unit,l=>a6 ((),l)
 |.pair a b,l=>
  match mk a l with
  |some (x,d)=>match mk b d with
   |some (y,e)=>a6 ((x,y),e)
   |none=>a7
  |none=>a7
 |.bool,c::l=>match leaf .bool c with|some x=>a6 (x,l)|none=>a7
 |.int k,c::l=>match leaf (.int k) c with|some x=>a6 (x,l)|none=>a7
 |.str,c::l=>match leaf .str c with|some x=>a6 (x,l)|none=>a7
 |.list t,c::l=>match leaf (.list t) c with|some x=>a6 (x,l)|none=>a7
 |_,[]=>a7
def Kv (t:Ty) (l:List di):Option t.den:=
 match mk t l with
 |some (x,[])=>a6 x
 |_=>a7
def di.isNils:di->Bool
 |.nils=>true
 |_=>false
def norm (i:TI) (l:List di):di:=
 match i.k with
 |.struct _=>match i.ty with
  |some t=>match Kv t l with
   |some x=>bif i.keep&&l.any di.isNils then .agg l else .val t x
   |none=>.agg l
  |none=>.agg l
 |_=>match l with
  |[v]=>v
  |_=>.undef
def af0 {d:Type} (xs:List d):Option (Int×Int)->List d
 |none=>xs
 |some (lo,e)=>sub xs lo e
def Eh (hp:iw) (t:Ty) (id d:Nat) (e:Option (Int×Int)):Option (List t.den):=
 match eG hp id with
 |some (.arr t' v f)=>bif v==d then(match kY (.list t) (t':=.list t') f with|some ys=>a6 (af0 ys e)|none=>a7)else a7
 |_=>a7
def di.as (hp:iw) (t:Ty):di->Option t.den
 |.val t' x=>kY t x
 |.nils=>match t with|.list _=>a6 []|_=>a7
 |.emp=>match t with|.list _=>a6 []|_=>a7
 |.lst e xs _=>kY (t':=.list e) t xs
 |.slc id ver d=>match t with|.list e=>Eh hp e id ver d|_=>a7
 |.agg l=>bif t.isAgg then Kv t l else a7
 |_=>a7
def ab5:(t:Ty)->t.den->Nat->di
 |.pair a _,x,0=>.val a x.1
 |.pair _ b,x,n+1=>ab5 b x.2 n
 |_,_,_=>.undef
def Wp:(t:Ty)->t.den->Nat->di
 |.pair a _,x,0=>.cellp a x.1
 |.pair _ b,x,n+1=>Wp b x.2 n
 |_,_,_=>.undef
def yX:Value->di
 |.bool b=>.val .bool b
 |.int k n=>.val (.int k) n
 |.string s=>.val .str s.data.toList
 |.slice a7 0 0=>.nils
 |.pointer a7=>.nilp
 |.nilFunc=>.nilfn
 |_=>.undef
def abT:Value->di
 |.agg cs=>bif cs.toList.all Value.oneCell' then .agg (cs.toList.map yX)else .undef
 |.tuple _=>.undef
 |v=>yX v
def iF (fr:List di):Operand->di
 |.tmp t=>fr.getD t .undef
 |.const v=>abT v
 |.global _=>.undef
 |.func f=>.fn f []
def mD:Nat:=140737488355328
def bY (k:IntKind) (a b:Int):Int:=k.wrap (a+b)
def dV (k:IntKind) (a b:Int):Int:=k.wrap (a-b)
def ass (k:IntKind) (a b:Int):Int:=k.wrap (a*b)
def aMM (k:IntKind) (a b:Int):Int:=k.wrap (a.tdiv b)
def auh (d:BinOp) (k:IntKind) (a b:Int):Int:=
 let x:=BitVec.ofInt k.bits a
 let y:=BitVec.ofInt k.bits b
 match d with
 |.and=>k.wrap (x&&& y).toNat
 |.or=>k.wrap (x|||y).toNat
 |.xor=>k.wrap (x^^^y).toNat
 |_=>k.wrap (x&&& ~~~y).toNat
def aFq (k:IntKind) (a b:Int):Int:=k.wrap (a*2^(min b.toNat k.bits))
def aFr (k:IntKind) (a b:Int):Int:=a.fdiv (2^(min b.toNat k.bits))
def gU (a b:Int):Bool:=decide (a<b)
def leI (a b:Int):Bool:=decide (a<=b)
def bZ (a b:Int):Bool:=a==b
def bM {d:Type} (l:List d):Int:=(l.length:Int)
def TS (a b:Nat):Bool:=decide (a<b)
def eqN (a b:Nat):Bool:=Nat.beq a b
def leN (a b:Nat):Bool:=decide (a<=b)
def LM (a b:Int):Int:=if b<a then b else a
def EN (a b:Int):Int:=if b>a then b else a
def cO (s:List UInt8) (i:Int):Int:=((s.getD i.toNat 0).toNat:Int)
def dQ {e:Type} (l:List e) (d:e) (i:Int):e:=l.getD i.toNat d
def gm (a b:List UInt8):Bool:=a==b
def ltS (a b:List UInt8):Bool:=Op.bytesLess a b
def dm (l:List UInt8):List Int:=l.map fun b=>(b.toNat:Int)
def ofBytes (l:List Int):List UInt8:=l.map fun n=>UInt8.ofNat n.toNat
def aPt (l:List UInt8):Bool:=decide (l.length<=mD)
def eH {d:Type} (l:List d) (e:Nat):Bool:=decide (l.length*e<=mD)
def fO {d:Type} (l:List d) (i:Int):Bool:=decide (0<=i)&&decide (i<(l.length:Int))
def dZ (n lo hi:Int):Bool:=decide (0<=lo)&&(decide (lo<=hi)&&decide (hi<=n))
def iL {d:Type} (l:List d) (i:Nat) (x:d):List d:=l.set i x
def BB (d:BinOp) (k:IntKind) (a b:Int):di:=
 match d with
 |.add=>.val (.int k) (bY k a b)
 |.sub=>.val (.int k) (dV k a b)
 |.mul=>.val (.int k) (ass k a b)
 |.eql=>.val .bool (bZ a b)
 |.neq=>.val .bool (!bZ a b)
 |.lss=>.val .bool (gU a b)
 |.leq=>.val .bool (leI a b)
 |.gtr=>.val .bool (gU b a)
 |.geq=>.val .bool (leI b a)
 |_=>.undef
def abI (d:BinOp) (a b:List UInt8):di:=
 match d with
 |.eql=>.val .bool (gm a b)
 |.neq=>.val .bool (!gm a b)
 |.lss=>.val .bool (ltS a b)
 |.leq=>.val .bool (ltS a b||gm a b)
 |.gtr=>.val .bool (!(ltS a b||gm a b))
 |.geq=>.val .bool (!ltS a b)
 |_=>.undef
def TT.eqOk (T:TT):Nat->TypeId->Bool
 |0,_=>false
 |n+1,t=>(T.at t).known&&(match(T.at t).k with
  |.bool|.int _|.str=>true
  |.struct d=>(T.at t).eq&&d.all fun f=>T.eqOk n f.2
  |_=>false)
section
variable {R:Type}
def nV (b:Bool) (k:Option R):Option R:=cond b k a7
def agE (T:TT) (d:BinOp) (t:TypeId) (x y:di) (K:di->Option R):Option R:=
 match x,y with
 |.val (.int k) a,.val (.int f) b=>
  if k=f then
   match d with
   |.quo=>nV (!bZ b 0) (K (.val (.int k) (aMM k a b)))
   |.rem=>nV (!bZ b 0) (K (.val (.int k) (a.tmod b)))
   |.add|.sub|.mul|.eql|.neq|.lss|.leq|.gtr|.geq=>K (BB d k a b)
   |.and|.or|.xor|.andNot=>K (.val (.int k) (auh d k a b))
   |.shl=>nV (leI 0 b) (K (.val (.int k) (aFq k a b)))
   |.shr=>nV (leI 0 b) (K (.val (.int k) (aFr k a b)))
  else
   match d with
   |.shl=>nV (leI 0 b) (K (.val (.int k) (aFq k a b)))
   |.shr=>nV (leI 0 b) (K (.val (.int k) (aFr k a b)))
   |_=>a7
 |.val .bool a,.val .bool b=>
  bif(T.at t).known then
   match(T.at t).k,d with
   |.bool,.eql=>K (.val .bool (a==b))
   |.bool,.neq=>K (.val .bool (!(a==b)))
   |_,_=>a7
  else a7
 |.val .str a,.val .str b=>
  match d with
  |.add=>nV (decide (a.length+b.length<=mD)) (K (.val .str (a++b)))
  |.eql|.neq|.lss|.leq|.gtr|.geq=>K (abI d a b)
  |_=>a7
 |.lst _ _ b,.nils=>bif(T.at t).known then(match(T.at t).k,d with
  |.slice _,.eql=>K (.val .bool b)
  |.slice _,.neq=>K (.val .bool (!b))
  |_,_=>a7)else a7
 |x,y=>
  bif !T.eqOk 6 t then a7 else
  match(T.at t).k,(T.at t).ty with
  |.struct _,a6 e=>
   match x.as [] e,y.as [] e,d with
   |some a,a6 b,.eql=>K (.val .bool (e.same a b))
   |some a,a6 b,.neq=>K (.val .bool (!e.same a b))
   |_,_,_=>a7
  |_,_=>a7
def GZ:List (Int×Int)->Int->Option Int
 |[],_=>a7
 |(k,v)::l,a=>bif bZ a k then a6 v else GZ l a
def nN (l:List (Int×Int)) (a:Int):Int:=match GZ l a with
 |some v=>v
 |none=>0
def ay8 (l:List (Int×Int)) (a:Int):Bool:=match GZ l a with
 |some _=>true
 |none=>false
def wX:List (Int×Int)->Int->Int->List (Int×Int)
 |[],a,b=>[(a,b)]
 |(k,v)::l,a,b=>bif bZ a k then(k,b)::l else(k,v)::wX l a b
def TT.mapOf (T:TT) (t:TypeId):Option (IntKind×IntKind):=bif(T.at t).known then(match(T.at t).k with
 |.map k e=>bif(T.at k).known&&(T.at e).known then(match(T.at k).k,(T.at e).k with
  |.int a,.int b=>a6 (a,b)
  |_,_=>a7)else a7
 |_=>a7)else a7
def aAw (hp:iw) (x y:di):Bool:=match x with
 |.slc id ver _=>(match y with
  |.nils=>(match eG hp id with
   |some (.arr _ v d)=>v==ver&&TS 0 d.length
   |_=>false)
  |_=>false)
 |_=>false
def azv (hp:iw) (x y:di):Bool:=match x with
 |.ptr id _=>(match y with
  |.nilp=>(match eG hp id with
   |some (.box _ _)=>true
   |_=>false)
  |_=>false)
 |_=>false
def Wj (T:TT) (hp:iw) (d:BinOp) (t:TypeId) (x y:di) (K:di->Option R):Option R:=
 bif aAw hp x y then(bif(T.at t).known then(match(T.at t).k,d with
  |.slice _,.eql=>K (.val .bool false)
  |.slice _,.neq=>K (.val .bool true)
  |_,_=>a7)else a7)else bif azv hp x y then(bif(T.at t).known then(match(T.at t).k,d with
  |.ptr _,.eql=>K (.val .bool false)
  |.ptr _,.neq=>K (.val .bool true)
  |_,_=>a7)else a7)else agE T d t x y K
def awz (d:UnOp) (x:di) (K:di->Option R):Option R:=
 match d,x with
 |.not,.val .bool b=>K (.val .bool (!b))
 |.neg,.val (.int k) a=>K (.val (.int k) (dV k 0 a))
 |_,_=>a7
def G5 (cl:Bool) (st:St) (dst:Option Nat):Nat:=cond cl st.nxt<|1000000*st.stk.length+dst.getD 0
def alloc (cl:Bool) (dst:Option Nat) (o:eu) (st:St) (K:Nat->St->Option R):Option R:=
 match eG st.hp (G5 cl st dst)with
 |some _=>a7
 |none=>bif st.nxt.ble (G5 cl st dst)then K (G5 cl st dst) {st with hp:=(G5 cl st dst,o)::st.hp,nxt:=bif cl then G5 cl st dst+1 else st.nxt}else a7
def Nc (cs:List di) (off k:Nat):Option (List di):=cond ((off+k).ble cs.length) (a6 ((cs.drop off).take k)) a7
def putCells (cs:List di) (off:Nat) (vs:List di):Option (List di):=cond ((off+vs.length).ble cs.length) (a6 (cs.take off++vs++cs.drop (off+vs.length))) a7
def Qc (T:TT) (hp:iw) (t:TypeId) (a:di) (K:di->Option R):Option R:=
 bif !(T.at t).known then a7 else
 match a with
 |.cellp u x=>match(T.at t).ty with
  |some e=>match kY e x with
   |some y=>K (.val e y)
   |none=>a7
  |none=>a7
 |.ptr id d=>match eG hp id with
  |some (.box _ cs)=>match Nc cs d (T.at t).size with
   |some l=>K (norm (T.at t) l)
   |none=>a7
  |_=>a7
 |.ep id ver i d=>match eG hp id with
  |some (.arr u v f)=>bif v==ver then
    (bif TS i f.length then
     (match Nc (flat u (f.getD i u.dflt)) d (T.at t).size with
     |some l=>K (norm (T.at t) l)
     |none=>a7)else a7)else a7
  |_=>a7
 |_=>a7
def NG (T:TT) (st:St) (t:TypeId) (a v:di) (K:St->Option R):Option R:=
 match v.cells with
 |none=>a7
 |some d=>
  bif(T.at t).known&&d.length==(T.at t).size then
   match a with
   |.ptr id e=>match eG st.hp id with
    |some (.box bt cs)=>match putCells cs e d with
     |some g=>K {st with hp:=jB st.hp id (.box bt g)}
     |none=>a7
    |_=>a7
   |.ep id ver i e=>match eG st.hp id with
    |some (.arr u w f)=>bif w==ver then
      (bif TS i f.length then
       (match putCells (flat u (f.getD i u.dflt)) e d with
       |some cs=>match Kv u cs with
        |some x=>K {st with hp:=jB st.hp id (.arr u w (iL f i x))}
        |none=>a7
       |none=>a7)else a7)else a7
    |_=>a7
   |_=>a7
  else a7
def agF (f:iw) (st:St) (a v:di) (K:St->Option R):Option R:=
 match a,v with
 |.ptr id d,.slc i _ (a6 _)=>match eG f id with
  |some (.box _ g)=>match g.getD d .undef with
   |.slc i0 _ a7=>bif Nat.beq i0 i&& !Nat.beq i id then
     (match eG st.hp id,eG st.hp i with
     |some (.box bt cs),a6 (.arr e w h)=>match cs.getD d .undef with
      |.slc i1 w1 (a6 (lo,j))=>bif Nat.beq i1 i&&(w1==w&&lo==0)then
        K {st with hp:=jB (jB st.hp i (.arr e (w+1) (h.take j.toNat))) id (.box bt (cs.set d (.slc i (w+1) a7)))}else K st
      |_=>K st
     |_,_=>K st)else K st
   |_=>K st
  |_=>K st
 |_,_=>K st
def NC (T:TT) (d:List (Nat×TypeId)) (cs:List di):List (Nat×di)->Option (List di)
 |[]=>a6 cs
 |(i,v)::g=>match d[i]?,v.cells with
  |some (h,e),a6 f=>bif(T.at e).known&&f.length==(T.at e).size then
    (match putCells cs h f with
    |some j=>NC T d j g
    |none=>a7)else a7
  |_,_=>a7
def NE (e:Ty) (xs:List e.den):List (Nat×di)->Option (List e.den)
 |[]=>a6 xs
 |(i,v)::d=>match v.as [] e with
  |some x=>bif TS i xs.length then NE e (xs.set i x) d else a7
  |none=>a7
def intOf:di->Option Int
 |.val (.int _) n=>a6 n
 |_=>a7
def bound (d:Int):Option di->Option Int
 |none=>a6 d
 |some v=>intOf v
def TT.rowOf (T:TT) (t:TypeId) (size:Nat):Bool:=
 match(T.at t).k with
 |.slice e=>(T.at t).known&&((T.at e).known&&((T.at e).size==size&&(TS 0 size&&TS 0 (T.at e).bytes)))
 |_=>false
def TT.isPtr (T:TT) (t:TypeId):Bool:=
 match(T.at t).k with
 |.ptr _=>(T.at t).known
 |_=>false
def TT.isBytes (T:TT) (t:TypeId):Bool:=
 match(T.at t).k with
 |.ptr e=>(T.at t).known&&((T.at e).known&&(match(T.at e).ty with|some (.int .u8)=>Nat.beq (T.at e).size 1|_=>false))
 |_=>false
def TT.isStr (T:TT) (t:TypeId):Bool:=
 match(T.at t).k with
 |.str=>(T.at t).known
 |_=>false
def NF (T:TT) (hp:iw) (t:TypeId) (x:di) (lo hi f:Option di) (K:di->Option R):Option R:=
 match x,f with
 |.val .str s,a7=>match bound 0 lo,bound (bM s) hi with
  |some l,a6 h=>nV (T.isStr t&&dZ (bM s) l h) (K (.val .str (sub s l h)))
  |_,_=>a7
 |.val (.list e) d,a7=>match bound 0 lo,bound (bM d) hi with
  |some l,a6 h=>nV (T.rowOf t e.size&&dZ (bM d) l h) (K (.val (.list e) (sub d l h)))
  |_,_=>a7
 |.val (.list e) d,a6 m=>match bound 0 lo,hi.bind intOf,intOf m with
  |some l,a6 h,a6 k=>nV (T.rowOf t e.size&&(l==0&&(h==0&&k==0))) (K .emp)
  |_,_,_=>a7
 |.nils,a7=>match bound 0 lo,bound 0 hi with
  |some l,a6 h=>nV (T.rowOf t (T.at (match(T.at t).k with|.slice e=>e|_=>0)).size&&(bZ l 0&&bZ h 0)) (K .nils)
  |_,_=>a7
 |.slc id ver a7,a7=>match eG hp id with
  |some (.arr e v d)=>bif v==ver then
    (match bound 0 lo,bound (bM d) hi with
    |some l,a6 h=>nV (T.rowOf t e.size&&dZ (bM d) l h) (K (.slc id ver (a6 (l,h))))
    |_,_=>a7)else a7
  |_=>a7
 |_,_=>a7
def TT.fieldAt (T:TT) (t:TypeId) (f:Nat):Option (Nat×TypeId):=
 match(T.at t).k with
 |.struct e=>bif(T.at t).known then
   (match e[f]? with
   |some (g,d)=>bif(T.at d).known&&TS 0 (T.at d).size then a6 (g,d)else a7
   |none=>a7)else a7
 |_=>a7
def wP (T:TT) (hp:iw) (t:TypeId) (x:di) (f:Nat) (K:di->Option R):Option R:=
 match T.fieldAt t f with
 |some (d,_)=>match x with
  |.cellp u x=>match(T.at t).ty with
   |some e=>match kY e x with
    |some y=>K (Wp e y f)
    |none=>a7
   |none=>a7
  |.ptr id o=>match eG hp id with
   |some (.box _ _)=>K (.ptr id (o+d))
   |_=>a7
  |.ep id ver i o=>match eG hp id with
   |some (.arr _ v _)=>bif v==ver then K (.ep id ver i (o+d))else a7
   |_=>a7
  |_=>a7
 |none=>a7
def ND (T:TT) (t:TypeId) (x:di) (f:Nat) (K:di->Option R):Option R:=
 match T.fieldAt t f with
 |some (g,d)=>match x with
  |.val u x=>match(T.at t).ty with
   |some e=>match kY e x with
    |some y=>K (ab5 e y f)
    |none=>a7
   |none=>a7
  |.agg l=>match Nc l g (T.at d).size with
   |some cs=>K (norm (T.at d) cs)
   |none=>a7
  |_=>a7
 |none=>a7
def wQ (T:TT) (hp:iw) (t:TypeId) (x i:di) (K:di->Option R):Option R:=
 match intOf i with
 |none=>a7
 |some i=>match x with
  |.val (.list e) d=>nV (T.rowOf t e.size&&fO d i) (K (.cellp e (dQ d e.dflt i)))
  |.slc id ver f=>match eG hp id with
   |some (.arr e v d)=>bif v==ver then
     (match f with
     |none=>nV (T.rowOf t e.size&&fO d i) (K (.ep id ver i.toNat 0))
     |some (lo,g)=>nV (T.rowOf t e.size&&(decide (0<=i)&&gU (lo+i) g)) (K (.ep id ver (lo+i).toNat 0)))else a7
   |_=>a7
  |_=>a7
def agG (T:TT) (hp:iw) (t:TypeId) (x:di) (K:di->Option R):Option R:=
 match x with
 |.val .str s=>nV (T.isStr t) (K (.val (.int .i64) (bM s)))
 |.val (.list e) d=>nV (T.rowOf t e.size) (K (.val (.int .i64) (bM d)))
 |.nils=>nV (T.rowOf t (T.at (match(T.at t).k with|.slice e=>e|_=>0)).size) (K (.val (.int .i64) 0))
 |.slc id ver f=>match eG hp id with
  |some (.arr e v d)=>bif v==ver then
    nV (T.rowOf t e.size) (match f with
    |none=>K (.val (.int .i64) (bM d))
    |some (lo,g)=>K (.val (.int .i64) (g-lo)))else a7
  |_=>a7
 |_=>a7
def Nz (T:TT) (cl:Bool) (dst:Option Nat) (t:TypeId) (s x:di) (st:St) (K:di->St->Option R):Option R:=
 match(T.at t).k with
 |.slice g=>match(T.at g).ty with
  |some e=>match x.as st.hp (.list e)with
   |none=>a7
   |some d=>match s with
    |.nils=>nV (T.rowOf t e.size&&eH d (T.at g).bytes) (alloc cl dst (.arr e 0 d) st fun id st=>K (.slc id 0 a7) st)
    |.emp=>nV (T.rowOf t e.size&&eH d (T.at g).bytes) (bif TS 0 d.length then alloc cl dst (.arr e 0 d) st fun id st=>K (.slc id 0 a7) st else K .emp st)
    |.slc id ver i=>match eG st.hp id with
     |some (.arr e' v f)=>bif v==ver then
       (match kY (t':=.list e') (.list e) f with
       |some f=>match i with
        |none=>nV (T.rowOf t e.size&&eH (f++d) (T.at g).bytes) (K (.slc id (ver+1) a7) {st with hp:=jB st.hp id (.arr e (ver+1) (f++d))})
        |some (lo,h)=>nV (T.rowOf t e.size&&(bZ lo 0&&eH (f.take h.toNat++d) (T.at g).bytes))
          (K (.slc id (ver+1) a7) {st with hp:=jB st.hp id (.arr e (ver+1) (f.take h.toNat++d))})
       |none=>a7)else a7
     |_=>a7
    |_=>a7
  |none=>a7
 |_=>a7
def C9 (T:TT) (cl:Bool) (dst:Option Nat) (t t':TypeId) (s x:di) (st:St) (K:di->St->Option R):Option R:=
 match(T.at t).k,x with
 |.slice d,.val .str y=>match(T.at d).ty with
  |some (.int .u8)=>bif T.isStr t'&&T.rowOf t 1&&Nat.beq (T.at d).bytes 1 then
    (match s with
    |.nils=>nV (aPt y) (alloc cl dst (.arr (.int .u8) 0 (dm y)) st fun id st=>K (.slc id 0 a7) st)
    |.slc id ver f=>match eG st.hp id with
     |some (.arr (.int .u8) v e)=>bif v==ver then
       (match f with
       |none=>nV (eH (e++dm y) 1) (K (.slc id (ver+1) a7) {st with hp:=jB st.hp id (.arr (.int .u8) (ver+1) (e++dm y))})
       |some _=>a7)else a7
     |_=>a7
    |_=>a7)else a7
  |_=>a7
 |_,_=>a7
def Dc (T:TT) (s d:TypeId) (x:di) (hp:iw) (K:di->Option R):Option R:=
 bif !((T.at s).known&&(T.at d).known)then a7 else
 match(T.at s).k,(T.at d).k,x with
 |.int _,.int k,.val (.int _) n=>K (.val (.int k) (k.wrap n))
 |.str,.str,.val .str s=>K (.val .str s)
 |.slice e,.str,x=>match(T.at e).k with
  |.int .u8=>match x.as hp (.list (.int .u8))with
   |some f=>nV (T.at e).known (K (.val .str (ofBytes f)))
   |none=>a7
  |_=>a7
 |_,_,_=>a7
abbrev gY (R:Type):=di->List di->Option Nat->St->(di->St->Option R)->Option R
def D8 (k:IntKind):List di->Option (List Int)
 |[]=>a6 []
 |.val (.int d) a::l=>if k=d then match D8 k l with
   |some l=>a6 (a::l)
   |none=>a7
  else a7
 |_=>a7
def kV (T:TT) (cl:Bool) (o:Oper) (b:Builtin) (d:List TypeId) (args:List di) (st:St) (K:di->St->Option R):Option R:=
 match b,args with
 |.len,[x]=>match d with
  |[t]=>agG T st.hp t x fun v=>K v st
  |_=>a7
 |.min,.val (.int k) a::l=>match D8 k l with
  |some l=>K (.val (.int k) (l.foldl LM a)) st
  |none=>a7
 |.max,.val (.int k) a::l=>match D8 k l with
  |some l=>K (.val (.int k) (l.foldl EN a)) st
  |none=>a7
 |.append,[s,x]=>match d with
  |[t,g]=>bif t==g then Nz T cl o.dst t s x st K else C9 T cl o.dst t g s x st K
  |_=>a7
 |.unsafeSliceData,[.slc id f a7]=>match d with
  |[t]=>match eG st.hp id with
   |some (.arr e v _)=>bif v==f&&(T.rowOf t e.size&&T.isPtr o.type)then K (.sd id f) st else a7
   |_=>a7
  |_=>a7
 |.unsafeString,[.sd id f,.val (.int .i64) n]=>match d with
  |[i,_]=>match eG st.hp id with
   |some (.arr (.int .u8) v h)=>bif v==f&&T.isBytes i then nV (bZ n (bM h)) (K (.val .str (ofBytes h)) {st with hp:=jB st.hp id .dead})else a7
   |_=>a7
  |_=>a7
 |_,_=>a7
def fE (T:TT) (cl:Bool) (call:gY R) (o:Oper) (st:St) (K:di->St->Option R):Option R:=
 match o.op with
 |.move x|.assign x=>K (iF st.fr x) st
 |.pick c a b=>match iF st.fr c with
  |.val .bool t=>bif t then K (iF st.fr a) st else K (iF st.fr b) st
  |_=>a7
 |.alloc t=>bif(T.at t).known then
   (match(T.at t).k,(T.at t).zero with
   |.slice h,[.nils]=>match(T.at h).ty with
    |some e=>bif TS 0 e.size then alloc cl (a6 (o.dst.getD 0+500000)) (.arr e 0 []) st fun i st=>alloc cl o.dst (.box t [.slc i 0 a7]) st fun id st=>K (.ptr id 0) st
     else a7
    |none=>alloc cl o.dst (.box t (T.at t).zero) st fun id st=>K (.ptr id 0) st
   |.struct _,[.nilp,.nils]=>bif(T.at t).bld then
     alloc cl (a6 (o.dst.getD 0+500000)) (.arr (.int .u8) 0 []) st fun i st=>alloc cl o.dst (.box t [.slf (G5 cl st o.dst),.slc i 0 a7]) st fun id st=>K (.ptr id 0) st
    else alloc cl o.dst (.box t (T.at t).zero) st fun id st=>K (.ptr id 0) st
   |_,z=>alloc cl o.dst (.box t z) st fun id st=>K (.ptr id 0) st)else a7
 |.box t x=>match(iF st.fr x).cells with
  |some D=>bif(T.at t).known&&D.length==(T.at t).size then alloc cl o.dst (.box t D) st fun id st=>K (.ptr id 0) st else a7
  |none=>a7
 |.build t u=>bif !(T.at t).known then a7 else
  match(T.at t).k with
  |.struct G=>match NC T G (T.at t).zero (u.toList.map fun p=>(p.1,iF st.fr p.2))with
   |some cs=>K (norm (T.at t) cs) st
   |none=>a7
  |_=>a7
 |.buildSlice t n u=>match(T.at t).k with
  |.slice h=>match(T.at h).ty with
   |some e=>match Kv e (T.at h).zero with
    |some d=>bif T.rowOf t e.size&&leN (n*e.size) 1000000 then
      (match NE e (List.replicate n d) (u.toList.map fun p=>(p.1,iF st.fr p.2))with
      |some I=>alloc cl o.dst (.arr e 0 I) st fun id st=>K (.slc id 0 a7) st
      |none=>a7)else a7
    |none=>a7
   |none=>a7
  |_=>a7
 |.load t a=>Qc T st.hp t (iF st.fr a) fun v=>K v st
 |.store t a v=>NG T st t (iF st.fr a) (iF st.fr v) fun J=>agF st.hp J (iF st.fr a) (iF st.fr v) fun st=>K .undef st
 |.nilCheck x=>match iF st.fr x with
  |.ptr id A=>match eG st.hp id with
   |some (.box _ _)=>K (.ptr id A) st
   |_=>a7
  |.cellp t x=>K (.cellp t x) st
  |.ep id ver i A=>match eG st.hp id with
   |some (.arr _ v _)=>bif v==ver then K (.ep id ver i A) st else a7
   |_=>a7
  |_=>a7
 |.binOp op t x y _=>Wj T st.hp op t (iF st.fr x) (iF st.fr y) fun v=>K v st
 |.unOp op _ x=>awz op (iF st.fr x) fun v=>K v st
 |.makeMap t r=>match r,T.mapOf t with
  |none,a6 (j,g)=>alloc cl o.dst (.mp j g []) st fun id st=>K (.mpv id) st
  |_,_=>a7
 |.mapUpdate t m k x=>match T.mapOf t,iF st.fr m with
  |some (j,g),.mpv id=>match eG st.hp id,iF st.fr k,iF st.fr x with
   |some (.mp kk' vk' q),.val (.int B) a,.val (.int L) b=>
    bif decide (kk'=j)&&(decide (B=j)&&(decide (vk'=g)&&decide (L=g)))then K .undef {st with hp:=jB st.hp id (.mp j g (wX q a b))}else a7
   |_,_,_=>a7
  |_,_=>a7
 |.lookup t m k ok=>match T.mapOf t,iF st.fr m with
  |some (j,g),.mpv id=>match eG st.hp id,iF st.fr k with
   |some (.mp kk' vk' q),.val (.int B) a=>
    bif decide (kk'=j)&&(decide (B=j)&&decide (vk'=g))then
     K (bif ok then .tup [.val (.int g) (nN q a),.val .bool (ay8 q a)]else .val (.int g) (nN q a)) st else a7
   |_,_=>a7
  |_,_=>a7
 |.convert s d x=>Dc T s d (iF st.fr x) st.hp fun v=>K v st
 |.makeFunc f first E=>match f,first.toList with
  |.func f,[]=>K (.fn f (E.toList.map (iF st.fr))) st
  |.func f,l=>bif E.toList.isEmpty then K (.mfn f (l.map (iF st.fr))) st else a7
  |_,_=>a7
 |.makeSlice t l c=>match(T.at t).k with
  |.slice h=>match(T.at h).ty,intOf (iF st.fr l),intOf (iF st.fr c)with
   |some e,a6 l,a6 c=>match Kv e (T.at h).zero with
    |some d=>nV (T.rowOf t e.size&&(decide (0<=l)&&(decide (l<=c)&&decide (c.toNat*(T.at h).bytes<=mD))))
      (alloc cl o.dst (.arr e 0 (List.replicate l.toNat d)) st fun id st=>K (.slc id 0 a7) st)
    |none=>a7
   |_,_,_=>a7
  |_=>a7
 |.slice t x lo hi M=>NF T st.hp t (iF st.fr x) (lo.map (iF st.fr)) (hi.map (iF st.fr)) (M.map (iF st.fr)) fun v=>K v st
 |.fieldAddr t x f=>wP T st.hp t (iF st.fr x) f fun v=>K v st
 |.field t x f=>ND T t (iF st.fr x) f fun v=>K v st
 |.indexAddr t x i=>wQ T st.hp t (iF st.fr x) (iF st.fr i) fun v=>K v st
 |.index t x i=>match iF st.fr x,intOf (iF st.fr i)with
  |.val .str s,a6 i=>nV (T.isStr t&&fO s i) (K (.val (.int .u8) (cO s i)) st)
  |_,_=>a7
 |.extract x n=>match iF st.fr x with
  |.tup l=>match l[n]? with
   |some v=>K v st
   |none=>a7
  |_=>a7
 |.call c=>match c.callee with
  |.builtin b=>kV T cl o b c.argTypes.toList (c.args.toList.map (iF st.fr)) st K
  |.value f=>call (iF st.fr f) (c.args.toList.map (iF st.fr)) o.dst st K
  |_=>a7
 |_=>a7
def St.put (st:St) (dst:Option Nat) (v:di):St:=
 match dst with
 |some d=>{st with fr:=st.fr.set d v}
 |none=>st
def iK (T:TT) (cl:Bool) (call:gY R) (ops:Array Oper) (K:St->Option R):List Oper->St->Option R
 |[],st=>K st
 |o::e,st=>
  match o.guard with
  |none=>fE T cl call o st fun v st=>iK T cl call ops K e (st.put o.dst v)
  |some (j,f)=>match(ops[j]?).bind (·.dst)with
   |none=>a7
   |some d=>match st.fr.getD d .undef with
    |.val .bool b=>
     bif b then
      (bif f then fE T cl call o (st.put (a6 d) (.val .bool true)) fun v st=>iK T cl call ops K e (st.put o.dst v)
      else iK T cl call ops K e ((st.put (a6 d) (.val .bool true)).put o.dst (.tup [])))
     else
      (bif f then iK T cl call ops K e ((st.put (a6 d) (.val .bool false)).put o.dst (.tup []))
      else fE T cl call o (st.put (a6 d) (.val .bool false)) fun v st=>iK T cl call ops K e (st.put o.dst v))
    |.tup []=>iK T cl call ops K e (st.put o.dst (.tup []))
    |_=>a7
mutual
def refs:di->List Nat
 |.ptr id _=>[id]
 |.slc id _ _=>[id]
 |.ep id _ _ _=>[id]
 |.slf id=>[id]
 |.sd id _=>[id]
 |.yld id=>[id]
 |.tup l=>mr l
 |.agg l=>mr l
 |.fn _ l=>mr l
 |.mfn _ l=>mr l
 |.mpv id=>[id]
 |_=>[]
def mr:List di->List Nat
 |[]=>[]
 |v::l=>refs v++mr l
end
def uZ:List (List di)->List Nat
 |[]=>[]
 |l::d=>mr l++uZ d
def eu.refs:eu->List Nat
 |.box _ cs=>mr cs
 |.lp _ fr _ _ _ _ _ _=>mr fr
 |_=>[]
def zD:iw->List Nat
 |[]=>[]
 |(_,o)::h=>o.refs++zD h
def acO (l:List Nat) (i:Nat):Bool:=l.any (Nat.beq i)
def azz (h:iw):Nat->List Nat->List Nat
 |0,l=>l
 |n+1,l=>azz h n (l++zD (h.filter fun e=>acO l e.1))
def G7 (d l:List Nat):Bool:=l.all fun i=> !acO d i
def gc (d:Nat) (v:di) (st:St):Option St:=
 let h:=st.hp.filter fun e=>Nat.blt e.1 d
 let new:=st.hp.filter fun e=> !Nat.blt e.1 d
 let f:=azz new 3 (refs v++mr st.fr++uZ st.stk++zD h)
 let g:=st.hp.filter fun e=>Nat.blt e.1 d||acO f e.1
 let i:=((st.hp.filter fun e=> !(Nat.blt e.1 d||acO f e.1)).map (·.1))
 bif G7 i (refs v++mr st.fr++uZ st.stk++zD g)then a6 {st with hp:=g}else a7
def aHZ (h:iw) (id:Nat):Option Nat:=
 match eG h id with
 |some (.arr _ v _)=>a6 v
 |_=>a7
def WJ (h:iw) (id d:Nat):Bool:=match aHZ h id with
 |some v=>v==d
 |none=>false
mutual
def anew (h:iw):di->di
 |.slc id d e=>bif WJ h id d then .slc id 0 e else .undef
 |.ep id d i g=>bif WJ h id d then .ep id 0 i g else .undef
 |.sd id d=>bif WJ h id d then .sd id 0 else .undef
 |.tup l=>.tup (CS h l)
 |.agg l=>.agg (CS h l)
 |.fn f l=>.fn f (CS h l)
 |.mfn f l=>.mfn f (CS h l)
 |v=>v
def CS (h:iw):List di->List di
 |[]=>[]
 |v::l=>anew h v::CS h l
end
def eu.anew (h:iw):eu->eu
 |.box t cs=>.box t (CS h cs)
 |.lp f fr ps a b k n p=>.lp f (CS h fr) ps a b k n p
 |.arr t _ d=>.arr t 0 d
 |o=>o
def aby (st:St):St:=
 {st with fr:=CS st.hp st.fr,stk:=st.stk.map (CS st.hp),hp:=st.hp.map fun e=>(e.1,e.2.anew st.hp)}
structure eY where
 slots:List Nat
 owns:List (Nat×Ty)
 after:List Nat
 aowns:List (Nat×Ty)
 rets:List Nat
 give:List (Nat×Ty)
def Kt (l:List Nat):Nat->List di->List di
 |_,[]=>[]
 |i,v::r=>(bif acO l i then v else .undef)::Kt l (i+1) r
def AL (s:Nat) (t:Ty) (st:St):Option St:=
 match st.fr.getD s .undef with
 |.nils=>match eG st.hp (1000000*st.stk.length+800000+s)with
  |some _=>a7
  |none=>bif st.nxt.ble (1000000*st.stk.length+800000+s)&&Nat.blt 0 t.size then
    a6 {st with fr:=st.fr.set s (.slc (1000000*st.stk.length+800000+s) 0 a7),hp:=(1000000*st.stk.length+800000+s,.arr t 0 [])::st.hp}else a7
 |.slc id ver d=>match eG st.hp id with
  |some (.arr u w e)=>bif w==ver then
    (match d with
    |none=>a6 st
    |some (lo,f)=>bif lo==0 then
      a6 {st with fr:=st.fr.set s (.slc id (ver+1) a7),hp:=jB st.hp id (.arr u (ver+1) (e.take f.toNat))}else a7)else a7
  |_=>a7
 |_=>a7
def axw (k:Nat) (o:eu):iw->iw
 |[]=>[(k,o)]
 |(j,p)::h=>bif Nat.ble j k then(k,o)::(j,p)::h else(j,p)::axw k o h
def mF:iw->iw
 |[]=>[]
 |(k,o)::h=>axw k o (mF h)
def XL (id off:Nat) (t:Ty) (st:St):Option St:=
 match eG st.hp id with
 |some (.box bt cs)=>match cs.getD off .undef with
  |.nils=>match t with
   |.pair .unit d=>a6 {st with hp:=jB st.hp id (.box bt (cs.set off (.val (.list d) [])))}
   |t=>match eG st.hp (id+500000+2000*off)with
    |some _=>a7
    |none=>bif st.nxt.ble (id+500000+2000*off)&&Nat.blt 0 t.size then
      a6 {st with hp:=jB ((id+500000+2000*off,.arr t 0 [])::st.hp) id (.box bt (cs.set off (.slc (id+500000+2000*off) 0 a7)))}else a7
  |_=>a6 st
 |_=>a6 st
def Um (id off:Nat) (t:Ty) (st:St):Option St:=
 match XL id off t st with
 |some st=>a6 {st with hp:=mF st.hp}
 |none=>a7
def GH (s:Nat) (t:Ty) (st:St):Option St:=
 match st.fr.getD s .undef with
 |.nils=>a6 {st with fr:=st.fr.set s (.val (.list t) [])}
 |.emp=>a6 {st with fr:=st.fr.set s (.val (.list t) [])}
 |.slc id ver a7=>match eG st.hp id with
  |some (.arr u w d)=>bif w==ver&&G7 ((st.hp.filter fun e=> !(!Nat.beq e.1 id)).map (·.1)) (mr (st.fr.set s .undef)++uZ st.stk++zD (st.hp.filter fun e=> !Nat.beq e.1 id))then
    a6 {st with fr:=st.fr.set s (.val (.list u) d),hp:=st.hp.filter fun e=> !Nat.beq e.1 id}else a7
  |_=>a7
 |.slc _ _ (a6 _)=>a7
 |_=>a6 st
def UM (s:Nat) (t:Ty) (st:St):Option St:=
 match st.fr.getD s .undef with
 |.slc id ver a7=>bif Nat.beq id (1000000*st.stk.length+800000+s)then a6 {st with hp:=mF st.hp}else
  match eG st.hp id with
  |some (.arr u w d)=>bif st.nxt.ble (1000000*st.stk.length+800000+s)&&G7 [id,1000000*st.stk.length+800000+s] (mr (st.fr.set s .undef)++uZ st.stk++zD (st.hp.filter fun e=> !(Nat.beq e.1 id||Nat.beq e.1 (1000000*st.stk.length+800000+s))))then
    a6 {st with fr:=st.fr.set s (.slc (1000000*st.stk.length+800000+s) ver a7),hp:=mF ((1000000*st.stk.length+800000+s,.arr u w d)::st.hp.filter fun e=> !(Nat.beq e.1 id||Nat.beq e.1 (1000000*st.stk.length+800000+s)))}else a7
  |_=>a7
 |.ptr id 0=>bif Nat.beq id (1000000*st.stk.length+800000+s)then a6 {st with hp:=mF st.hp}else
  match eG st.hp id with
  |some (.box u d)=>bif st.nxt.ble (1000000*st.stk.length+800000+s)&&G7 [id,1000000*st.stk.length+800000+s] (mr (st.fr.set s .undef)++uZ st.stk++(mr d++zD (st.hp.filter fun e=> !(Nat.beq e.1 id||Nat.beq e.1 (1000000*st.stk.length+800000+s)))))then
    a6 {st with fr:=st.fr.set s (.ptr (1000000*st.stk.length+800000+s) 0),hp:=mF ((1000000*st.stk.length+800000+s,.box u d)::st.hp.filter fun e=> !(Nat.beq e.1 id||Nat.beq e.1 (1000000*st.stk.length+800000+s)))}else a7
  |_=>a7
 |_=>match AL s t st with
  |some st=>a6 {st with hp:=mF st.hp}
  |none=>a7
def IU:List (Nat×Ty)->St->Option St
 |[],st=>a6 st
 |(s,t)::l,st=>match GH s t st with
  |some st=>IU l st
  |none=>a7
def jX:List (Nat×Ty)->St->Option St
 |[],st=>a6 st
 |(s,.pair .unit t)::l,st=>match GH s t st with
  |some st=>jX l st
  |none=>a7
 |(s,.pair (.list .unit) t)::l,st=>match Um (s/100) (s %100) t st with
  |some st=>jX l st
  |none=>a7
 |(s,.pair (.list .bool) t)::l,st=>match UM s t st with
  |some st=>jX l st
  |none=>a7
 |(s,t)::l,st=>match AL s t st with
  |some st=>jX l st
  |none=>a7
def PQ (d:List Nat) (e:List (Nat×Ty)) (st:St):Option St:=
 match(match e with
  |[]=>a6 {st with fr:=Kt d 0 st.fr}
  |_=>gc (1000000*st.stk.length) .undef {st with fr:=Kt d 0 st.fr})with
 |some st=>match jX e st with
  |some st=>match gc (1000000*st.stk.length) .undef st with
   |some st=>a6 (aby st)
   |none=>a7
  |none=>a7
 |none=>a7
def aCb (k:eY) (st:St):Option St:=
 match IU k.give {st with fr:=Kt k.rets 0 st.fr}with
 |some st=>match gc (1000000*st.stk.length) .undef st with
  |some st=>a6 (aby st)
  |none=>a7
 |none=>a7
def iter (kp:Option eY) (F:St->(Ex->St->Option R)->Option R):Nat->St->(Ex->St->Option R)->Option R
 |0,_,_=>a7
 |n+1,st,K=>F st fun d st=>match d with
  |.normal=>match kp with
   |none=>iter kp F n st K
   |some k=>match PQ k.slots k.owns st with
    |some st=>iter kp F n st K
    |none=>a7
  |.ret=>match kp with
   |none=>K .ret st
   |some k=>match aCb k st with
    |some st=>K .ret st
    |none=>a7
  |d=>match kp with
   |none=>K d st
   |some k=>match PQ k.after k.aowns st with
    |some st=>K d st
    |none=>a7
def dM:Code->Nat
 |.region id _ _=>id
 |.seq a _=>dM a
 |.block _ c=>dM c
 |.loop c=>dM c
 |.scope c=>dM c
 |.cond _ a _=>dM a
 |_=>0
def bV:Nat:=10000000000000000000000000000000000000000
def Ty.rigid:Ty->Bool
 |.list _=>false
 |.pair a b=>a.rigid&&b.rigid
 |_=>true
structure Sum where
 ps:List Ty
 rs:List (Ty×Bool)
 f:(ps.foldr Ty.pair Ty.unit).den->Option ((rs.map (·.1)).foldr Ty.pair Ty.unit).den
def CU (hp:iw):(ps:List Ty)->List di->Option (ps.foldr Ty.pair Ty.unit).den
 |[],[]=>a6 ()
 |t::d,v::e=>match v.as hp t with
  |some x=>match CU hp d e with
   |some y=>a6 (x,y)
   |none=>a7
  |none=>a7
 |_,_=>a7
def Ty.elem:Ty->Ty
 |.list t=>t
 |t=>t
def qK (id:Nat):(rs:List (Ty×Bool))->((rs.map (·.1)).foldr Ty.pair Ty.unit).den->List di
 |[],_=>[]
 |(t,false)::rs,y=>.val t y.1::qK id rs y.2
 |(_,true)::rs,y=>.slc id 0 a7::qK id rs y.2
def AB:(rs:List (Ty×Bool))->((rs.map (·.1)).foldr Ty.pair Ty.unit).den->Option (Σ e:Ty,List e.den)
 |[],_=>a7
 |(_,false)::rs,y=>AB rs y.2
 |(.list e,true)::_,y=>a6 ⟨e,y.1⟩
 |(_,true)::_,_=>a7
def nY:di->Bool
 |.slc _ _ _=>true
 |.agg _=>true
 |_=>false
def QW:List di->di
 |[v]=>v
 |vs=>.tup vs
def news:List (Ty×Bool)->Nat
 |[]=>0
 |(_,false)::d=>news d
 |(_,true)::d=>news d+1
def bK {d e:Type} (o:Option d) (k:d->Option e):Option e:=
 match o with
 |some x=>k x
 |none=>a7
def Sum.call (s:Sum) (cl:Bool) (args:List di) (dst:Option Nat) (st:St) (K:di->St->Option R):Option R:=
 bif s.rs.all (fun r=>r.1.rigid||(r.2&&r.1.elem.rigid))|| !args.any nY then
  match CU st.hp s.ps args with
  |some x=>bK (s.f x) fun y=>match AB s.rs y with
   |none=>bif Nat.beq (news s.rs) 0 then K (QW (qK 0 s.rs y)) st else a7
   |some ⟨e,d⟩=>bif Nat.beq (news s.rs) 1 then alloc cl (a6 (dst.getD 0+100000)) (.arr e 0 d) st fun id st=>K (QW (qK id s.rs y)) st else a7
  |none=>a7
 else a7
structure gK where
 bt:TypeId
 cs:List (Ty×Bool)
 ps:List Ty
 rs:List Ty
 f:((cs.map (·.1)).foldr Ty.pair Ty.unit).den->(ps.foldr Ty.pair Ty.unit).den->Option (((cs.map (·.1)).foldr Ty.pair Ty.unit).den×(rs.foldr Ty.pair Ty.unit).den)
def Nr:(d:List Ty)->(d.foldr Ty.pair Ty.unit).den->List di
 |[],_=>[]
 |t::d,x=>.val t x.1::Nr d x.2
def qp:List (Ty×Bool)->List di->List (Nat×Nat)
 |(_,true)::cs,.slc id ver _::d=>(id,ver)::qp cs d
 |_::cs,_::d=>qp cs d
 |_,_=>[]
def wM:List (Ty×Bool)->List di->List Nat
 |(_,false)::cs,v::d=>refs v++wM cs d
 |_::cs,_::d=>wM cs d
 |_,_=>[]
def kF (hp:iw) (d:Bool):(cs:List (Ty×Bool))->List di->Option ((cs.map (·.1)).foldr Ty.pair Ty.unit).den
 |[],[]=>a6 ()
 |(t,false)::cs,v::f=>bif d&&(nY v&& !t.rigid)then a7 else match v.as hp t with
  |some x=>match kF hp d cs f with
   |some y=>a6 (x,y)
   |none=>a7
  |none=>a7
 |(.list e,true)::cs,.slc id ver a7::f=>match eG hp id with
  |some (.arr t v g)=>bif v==ver then(match kY (.list e) (t':=.list t) g with
   |some x=>match kF hp d cs f with
    |some y=>a6 (x,y)
    |none=>a7
   |none=>a7)else a7
  |_=>a7
 |_,_=>a7
def JR:(cs:List (Ty×Bool))->List (Nat×Nat)->((cs.map (·.1)).foldr Ty.pair Ty.unit).den->List di
 |[],_,_=>[]
 |(t,false)::cs,l,y=>.val t y.1::JR cs l y.2
 |(_,true)::cs,(i,v)::l,y=>.slc i v a7::JR cs l y.2
 |(_,true)::cs,[],y=>.undef::JR cs [] y.2
def wH:(cs:List (Ty×Bool))->List (Nat×Nat)->((cs.map (·.1)).foldr Ty.pair Ty.unit).den->iw
 |[],_,_=>[]
 |(_,false)::cs,l,y=>wH cs l y.2
 |(.list e,true)::cs,(i,v)::l,y=>(i,.arr e v y.1)::wH cs l y.2
 |(_,true)::cs,l,y=>wH cs l y.2
def RZ:iw->iw->iw
 |[],h=>h
 |(i,o)::l,h=>RZ l (jB h i o)
def jy:List (Ty×Bool)->Nat->List (Nat×Nat)
 |[],_=>[]
 |(_,true)::cs,n=>(n,0)::jy cs (n+1)
 |(_,false)::cs,n=>jy cs n
def XF:List Nat->Bool
 |[]=>true
 |i::l=> !acO l i&&XF l
def gK.rigid (s:gK):Bool:=s.cs.all (fun c=>c.1.rigid||(c.2&&c.1.elem.rigid))&&s.rs.all Ty.rigid
def vK (cl:Bool):Nat->List (Ty×Bool)->List di->St->(List di->St->Option R)->Option R
 |n,(.list e,true)::cs,.nils::d,st,K=>bif TS 0 e.size then alloc cl (a6 n) (.arr e 0 []) st fun id st=>vK cl (n+1) cs d st fun l st=>K (.slc id 0 a7::l) st else a7
 |n,_::cs,v::d,st,K=>vK cl (n+1) cs d st fun l st=>K (v::l) st
 |_,_,l,st,K=>K l st
def gK.go (s:gK) (id:Nat) (d:List di) (st:St) (K:di->St->Option R):Option R:=
 match eG st.hp id with
 |some (.box t cells)=>
  bif Nat.beq t s.bt&&((XF ((qp s.cs cells).map (·.1))&&G7 (id::(qp s.cs cells).map (·.1)) (mr d++wM s.cs cells))&&(s.rigid|| !d.any nY))then
   match kF st.hp (!s.rigid) s.cs cells with
   |some x=>match CU st.hp s.ps d with
    |some y=>bK (s.f x y) fun z=>K (QW (Nr s.rs z.2))
      {st with hp:=jB (RZ (wH s.cs ((qp s.cs cells).map fun p=>(p.1,p.2+1)) z.1) st.hp) id (.box t (JR s.cs ((qp s.cs cells).map fun p=>(p.1,p.2+1)) z.1))}
    |none=>a7
   |none=>a7
  else a7
 |_=>a7
def gK.call (s:gK) (cl:Bool) (args:List di) (st:St) (K:di->St->Option R):Option R:=
 match args with
 |.ptr id 0::d=>match eG st.hp id with
  |some (.box t cells)=>bif cells.any (fun v=>match v with|.nils=>true|_=>false)then
    vK cl (200000+20*(id %5000)) s.cs cells st fun cells st=>s.go id d {st with hp:=jB st.hp id (.box t cells)} K
   else s.go id d st K
  |_=>a7
 |_=>a7
inductive Job where
 |call (f:FuncId) (args:List di)
 |yield (id:Nat) (args:List di)
structure dG where
 V:Type
 A:V->Type
 B:V->Type
 get:St->Option V
 spec:(v:V)->Option (A v⊕B v)
 exA:V->Ex
 stA:St->(v:V)->A v->St
 stB:St->(v:V)->B v->St
 dep:Nat:=0
 exB:V->Ex:=fun _=>.ret
def dO {e h d:Type} (o:e⊕h) (f:e->d) (g:h->d):d:=
 match o with
 |.inl a=>f a
 |.inr b=>g b
structure Env where
 P:Program
 T:TT
 cl:Bool
 kp:FuncId->Nat->Option eY
 sg:FuncId->Option Sum
 lp:FuncId->Nat->Option dG
 rf:FuncId->Nat->Bool:=fun _ _=>false
 bf:FuncId->Bool:=fun _=>false
 dp:Nat:=0
 sb:FuncId->Option gK:=fun _=>a7
def Env.at (E:Env) (n:Nat):Env:={E with dp:=n}
def VP (T:TT) (args:List di) (st:St) (K:di->St->Option R):Option R:=
 match args with
 |[.ptr id 0]=>match eG st.hp id with
  |some (.box t (.slf i:: .slc _ _ _::[]))=>bif Nat.beq i id&&((T.at t).known&&(T.at t).bld)then K (.tup []) st else a7
  |_=>a7
 |_=>a7
abbrev oH (R:Type):=Job->St->(di->St->Option R)->Option R
structure abu where
 q:Job->St->Option di
 s:oH St
 u:oH Unit
def yU (E:Env) (f:oH R):gY R:=fun i d j st K=>
 match i with
 |.fn g e=>match E.sg g with
  |some s=>s.call E.cl (d++e) j st K
  |none=>match E.sb g with
   |some s=>s.call E.cl (d++e) st K
   |none=>bif E.bf g then VP E.T (d++e) st K else f (.call g (d++e)) st K
 |.mfn g h=>match E.sb g with
  |some s=>s.call E.cl (h++d) st K
  |none=>f (.call g (h++d)) st K
 |.yld id=>f (.yield id d) st K
 |_=>a7
def di.rigid:di->Bool
 |.val t _=>t.rigid
 |_=>false
def di.calm:di->Bool
 |.val _ _=>true
 |_=>false
def di.rigidR:di->Bool
 |.tup l=>l.all di.rigid
 |v=>v.rigid
def ZG (hp:iw):di->Option di
 |.val t x=>a6 (.val t x)
 |.nils=>a6 .nils
 |.slc id ver d=>match eG hp id with
  |some (.arr t v e)=>bif v==ver then a6 (.val (.list t) (af0 e d))else a7
  |_=>a7
 |_=>a7
def VF (hp:iw):List di->Option (List di)
 |[]=>a6 []
 |v::l=>match ZG hp v with
  |some v=>match VF hp l with
   |some l=>a6 (v::l)
   |none=>a7
  |none=>a7
def VX (E:Env) (e:Job->St->Option di):gY R:=fun f d h st K=>
 match f with
 |.fn g []=>match E.sg g with
  |some s=>bif s.rs.all (fun r=> !r.2&&r.1.rigid)then s.call E.cl d h st K else a7
  |none=>match VF st.hp d with
   |some d=>match e (.call g d) ⟨[],[],[],st.nxt⟩with
    |some v=>bif v.rigidR then K v st else a7
    |none=>a7
   |none=>a7
 |_=>a7
def kD:Op->Bool
 |.move _|.assign _|.pick _ _ _|.load _ _|.nilCheck _|.binOp _ _ _ _ _|.unOp _ _ _|.slice _ _ _ _ _|.fieldAddr _ _ _|.field _ _ _|.indexAddr _ _ _|.index _ _ _|.extract _ _|.build _ _|.convert _ _ _=>true
 |.call c=>match c.callee with
  |.builtin .len=>true
  |.builtin .min=>true
  |.builtin .max=>true
  |.value _=>true
  |_=>false
 |_=>false
def iO:Op->Bool
 |.call c=>match c.callee with
  |.builtin .len=>true
  |.builtin .min=>true
  |.builtin .max=>true
  |_=>false
 |o=>kD o
def MC:Op->Bool
 |.move _|.assign _|.pick _ _ _|.nilCheck _|.binOp _ _ _ _ _|.unOp _ _ _|.slice _ _ _ _ _|.fieldAddr _ _ _|.field _ _ _|.indexAddr _ _ _|.index _ _ _|.extract _ _=>true
 |.call c=>match c.callee with
  |.builtin .len=>true
  |.builtin .min=>true
  |.builtin .max=>true
  |_=>false
 |_=>false
def Ug:Op->Bool
 |.move _|.assign _|.pick _ _ _|.load _ _|.index _ _ _|.extract _ _|.alloc _|.box _ _=>true
 |.call c=>match c.callee with
  |.builtin .len=>true
  |.builtin .unsafeSliceData=>true
  |_=>false
 |_=>false
def nX (ops:Array Oper):Bool:=ops.toList.all fun o=>match o.op with|.defer _=>false|.select _ _=>false|_=>true
def aaz (l:List Nat) (i:Nat):Bool:=l.any (Nat.beq i)
def Iz (ops:Array Oper) (j:Nat) (D:List Nat):Bool:=match ops[j]? with
 |some d=>d.after.any fun e=>Region.binds .any e&&aaz D e.on
 |none=>false
def aMY (ops:Array Oper) (d:Array Bool) (n:Nat) (D:List Nat):List Nat:=(List.range n).foldl (fun D j=>cond (!d.getD j true&&(!aaz D j&&Iz ops j D)) (j::D) D) D
def YH (ops:Array Oper) (d:Array Bool) (i:Nat) (pure:Bool):Bool:=match ops[i]? with
 |some f=>let D:=aMY ops d ops.size [i]
  aaz D i&&(D.all (fun j=> !d.getD j true&&(Nat.beq j i||Iz ops j D))&&(List.range ops.size).all fun j=>d.getD j true||(aaz D j||(match ops[j]? with
   |some e=>f.apart ops e&&(pure||Ug e.op)
   |none=>true)))
 |none=>false
def akO (ops:Array Oper) (f:Op->Bool) (i:Nat):Bool:=match ops[i]? with
 |some o=>f o.op
 |none=>false
def yY {d:Type} (f:d->d->Bool):List d->List d->Bool
 |[],[]=>true
 |x::l,y::m=>f x y&&yY f l m
 |_,_=>false
def eqD:(t:Ty)->t.den->t.den->Bool
 |.unit,_,_=>true
 |.bool,x,y=>x==y
 |.int _,x,y=>bZ x y
 |.str,x,y=>gm x y
 |.list t,x,y=>yY (eqD t) x y
 |.pair a b,x,y=>eqD a x.1 y.1&&eqD b x.2 y.2
def ajL:Option (Int×Int)->Option (Int×Int)->Bool
 |none,a7=>true
 |some a,a6 b=>bZ a.1 b.1&&bZ a.2 b.2
 |_,_=>false
mutual
def YY (a b:di):Bool:=
 match a with
 |.undef=>match b with|.undef=>true|_=>false
 |.val t x=>match b with
  |.val u y=>(match kY t y with|some y=>eqD t x y|none=>false)
  |_=>false
 |.nils=>match b with|.nils=>true|_=>false
 |.nilp=>match b with|.nilp=>true|_=>false
 |.nilfn=>match b with|.nilfn=>true|_=>false
 |.emp=>match b with|.emp=>true|_=>false
 |.tup l=>match b with|.tup m=>Lh l m|_=>false
 |.agg l=>match b with|.agg m=>Lh l m|_=>false
 |.cellp t x=>match b with
  |.cellp u y=>(match kY t y with|some y=>eqD t x y|none=>false)
  |_=>false
 |.lst t x n=>match b with
  |.lst u y m=>n==m&&(match kY (.list t) (t':=.list u) y with|some y=>eqD (.list t) x y|none=>false)
  |_=>false
 |.ptr i o=>match b with|.ptr j p=>Nat.beq i j&&Nat.beq o p|_=>false
 |.slc i v w=>match b with|.slc j u x=>Nat.beq i j&&(Nat.beq v u&&ajL w x)|_=>false
 |.ep i v n o=>match b with|.ep j u m p=>Nat.beq i j&&(Nat.beq v u&&(eqN n m&&Nat.beq o p))|_=>false
 |.fn f l=>match b with|.fn g m=>Nat.beq f g&&Lh l m|_=>false
 |.mfn f l=>match b with|.mfn g m=>Nat.beq f g&&Lh l m|_=>false
 |.mpv i=>match b with|.mpv j=>Nat.beq i j|_=>false
 |.yld i=>match b with|.yld j=>Nat.beq i j|_=>false
 |.slf i=>match b with|.slf j=>Nat.beq i j|_=>false
 |.sd i v=>match b with|.sd j u=>Nat.beq i j&&Nat.beq v u|_=>false
def Lh:List di->List di->Bool
 |[],m=>match m with|[]=>true|_=>false
 |a::l,m=>match m with|b::m=>YY a b&&Lh l m|_=>false
end
def aIO (a b:Ex):Bool:=match a with
 |.normal=>match b with|.normal=>true|_=>false
 |.exit i=>match b with|.exit j=>Nat.beq i j|_=>false
 |.goto i=>match b with|.goto j=>Nat.beq i j|_=>false
 |.ret=>match b with|.ret=>true|_=>false
def awu:Option Ex->Option Ex->Bool
 |none,a7=>true
 |some a,a6 b=>aIO a b
 |_,_=>false
def eqO (a b:eu):Bool:=
 match a with
 |.box t l=>match b with|.box u m=>Nat.beq t u&&Lh l m|_=>false
 |.arr t v x=>match b with
  |.arr u w y=>Nat.beq v w&&(match kY (.list t) (t':=.list u) y with|some y=>eqD (.list t) x y|none=>false)
  |_=>false
 |.lp f fr ps _ _ k n p=>match b with
  |.lp g fs qs _ _ h m q=>Nat.beq f g&&(Lh fr fs&&(yY Nat.beq ps qs&&((match k,h with|some k,a6 h=>Nat.beq k h|_,_=>false)&&(Nat.beq n m&&awu p q))))
  |_=>false
 |.dead=>match b with|.dead=>true|_=>false
 |.mp k v l=>match b with
  |.mp k' v' m=>decide (k=k')&&(decide (v=v')&&decide (l=m))
  |_=>false
def eqH:iw->iw->Bool
 |[],h=>match h with|[]=>true|_=>false
 |(i,a)::h,g=>match g with
  |(j,b)::g=>Nat.beq i j&&(eqO a b&&eqH h g)
  |[]=>false
def aww (a b:St):Bool:=Lh a.fr b.fr&&(yY Lh a.stk b.stk&&(eqH a.hp b.hp&&Nat.beq a.nxt b.nxt))
def YM (d:iw) (i:Nat) (a:eu):Option eu:=match a with
 |.lp f fr ps _ _ (a6 k) n p=>match eG d i with
  |some (.lp g _ _ jr bd (a6 h) _ _)=>bif Nat.beq f g&&Nat.beq k h then a6 (.lp f fr ps jr bd (a6 k) n p)else a7
  |_=>a7
 |.lp _ _ _ _ _ a7 _ _=>a7
 |a=>a6 a
def YJ (d:iw):iw->Option iw
 |[]=>a6 []
 |(i,a)::h=>match YM d i a with
  |some a=>match YJ d h with
   |some h=>a6 ((i,a)::h)
   |none=>a7
  |none=>a7
def vP:iw->Bool
 |[]=>true
 |(k,_)::h=> !h.any (fun e=>Nat.beq e.1 k)&&vP h
def Xx (d:iw):List (Option St)->Option St
 |some a::l=>bif(a6 a::l).all (fun b=>match b with|some b=>aww a b&&vP b.hp|none=>false)then
   (match YJ d a.hp with|some h=>a6 {a with hp:=h}|none=>a7)else a7
 |_=>a7
def tidy (cl:Bool) (st:St):St:=cond cl st {st with hp:=mF st.hp}
def wz (ops:Array Oper) (i k:Nat):Bool:=match ops[i]? with
 |some d=>d.after.any fun e=>Region.binds .any e&&Nat.beq e.on k
 |none=>false
def IX (ops:Array Oper) (x y:Oper):Bool:=match y.dst with
 |some d=> !(x.looksAt ops).contains d&&x.dst !=a6 d
 |none=>true
def QM (ops:Array Oper) (log:List Nat) (i:Nat):Bool:=match ops[i]? with
 |some d=>IX ops {d with dst:=a7} d&&log.all fun k=>match ops[k]? with
  |some ok=>IX ops ok d&&(wz ops i k||ok.apart ops d)
  |none=>false
 |none=>false
def azl (ops:Array Oper) (log:List Nat) (i:Nat):Bool:=match ops[i]? with
 |some d=>log.all fun k=>match ops[k]? with
  |some ok=>wz ops i k||ok.apart ops d
  |none=>false
 |none=>false
def qH (ops:Array Oper):List Nat->List di->List di
 |[],e=>e
 |i::l,e=>match(ops[i]?).bind (·.dst)with
  |some d=>(qH ops l e).set d .undef
  |none=>qH ops l e
def sameAt (dst:Option Nat) (z:di) (st:St):Bool:=match dst with
 |some d=>YY z (st.fr.getD d .undef)
 |none=>true
def O6 (s:Sum):Bool:=s.rs.all fun r=> !r.2&&r.1.rigid
def JZ (sg:FuncId->Option Sum) (cl:Bool):gY R:=fun e d f st K=>match e with
 |.fn g []=>match sg g with
  |some s=>bif O6 s&&d.all di.calm then s.call cl d f st K else a7
  |none=>a7
 |_=>a7
def yh (sg:FuncId->Option Sum) (o:Op):Bool:=match o with
 |.call c=>match c.callee with
  |.builtin _=>true
  |.value (.func g)=>match sg g with
   |some s=>O6 s
   |none=>false
  |_=>false
 |_=>true
def Vt:List (Option Unit)->Option R->Option R
 |[],k=>k
 |o::l,k=>bK o fun _=>Vt l k
def settle (d:iw) (a:St):Option St:=match YJ d a.hp with
 |some h=>a6 {a with hp:=h}
 |none=>a7
def jW (o:Oper) (fr:List di):List di:=match o.op with
 |.call c=>match c.callee with
  |.value v=>iF fr v::c.args.toList.map (iF fr)
  |_=>[]
 |_=>[]
def acx (sg:FuncId->Option Sum) (ops:Array Oper) (fr:List di) (i:Nat):Bool:=match ops[i]? with
 |some o=>match jW o fr with
  |.fn g []::e=>match sg g with
   |some s=>(O6 s&&e.all di.calm)&&(match o.dst with|some d=>TS d fr.length|none=>true)
   |none=>false
  |_=>false
 |none=>false
def CG (dst:Option Nat) (fr:List di):List di:=match dst with
 |some d=>[fr.getD d .undef]
 |none=>[]
def A8 (T:TT) (cl:Bool) (call:gY R) (ops:Array Oper) (e:List di):List Nat->St->(St->Option R)->Option R
 |[],st,K=>K st
 |i::l,st,K=>match ops[i]? with
  |some d=>bif iO d.op then(fE T cl call d st fun z _=>bif sameAt d.dst z st then A8 T cl call ops e l st K else a7)
   else bif Lh (jW d e) (jW d st.fr)&&Lh (CG d.dst e) (CG d.dst st.fr)then A8 T cl call ops e l st K else a7
  |none=>a7
def wU (T:TT) (cl:Bool) (call:gY R) (ops:Array Oper) (j:Nat) (log:List Nat) (st:St) (K:St->Option R):Option R:=
 match ops[j]? with
 |some d=>bif d.guard.isNone&&azl ops log j then
   fE T cl call d {st with fr:=qH ops (log.filter fun i=> !wz ops j i) st.fr,stk:=st.fr::st.stk} fun z g=>match g.stk with
    |e::f=>A8 T cl call ops st.fr (log.filter fun i=> !wz ops j i).reverse ({g with fr:=e,stk:=f}.put d.dst z) K
    |[]=>a7
  else a7
 |none=>a7
def nR (T:TT) (cl:Bool) (sg:FuncId->Option Sum) (d:gY St) (e:gY Unit) (ops:Array Oper):Nat->{R:Type}->gY R->Array Bool->List Nat->St->(St->Option R)->Option R
  |0,_,_,_,_,_,_=>a7
  |n+1,_,call,f,log,st,K=>match Region.ready .any ops f with
    |[]=>K st
    |k::rs=>match(k::rs).find? fun i=>akO ops iO i&&QM ops log i with
      |some i=>match ops[i]? with
        |some g=>bif g.guard.isNone&&QM ops log i then
            fE T cl call g st fun z st=>nR T cl sg d e ops n call (f.setIfInBounds i true) (i::log) (st.put g.dst z) K else a7
        |none=>a7
      |none=>match(k::rs).find? fun i=>acx sg ops st.fr i with
       |some i=>match ops[i]? with
        |some g=>bif g.guard.isNone&&QM ops log i then
            fE T cl (JZ sg cl) g st fun z st=>nR T cl sg d e ops n call (f.setIfInBounds i true) (i::log) (st.put g.dst z) K else a7
        |none=>a7
       |none=>match rs with
        |[]=>wU T cl call ops k log st fun st=>nR T cl sg d e ops n call (f.setIfInBounds k true) log st K
        |_=>bif cl|| !ops.toList.all (fun o=>yh sg o.op)then(match Xx st.hp ((k::rs).map fun j=>wU T cl d ops j log st fun st=>nR T cl sg d e ops n d (f.setIfInBounds j true) log st fun st=>a6 (tidy cl st))with
          |some st=>K st
          |none=>a7)else
          wU T cl call ops k log st fun h=>nR T cl sg d e ops n call (f.setIfInBounds k true) log h fun st1=>
            bif vP (tidy cl st1).hp then(match settle st.hp (tidy cl st1)with
              |some m=>Vt (rs.map fun j=>wU T cl e ops j log st fun h=>nR T cl sg d e ops n e (f.setIfInBounds j true) log h fun b=>
                  bif aww (tidy cl st1) (tidy cl b)&&vP (tidy cl b).hp then a6 ()else a7) (K m)
              |none=>a7)else a7
def xf (ops:Array Oper):Nat->Array Bool->Option (List Nat)
 |0,d=>bif(Region.ready .any ops d).isEmpty then a6 []else a7
 |n+1,d=>match Region.ready .any ops d with
  |[]=>a6 []
  |k::e=>match(k::e).find? fun i=>akO ops MC i&&YH ops d i true with
   |some i=>match xf ops n (d.setIfInBounds i true)with
    |some l=>a6 (i::l)
    |none=>a7
   |none=>match(k::e).find? fun i=>akO ops iO i&&YH ops d i false with
    |some i=>match xf ops n (d.setIfInBounds i true)with
     |some l=>a6 (i::l)
     |none=>a7
    |none=>match e with
     |[]=>match xf ops n (d.setIfInBounds k true)with
      |some l=>a6 (k::l)
      |none=>a7
     |_=>a7
def alX (ops:Array Oper):Option (List Oper):=bif nX ops then(match xf ops ops.size (Array.replicate ops.size false)with
 |some l=>a6 (l.filterMap fun i=>ops[i]?)
 |none=>a7)else a7
def aLd (sb:FuncId->Option gK) (o:Op):Bool:=match o with
 |.call c=>match c.callee with
  |.value (.func g)=>(sb g).isNone
  |.value _=>false
  |_=>true
 |_=>true
def O4 (ops:Array Oper):Bool:=ops.toList.all (fun o=>kD o.op)&&Region.lexB .any ops
def aM2 (d:St->(Ex->St->Option R)->Option R) (K:Ex->St->Option R):Ex->St->Option R:=fun e st=>match e with
 |.normal=>d st K
 |e=>K e st
def xu (id:Nat) (K:Ex->St->Option R):Ex->St->Option R:=fun e st=>match e with
 |.exit i=>bif i==id then K .normal st else K (.exit i) st
 |e=>K e st
def tH (F:St->(Ex->St->Option R)->Option R):St->(Ex->St->Option R)->Option R:=fun st K=>F st fun e st=>match e with
 |.normal=>K (.exit 999999) st
 |.exit i=>bif Nat.beq i 999999 then a7 else K (.exit i) st
 |e=>K e st
def cutAt (E:Env) (f:FuncId) (k:Nat) (F:St->(Ex->St->Option R)->Option R) (st:St) (K:Ex->St->Option R):Option R:=
 match E.lp f k with
 |some L=>bif L.dep.ble E.dp then(match L.get st with
  |some v=>bK (L.spec v) fun o=>dO o (fun a=>xu 999999 K (L.exA v) (L.stA st v a)) fun b=>xu 999999 K (L.exB v) (L.stB st v b)
  |none=>a7)else a7
 |none=>match E.kp f k with
  |none=>F st K
  |some d=>match PQ d.slots d.owns st with
   |some st=>iter (a6 d) (tH F) bV st (xu 999999 K)
   |none=>a7
def ayd (K:Ex->St->Option R):Ex->St->Option R:=fun e st=>match e with
 |.goto _=>a7
 |e=>K e st
def Jr (k:Option eY) (st:St):St:=match k with
 |some k=>{st with fr:=Kt k.slots 0 st.fr}
 |none=>st
def run (E:Env) (d:oH R) (h:abu) (f:FuncId):Code->St->(Ex->St->Option R)->Option R
 |.skip,st,K=>K .normal st
 |.label _,st,K=>K .normal st
 |.region id ops m,st,K=>
  let st:=Jr (E.kp f (600000+id)) st
  bif m then(bif O4 ops&&ops.toList.all (fun o=>iO o.op)then iK E.T E.cl (VX E h.q) ops (K .normal) ops.toList st else match alX ops with
   |some l=>iK E.T E.cl (yU E d) ops (K .normal) l st
   |none=>bif O4 ops&&ops.toList.all (fun o=>aLd E.sb o.op)then iK E.T E.cl (VX E h.q) ops (K .normal) ops.toList st else bif nX ops then nR E.T E.cl E.sg (yU E h.s) (yU E h.u) ops (ops.size+1) (yU E d) (Array.replicate ops.size false) [] st (K .normal)else a7)
  else iK E.T E.cl (yU E d) ops (K .normal) ops.toList st
 |.seq a b,st,K=>run E d h f a st (aM2 (cutAt E f (800000+dM b) (run E d h f b)) K)
 |.cond c x y,st,K=>match iF st.fr c with
  |.val .bool b=>bif b then run E d h f x st K else run E d h f y st K
  |_=>a7
 |.block id c,st,K=>run E d h f c st (xu id K)
 |.loop c,st,K=>match E.lp f (dM c)with
  |some L=>bif L.dep.ble E.dp then(match L.get st with
   |some v=>bK (L.spec v) fun o=>dO o (fun a=>K (L.exA v) (L.stA st v a)) fun b=>K (L.exB v) (L.stB st v b)
   |none=>a7)else a7
  |none=>match E.kp f (dM c)with
   |none=>iter a7 (run E d h f c) bV st K
   |some k=>match PQ k.slots k.owns st with
    |some st=>iter (a6 k) (run E d h f c) bV st K
    |none=>a7
 |.exit id,st,K=>K (.exit id) st
 |.goto l,st,K=>K (.goto l) st
 |.ret,st,K=>K .ret st
 |.scope c,st,K=>run E d h f c st (ayd K)
 |.rangeFunc fv ps jr j,st,K=>match iF st.fr fv with
  |.fn g p=>
   let st:=Jr (E.kp f (500000+dM j)) st
   alloc E.cl (a6 (700000+ps.toList.headD 0)) (.lp f st.fr ps.toList jr j (bif E.rf f (dM j)then a6 (dM j)else a7) 0 a7) st fun id st=>
    d (.call g (.yld id::p)) {st with stk:=[.yld id]::st.stk} fun _ st=>match st.stk with
     |[.yld id]::i=>match eG st.hp id with
      |some (.lp _ _ _ _ _ _ 0 a7)=>K .normal {st with stk:=i,hp:=jB st.hp id .dead}
      |some (.lp _ _ _ _ _ _ 1 (a6 e))=>K e {st with stk:=i,hp:=jB st.hp id .dead}
      |_=>a7
     |_=>a7
  |_=>a7
 |.refuse _,_,_=>a7
def ve (T:TT) (st:St):List ResultVar->(List di->Option R)->Option R
 |[],K=>K []
 |.tmp t::l,K=>ve T st l fun d=>K (st.fr.getD t .undef::d)
 |.cell a t::l,K=>Qc T st.hp t (st.fr.getD a .undef) fun v=>ve T st l fun d=>K (v::d)
def yH (fr:List di):List Nat->List di->List di
 |p::d,v::e=>yH (fr.set p v) d e
 |_,_=>fr
def pop (st:St) (K:St->Option R):Option R:=
 match st.stk with
 |d::e=>K {st with fr:=d,stk:=e}
 |[]=>a7
def Env.keyed (E:Env):Option Nat->Env
 |some _=>E
 |none=>{E with lp:=fun _ _=>a7,rf:=fun _ _=>false}
def mJ (E:Env):Nat->{R:Type}->oH R
 |0,_,_,_,_=>a7
 |n+1,R,.call f h,st,K=>match E.P.funcs[f]? with
  |none=>a7
  |some fn=>match fn.body with
   |none=>a7
   |some c=>bif h.length.ble fn.ntmps then
     (run (E.at n) (mJ E n) ⟨fun j st=>mJ E n (R:=di) j st fun v _=>a6 v,mJ E n,mJ E n⟩ f c {fr:=h++List.replicate (fn.ntmps-h.length) (.tup []),stk:=st.fr::st.stk,hp:=st.hp,nxt:=st.nxt} fun e d=>
      match e with
      |.normal|.ret=>ve E.T d fn.results.toList fun l=>
       let v:=match l with
        |[v]=>v
        |l=>.tup l
       match gc (bif E.cl then st.nxt else 1000000*d.stk.length) v {d with fr:=[]}with
       |some g=>pop g (K v)
       |none=>a7
      |_=>a7)else a7
 |n+1,R,.yield id h,st,K=>match eG st.hp id with
  |some (.lp f fr0 ps jr bd m 0 a7)=>bif h.length==ps.length then
    (run ((E.at n).keyed m) (mJ E n) ⟨fun j st=>mJ E n (R:=di) j st fun v _=>a6 v,mJ E n,mJ E n⟩ f jr {fr:=yH fr0 ps h,stk:=[.yld id]::st.fr::st.stk,hp:=st.hp,nxt:=st.nxt} fun e d=>match e,d.stk with
     |.normal,[.yld id]::_=>match eG d.hp id with
      |some (.lp f1 fr1 ps1 asg1 bd1 p 0 a7)=>run ((E.at n).keyed m) (mJ E n) ⟨fun j st=>mJ E n (R:=di) j st fun v _=>a6 v,mJ E n,mJ E n⟩ f bd {d with hp:=jB d.hp id (.lp f1 fr1 ps1 asg1 bd1 p 2 a7)} fun e g=>match g.stk with
       |[.yld id]::i=>match eG g.hp id with
        |some (.lp f2 fr2 ps2 asg2 bd2 o 2 a7)=>
         match gc (bif E.cl then st.nxt else 1000000*g.stk.length) .undef {g with fr:=[],stk:=i,hp:=jB g.hp id (match e with|.normal=>.lp f2 fr2 ps2 asg2 bd2 o 0 a7|e=>.lp f2 fr2 ps2 asg2 bd2 o 1 (a6 e))}with
         |some q=>pop q (K (.val .bool (match e with|.normal=>true|_=>false)))
         |none=>a7
        |_=>a7
       |_=>a7
      |_=>a7
     |_,_=>a7)else a7
  |_=>a7
end
end
section
open Option renaming some → a6, none → a7
open List renaming append_assoc → ah, length_append → ai, drop_of_length_le → aB, nil_append → aH, length_cons → aS, eq_nil_of_length_eq_zero → bD
open Nat renaming le_refl → ae, lt_or_ge → aO
open Tryz
open Go.RowKit
def qI:TypeId:=5
def ZJ:TypeId:=119
def MH:Code->Nat->Option (Code×Code)
 |.rangeFunc _ _ jr d,k=>if dM d=k then a6 (jr,d)else match MH jr k with
  |some x=>a6 x
  |none=>MH d k
 |.seq a b,k=>match MH a k with
  |some x=>a6 x
  |none=>MH b k
 |.cond _ a b,k=>match MH a k with
  |some x=>a6 x
  |none=>MH b k
 |.block _ c,k=>MH c k
 |.loop c,k=>MH c k
 |.scope c,k=>MH c k
 |_,_=>a7
def aLn (P:Program) (f:FuncId) (k:Nat):Option (Code×Code):=
 match P.funcs[f]? with
 |some fn=>match fn.body with
  |some c=>MH c k
  |none=>a7
 |none=>a7
noncomputable def uq (f:FuncId) (k:Nat):Option (Code×Code):=aLn prog f k
def iH (w:World) (b o:Nat) (d:List Value):Prop:= ∀j (h:j<d.length),w.cell? ⟨b,o+j,a7⟩=a6 d[j]
theorem iH.of_block {w w':World} {b o:Nat} {d:List Value} (h:iH w b o d) (hb:w'.heap[b]? =w.heap[b]?):iH w' b o d:=
 fun j e=>(World.cell?_of_block (w:=w) (a:=⟨b,o+j,a7⟩) hb).trans (h j e)
theorem iH.append {w:World} {b o:Nat} {xs e:List Value}:iH w b o (xs++e)↔iH w b o xs/\iH w b (o+xs.length) e:=by
 constructor
 .intro h;refine⟨fun j d=> ?_,fun j d=> ?_⟩
  .have:=h j (by simp;omega);simp_all
  .have:=h (xs.length+j) (by simp;omega)
   grind
 .rintro ⟨f,g⟩ j d;rcases aO j xs.length with h|h
  .rw[List.getElem_append_left h];exact f j h
  .rw[List.getElem_append_right h];have:=g (j-xs.length) (by simp at d;omega)
   grind
def gW {e:Type} (R:e->List Value->Prop) (size:Nat):List e->List Value->Prop
 |[],d=>d=[]
 |x::g,d=> ∃c f,d=c++f/\c.length=size/\R x c/\gW R size g f
theorem gW.mono {d:Type} {R e:d->List Value->Prop} {size:Nat} (h: ∀x c,R x c->e x c): ∀(xs:List d) (f:List Value),gW R size xs f->gW e size xs f
 |[],_,i=>i
 |_::xs,_,⟨c,g,j,l,m,o⟩=>⟨c,g,j,l,h _ _ m,gW.mono h xs g o⟩
theorem gW.length {d:Type} {R:d->List Value->Prop} {size:Nat}: ∀(xs:List d) (e:List Value),gW R size xs e->e.length=xs.length*size
 |[],_,f=>by cases f;simp
 |_::xs,_,⟨c,g,h,i,l,j⟩=>by
  subst h;simp only[ai,aS,i,gW.length xs g j,Nat.add_mul,Nat.one_mul];omega
theorem gW.append {e:Type} {R:e->List Value->Prop} {size:Nat}: ∀(xs:List e) (f:List Value) (d:List e) (us:List Value),gW R size xs f->gW R size d us->gW R size (xs++d) (f++us)
 |[],_,d,us,i,h=>by cases i;exact h
 |x::xs,_,d,us,⟨c,g,j,l,m,o⟩,h=>by
  subst j;exact⟨c,g++us,by simp,l,m,gW.append xs g d us o h⟩
theorem gW.take {d:Type} {R:d->List Value->Prop} {size:Nat}: ∀(k:Nat) (xs:List d) (e:List Value),gW R size xs e->gW R size (xs.take k) (e.take (k*size))
 |0,_,_,_=>by simp[gW]
 |k+1,[],_,g=>by cases g;simp[gW]
 |k+1,x::xs,_,⟨c,f,h,i,j,l⟩=>by
  subst h;refine⟨c,f.take (k*size), ?_,i,j,gW.take k xs f l⟩;simp_all [List.take_append,List.take_of_length_le,Nat.add_mul]
theorem gW.drop {e:Type} {R:e->List Value->Prop} {size:Nat}: ∀(k:Nat) (xs:List e) (f:List Value),gW R size xs f->gW R size (xs.drop k) (f.drop (k*size))
 |0,_,_,h=>by simpa using h
 |k+1,[],_,i=>by cases i;simp[gW]
 |k+1,x::xs,_,⟨c,d,j,g,m,l⟩=>by
  subst j;have:(c++d).drop ((k+1)*size)=d.drop (k*size):=by
   rw[List.drop_append,aB (by rw[g,Nat.add_mul];omega),aH,g,Nat.add_mul];congr 1;omega
  rw[this,List.drop_succ_cons];exact gW.drop k xs d l
theorem gW.at_ {f:Type} {R:f->List Value->Prop} {size:Nat}: ∀(i:Nat) (xs:List f) (g:List Value) (hi:i<xs.length),gW R size xs g->
  ∃c,c.length=size/\R xs[i] c/\ ∃d h,g=d++c++h/\d.length=i*size
 |i,[],_,hi,_=>by simp at hi
 |0,x::xs,_,_,⟨c,e,j,l,m,o⟩=>⟨c,l,m,[],e,by simp[j],by simp⟩
 |i+1,x::xs,_,hi,⟨c,e,j,l,m,o⟩=>by
  obtain⟨p,q,s,d,h,u,v⟩:=gW.at_ i xs e (by simpa using hi) o
  grind
theorem gW.set {h:Type} {R:h->List Value->Prop} {size:Nat} (y:h) (d:List Value) (hd:d.length=size) (o:R y d): ∀(i:Nat) (xs:List h) (e c f:List Value),
  i<xs.length->gW R size xs (e++c++f)->e.length=i*size->c.length=size->gW R size (xs.set i y) (e++d++f)
 |i,[],_,_,_,j,_,_,_=>by simp at j
 |0,x::xs,e,c,f,_,⟨p,z,g,l,q,s⟩,u,m=>by
  have:e=[]:=bD (by simpa using u);subst this;simp only[aH]at g ⊢;obtain⟨A,v⟩:=List.append_inj g (by rw[m,l]);subst v;exact⟨d,f,rfl,hd,o,s⟩
 |i+1,x::xs,e,c,f,j,⟨p,z,g,l,q,s⟩,u,m=>by
  have D:size<=e.length:=by grind
  have B:e=e.take size++e.drop size:=(List.take_append_drop size e).symm;rw[B,ah,ah]at g;obtain⟨A,v⟩:=List.append_inj g (by grind);have:=gW.set y d hd o i xs (e.drop size) c f (by simpa using j) (by grind) (by grind) m;refine⟨p,e.drop size++d++f, ?_,l,q,this⟩
  grind
def fZ (w:World) (fr:Nat->Prop):(t:Ty)->t.den->List Value->Prop
 |.unit,_,cs=>cs=[]
 |.bool,x,cs=>cs=[.bool x]
 |.int k,x,cs=>cs=[.int k x]
 |.str,x,cs=>cs=[.string ⟨x.toArray⟩]
 |.list t,d,cs=> ∃a c e,cs=[.slice a d.length c]/\d.length<=c/\gW (fZ w fr t) t.size d e/\(e=[]\/ ∃b f,a=a6 ⟨b,f,a7⟩/\fr b/\iH w b f e)
 |.pair a b,x,cs=> ∃g h,cs=g++h/\fZ w fr a x.1 g/\fZ w fr b x.2 h
theorem fZ.mono {w w':World} {fr i:Nat->Prop} (h: ∀b,fr b->i b/\w'.heap[b]? =w.heap[b]?): ∀(t:Ty) (x:t.den) (cs:List Value),fZ w fr t x cs->fZ w' i t x cs
 |.unit,_,_,d=>d
 |.bool,_,_,d=>d
 |.int _,_,_,d=>d
 |.str,_,_,d=>d
 |.list t,p,_,⟨a,c,j,e,f,g,q⟩=>⟨a,c,j,e,f,gW.mono (fZ.mono h t) p j g,q.imp id fun⟨b,s,u,l,v⟩=>⟨b,s,u,(h b l).1,v.of_block (h b l).2⟩⟩
 |.pair a b,x,_,⟨m,o,e,f,g⟩=>⟨m,o,e,fZ.mono h a x.1 m f,fZ.mono h b x.2 o g⟩
theorem fZ.length {w:World} {fr:Nat->Prop}: ∀(t:Ty) (x:t.den) (cs:List Value),fZ w fr t x cs->cs.length=t.size
 |.unit,_,_,d=>by cases d;rfl
 |.bool,_,_,d=>by cases d;rfl
 |.int _,_,_,d=>by cases d;rfl
 |.str,_,_,d=>by cases d;rfl
 |.list t,j,_,⟨a,c,l,e,_⟩=>by subst e;rfl
 |.pair a b,x,_,⟨f,g,e,h,i⟩=>by subst e;simp[Ty.size,fZ.length a x.1 f h,fZ.length b x.2 g i]
theorem fZ.one {w:World} {fr:Nat->Prop}: ∀(t:Ty) (x:t.den) (cs:List Value),fZ w fr t x cs-> ∀v∈cs,v.oneCell'=true
 |.unit,_,_,d=>by cases d;simp
 |.bool,_,_,d=>by cases d;simp[Value.oneCell']
 |.int _,_,_,d=>by cases d;simp[Value.oneCell']
 |.str,_,_,d=>by cases d;simp[Value.oneCell']
 |.list t,l,_,⟨a,c,m,f,_⟩=>by subst f;simp[Value.oneCell']
 |.pair a b,x,_,⟨g,h,f,i,j⟩=>by
  subst f;intro v e;rcases List.mem_append.1 e with e|e
  .exact fZ.one a x.1 g i v e
  .exact fZ.one b x.2 h j v e
structure Loc where
 blk:Nat
 v:Value
structure Cx where
 mu:Nat->Loc
 hp:iw
 nxt:Nat
 w:World
 mks:List Nat
 bar:Nat->Prop
def eu.blk:eu->Loc->Option Nat
 |.box _ _,l=>a6 l.blk
 |.arr _ _ _,l=>l.v.ownBlock
 |.lp _ _ _ _ _ _ _ _,l=>a6 l.blk
 |.dead,_=>a7
 |.mp _ _ _,l=>a6 l.blk
def Cx.own (c:Cx) (b:Nat):Prop:= ∃id o,eG c.hp id=a6 o/\o.blk (c.mu id)=a6 b
def Cx.free (c:Cx) (b:Nat):Prop:=b<c.w.heap.size/\ ¬c.own b/\b∉c.mks/\ ¬c.bar b
def Cx.out (c:Cx) (b:Nat):Prop:=b<c.w.heap.size/\ ¬c.own b/\b∉c.mks
def Cx.known (c:Cx) (id:Nat):Prop:=(∃o,eG c.hp id=a6 o)\/id<c.nxt
def VD (c:Cx) (t:Ty) (x:t.den) (v:Value):Prop:=
 (t.isAgg=true-> ∃cs,v=.agg cs/\fZ c.w c.free t x cs.toList)/\(t.isAgg=false->fZ c.w c.free t x [v])
def jv (size:Nat) (s:Value):Option (Int×Int)->Value->Prop
 |none,v=>v=s
 |some (lo,d),v=> ∃a n c,s=.slice a n c/\0<=lo/\lo<=d/\d<=n/\v=.slice (if c=lo.toNat then a else a.map (·.add (lo.toNat*size))) (d.toNat-lo.toNat) (c-lo.toNat)
mutual
def dn (c:Cx):di->Value->Prop
 |.undef,_=>True
 |.val t x,v=>VD c t x v
 |.nils,v=>v=.slice a7 0 0
 |.emp,v=> ∃a,v=.slice a 0 0
 |.lst e j b,v=>VD c (.list e) j v/\ ∃a n m,v=.slice a n m/\b=a.isNone
 |.nilp,v=>v=.pointer a7
 |.nilfn,v=>v=.nilFunc
 |.tup l,v=> ∃d,v=.tuple d/\bT c l d.toList
 |.agg l,v=> ∃d,v=.agg d/\bT c l d.toList/\ ∀u∈d.toList,u.oneCell'=true
 |.cellp t x,v=> ∃b o s,v=.pointer (a6 ⟨b,o,a7⟩)/\c.free b/\iH c.w b o s/\fZ c.w c.free t x s
 |.ptr id q,v=>v.oneCell'=true/\c.known id/\ ∀t cs,eG c.hp id=a6 (.box t cs)->v=.pointer (a6 ⟨(c.mu id).blk,q,a7⟩)
 |.slf id,v=>v.oneCell'=true/\c.known id/\ ∀t cs,eG c.hp id=a6 (.box t cs)->v=.pointer a7\/v=.pointer (a6 ⟨(c.mu id).blk,0,a7⟩)
 |.sd id h,v=>v.oneCell'=true/\c.known id/\ ∀t u j,eG c.hp id=a6 (.arr t u j)->h<=u/\(u=h->(∃p,v=.pointer p)/\ ∀a n cp,(c.mu id).v=.slice a n cp->n≠0->v=.pointer a)
 |.slc id h y,v=>v.oneCell'=true/\c.known id/\ ∀t u j,eG c.hp id=a6 (.arr t u j)->h<=u/\(u=h->jv t.size (c.mu id).v y v)
 |.ep id h i q,v=>v.oneCell'=true/\c.known id/\ ∀t u j,eG c.hp id=a6 (.arr t u j)->h<=u/\(u=h-> ∃g n cp,(c.mu id).v=.slice (a6 ⟨g,0,a7⟩) n cp/\v=.pointer (a6 ⟨g,i*t.size+q,a7⟩))
 |.fn f l,v=> ∃d,v=.func (.func f) #[] d/\bT c l d.toList
 |.mfn f l,v=> ∃d,v=.func (.func f) d #[]/\bT c l d.toList
 |.mpv id,v=>v.oneCell'=true/\c.known id/\ ∀z A B,eG c.hp id=a6 (.mp z A B)->v=.map (a6 (c.mu id).blk)
 |.yld id,v=>v.oneCell'=true/\c.known id/\ ∀f D E jr G I n p,eG c.hp id=a6 (.lp f D E jr G I n p)->v=.func (.yield (c.mu id).blk) #[] #[]
def bT (c:Cx):List di->List Value->Prop
 |[],[]=>True
 |v::l,x::d=>dn c v x/\bT c l d
 |_,_=>False
end
def eu.like:eu->Loc->eu->Loc->Prop
 |.box _ _,l,.box _ _,d=>d.blk=l.blk
 |.lp _ _ _ _ _ _ _ _,l,.lp _ _ _ _ _ _ _ _,d=>d.blk=l.blk
 |.mp _ _ _,l,.mp _ _ _,d=>d.blk=l.blk
 |_,_,.dead,_=>True
 |.arr t v _,l,.arr t' v' _,d=>v<=v'/\(v=v'->t=t'/\d.v=l.v)
 |_,_,_,_=>False
structure Cx.Le0 (c c':Cx):Prop where
 out: ∀b,c.out b->c'.out b/\c'.w.heap[b]? =c.w.heap[b]?
 ref: ∀id,c.known id->c'.known id
 obj: ∀id o',c.known id->eG c'.hp id=a6 o'-> ∃o,eG c.hp id=a6 o/\o.like (c.mu id) o' (c'.mu id)
 bar:c'.bar=c.bar
structure Cx.Le (c c':Cx):Prop where
 out: ∀b,c.out b->c'.out b/\c'.w.heap[b]? =c.w.heap[b]?
 ref: ∀id,c.known id->c'.known id
 obj: ∀id o',c.known id->eG c'.hp id=a6 o'-> ∃o,eG c.hp id=a6 o/\o.like (c.mu id) o' (c'.mu id)
 mks: ∀r,r∈c.mks->r∈c'.mks
 lp: ∀(b:Nat) (L:Loop),c.w.heap[b]? =a6 (Obj.loop L)-> ∃L':Loop,c'.w.heap[b]? =a6 (Obj.loop L')
 size:c.w.heap.size<=c'.w.heap.size
 bar:c'.bar=c.bar
theorem Cx.Le0.free {c c':Cx} (h:c.Le0 c') (b:Nat) (hb:c.free b):c'.free b/\c'.w.heap[b]? =c.w.heap[b]? :=
 let⟨⟨d,e,f⟩,g⟩:=h.out b ⟨hb.1,hb.2.1,hb.2.2.1⟩
 ⟨⟨d,e,f,by rw[h.bar];exact hb.2.2.2⟩,g⟩
theorem Cx.Le.free {c c':Cx} (h:c.Le c') (b:Nat) (hb:c.free b):c'.free b/\c'.w.heap[b]? =c.w.heap[b]? :=
 let⟨⟨d,e,f⟩,g⟩:=h.out b ⟨hb.1,hb.2.1,hb.2.2.1⟩
 ⟨⟨d,e,f,by rw[h.bar];exact hb.2.2.2⟩,g⟩
theorem eu.like_refl (o:eu) (l:Loc):o.like l o l:=by cases o<;>simp[eu.like]
theorem eu.like_trans {a b d:eu} {l m n:Loc} (h:a.like l b m) (k:b.like m d n):a.like l d n:=by
 cases d with
 |dead=>cases a<;>simp[eu.like]
 |arr t'' v'' e=>
  cases b with
  |arr t' v' f=>
   cases a with
   |arr t v g=>
    grind [eu.like]
   |_=>simp[eu.like]at h
  |_=>simp[eu.like]at k
 |box _ _=>cases b<;>cases a<;>simp_all [eu.like]
 |lp _ _ _ _ _ _ _ _=>cases b<;>cases a<;>simp_all [eu.like]
 |mp _ _ _=>cases b<;>cases a<;>simp_all [eu.like]
theorem Cx.Le.refl (c:Cx):c.Le c:=⟨fun _ h=>⟨h,rfl⟩,fun _ h=>h,fun id o h d=>⟨o,d,o.like_refl _⟩,fun _ h=>h,fun b L h=>⟨L,h⟩,ae _,rfl⟩
theorem VD.le0 {c c':Cx} (h:c.Le0 c') {t:Ty} {x:t.den} {v:Value} (d:VD c t x v):VD c' t x v:=
 ⟨fun e=>let⟨cs,f,g⟩:=d.1 e;⟨cs,f,fZ.mono h.free t x _ g⟩,fun e=>fZ.mono h.free t x _ (d.2 e)⟩
mutual
theorem dn.le0 {c c':Cx} (h:c.Le0 c'): ∀(v:di) (x:Value),dn c v x->dn c' v x
 |.undef,_,_=>by simp[dn]
 |.val t x,v,d=>by simp only[dn]at d ⊢;exact d.le0 h
 |.nils,_,d=>by assumption
 |.emp,_,d=>by assumption
 |.lst e y b,v,d=>by simp only[dn]at d ⊢;exact⟨d.1.le0 h,d.2⟩
 |.nilp,_,d=>by assumption
 |.nilfn,_,d=>by assumption
 |.tup l,v,d=>by simp only[dn]at d ⊢;obtain⟨s,j,g⟩:=d;exact⟨s,j,bT.le0 h l _ g⟩
 |.agg l,v,d=>by simp only[dn]at d ⊢;obtain⟨s,j,g,z⟩:=d;exact⟨s,j,bT.le0 h l _ g,z⟩
 |.cellp t x,v,d=>by
  simp only[dn]at d ⊢;obtain⟨b,o,D,j,g,z,E⟩:=d;exact⟨b,o,D,j,(h.free b g).1,z.of_block (h.free b g).2,fZ.mono h.free t x _ E⟩
 |.ptr id G,v,d=>by
  simp only[dn]at d ⊢;obtain⟨m,d⟩:=d;refine⟨m,h.ref id d.1,fun t cs q=> ?_⟩;obtain⟨o,j,g⟩:=h.obj id _ d.1 q;cases o<;>simp only[eu.like]at g;simp_all
 |.slf id,v,d=>by
  simp only[dn]at d ⊢;obtain⟨m,d⟩:=d;refine⟨m,h.ref id d.1,fun t cs q=> ?_⟩;obtain⟨o,j,g⟩:=h.obj id _ d.1 q;cases o<;>simp only[eu.like]at g;simp_all
 |.sd id A,v,d=>by
  simp only[dn]at d ⊢;obtain⟨m,d⟩:=d;refine⟨m,h.ref id d.1,fun t u y q=> ?_⟩;obtain⟨o,j,g⟩:=h.obj id _ d.1 q;cases o with
  |arr t' v' B=>
   grind [eu.like]
  |box _ _=>simp[eu.like]at g
  |lp _ _ _ _ _ _ _ _=>simp[eu.like]at g
  |dead=>simp[eu.like]at g
  |mp _ _ _=>simp[eu.like]at g
 |.slc id A I,v,d=>by
  simp only[dn]at d ⊢;obtain⟨m,d⟩:=d;refine⟨m,h.ref id d.1,fun t u y q=> ?_⟩;obtain⟨o,j,g⟩:=h.obj id _ d.1 q;cases o with
  |arr t' v' B=>
   grind [eu.like]
  |box _ _=>simp[eu.like]at g
  |lp _ _ _ _ _ _ _ _=>simp[eu.like]at g
  |dead=>simp[eu.like]at g
  |mp _ _ _=>simp[eu.like]at g
 |.ep id A i G,v,d=>by
  simp only[dn]at d ⊢;obtain⟨m,d⟩:=d;refine⟨m,h.ref id d.1,fun t u y q=> ?_⟩;obtain⟨o,j,g⟩:=h.obj id _ d.1 q;cases o with
  |arr t' v' B=>
   grind [eu.like]
  |box _ _=>simp[eu.like]at g
  |lp _ _ _ _ _ _ _ _=>simp[eu.like]at g
  |dead=>simp[eu.like]at g
  |mp _ _ _=>simp[eu.like]at g
 |.fn f l,v,d=>by simp only[dn]at d ⊢;obtain⟨s,j,g⟩:=d;exact⟨s,j,bT.le0 h l _ g⟩
 |.mfn f l,v,d=>by simp only[dn]at d ⊢;obtain⟨s,j,g⟩:=d;exact⟨s,j,bT.le0 h l _ g⟩
 |.mpv id,v,d=>by
  simp only[dn]at d ⊢;obtain⟨m,d⟩:=d;refine⟨m,h.ref id d.1,fun J K L q=> ?_⟩;obtain⟨o,j,g⟩:=h.obj id _ d.1 q;cases o<;>simp only[eu.like]at g;simp_all
 |.yld id,v,d=>by
  simp only[dn]at d ⊢;obtain⟨m,d⟩:=d;refine⟨m,h.ref id d.1,fun f M N jr O S n p q=> ?_⟩;obtain⟨o,j,g⟩:=h.obj id _ d.1 q;cases o<;>simp only[eu.like]at g;simp_all
theorem bT.le0 {c c':Cx} (h:c.Le0 c'): ∀(l:List di) (xs:List Value),bT c l xs->bT c' l xs
 |[],[],_=>by simp[bT]
 |v::l,x::xs,d=>by simp only[bT]at d ⊢;exact⟨dn.le0 h v x d.1,bT.le0 h l xs d.2⟩
 |[],_::_,d=>by simp[bT]at d
 |_::_,[],d=>by simp[bT]at d
end
theorem Cx.Le.le0 {c c':Cx} (h:c.Le c'):c.Le0 c':=⟨h.out,h.ref,h.obj,h.bar⟩
theorem dn.le {c c':Cx} (h:c.Le c') (v:di) (x:Value) (d:dn c v x):dn c' v x:=dn.le0 h.le0 v x d
theorem bT.le {c c':Cx} (h:c.Le c') (l:List di) (xs:List Value) (d:bT c l xs):bT c' l xs:=bT.le0 h.le0 l xs d
end
section
open Go.RowKit
def atW (w:World):Prop:=True
theorem atW.below {w w':World} (hb:Below w.heap.size w w') (h:atW w):atW w':=trivial
def atV (w:World):Prop:= ∃m,w.cell? ⟨0,0,none⟩=some (.int .i64 m)
theorem atV.below {w w':World} (hb:Below w.heap.size w w') (h:atV w):atV w':=by
 obtain⟨m,d⟩:=h;exact⟨m,(hb.cell (World.block_lt_of_cell? w _ d)).trans d⟩
def Phi (w:World):Prop:=atW w/\atV w
theorem Phi.below {w w':World} (hb:Below w.heap.size w w') (h:Phi w):Phi w':=⟨h.1.below hb,h.2.below hb⟩
end
section
open Option renaming some → a6, none → a7
open Nat renaming le_trans → aQ, lt_of_lt_of_le → bz
open Go.RowKit
theorem Cx.Le.trans {a b c:Cx} (h:a.Le b) (k:b.Le c):a.Le c:=
 ⟨fun x e=>⟨(k.out x (h.out x e).1).1,(k.out x (h.out x e).1).2.trans (h.out x e).2⟩,fun i d=>k.ref i (h.ref i d),fun i o d g=>by
  obtain⟨p,f,s⟩:=k.obj i o (h.ref i d) g;obtain⟨q,u,v⟩:=h.obj i p d f
  grind [eu.like_trans],fun r j=>k.mks r (h.mks r j),fun b L l=>let⟨m,f⟩:=h.lp b L l;k.lp b m f,aQ h.size k.size,k.bar.trans h.bar⟩
theorem fB (k:Nat) (o:eu) (h:iw) (i:Nat):eG ((k,o)::h) i=if k=i then a6 o else eG h i:=by
 simp_all [eG]
theorem jR: ∀(h:iw) (i:Nat) (o:eu) (j:Nat),eG (jB h i o) j=if i=j then(eG h i).map fun _=>o else eG h j
 |[],i,o,j=>by simp[jB,eG]
 |(k,p)::h,i,o,j=>by
  simp only[jB];by_cases e:k=i
  .simp_all [fB]
  .have d:(k==i)=false:=by simpa using e
   simp only[d,ac,fB,jR h i o j]
   grind
theorem WP {h:iw} {i:Nat} {o p:eu} (hi:eG h i=a6 p):eG (jB h i o) i=a6 o:=by rw[jR];simp[hi]
def upd (mu:Nat->Loc) (id:Nat) (l:Loc):Nat->Loc:=fun j=>if j=id then l else mu j
theorem upd_same (mu:Nat->Loc) (id:Nat) (l:Loc):upd mu id l id=l:=by simp[upd]
theorem upd_ne (mu:Nat->Loc) {id j:Nat} (l:Loc) (h:j≠id):upd mu id l j=mu j:=by simp[upd,h]
def Ex.code:Ex->Option Code
 |.normal=>a7
 |.exit id=>a6 (.exit id)
 |.goto l=>a6 (.goto l)
 |.ret=>a6 .ret
def atQ:Nat->Option Ex->Loop->Prop
 |0,a7,L=>L.state=.ready/\L.pending=a7
 |1,a6 e,L=>L.state=.done/\L.pending=e.code/\e.code≠a7
 |2,a7,L=>L.state=.busy
 |_,_,_=>False
def Cx.ORel (B:Nat) (c:Cx) (id:Nat):eu->Prop
 |.box e cs=>B<=(c.mu id).blk/\ ∃d,c.w.heap[(c.mu id).blk]? =a6 (.cells d e (0,0))/\bT c cs d.toList/\ ∀u∈d.toList,u.oneCell'=true
 |.arr t ver g=>0<t.size/\ ∃e h,c.w.ownsRow B e t.size (c.mu id).v g.length h/\gW (fZ c.w c.free t) t.size g h/\(t=.int .u8->e=qI)
 |.lp f fr ps jr bd ky n p=>(∀k,ky=a6 k->uq f k=a6 (jr,bd))/\B<=(c.mu id).blk/\ ∃L:Loop,c.w.heap[(c.mu id).blk]? =a6 (Obj.loop L)/\bT c fr L.tmps.toList/\L.params.toList=ps/\L.assign=jr/\L.body=bd/\atQ n p L
 |.dead=>True
 |.mp kk vk j=>B<=(c.mu id).blk/\ ∃i l,c.w.heap[(c.mu id).blk]? =a6 (.map i l)/\i.toList.map (fun e=>(e.key,e.val))=j.map fun p=>(Value.int kk p.1,Value.int vk p.2)
structure Cx.Ok (W0:World) (c:Cx):Prop where
 bel:Below W0.heap.size W0 c.w
 obj: ∀id o,eG c.hp id=a6 o->c.ORel W0.heap.size id o
 inj: ∀i j o p b,eG c.hp i=a6 o->eG c.hp j=a6 p->o.blk (c.mu i)=a6 b->p.blk (c.mu j)=a6 b->i=j
 mks: ∀r,r∈c.mks->W0.heap.size<=r/\c.w.heap[r]? =a6 (.deferred (a6 []))
 bar: ∀b,c.bar b->c.out b
 phi:Phi W0
theorem Cx.Ok.phiw {W0:World} {c:Cx} (h:c.Ok W0):Phi c.w:=Phi.below h.bel h.phi
theorem Cx.ORel.lt {B:Nat} {c:Cx} {id:Nat} {o:eu} (h:c.ORel B id o) {b:Nat} (hb:o.blk (c.mu id)=a6 b):B<=b/\b<c.w.heap.size:=by
 cases o with
 |box e cs=>
  simp only[eu.blk,Option.some.injEq]at hb;subst hb;obtain⟨d,g,f,_⟩:=h
  grind
 |arr t ver i=>
  simp only[eu.blk]at hb;obtain⟨_,e,j,d,_⟩:=h;exact World.ownsRow.lt d b hb
 |lp _ _ _ _ _ _ _ _=>
  simp only[eu.blk,Option.some.injEq]at hb;subst hb;obtain⟨_,d,L,f,_⟩:=h
  grind
 |dead=>cases hb
 |mp _ _ _=>
  simp only[eu.blk,Option.some.injEq]at hb;subst hb;obtain⟨d,l,cl,f,_⟩:=h
  grind
theorem Cx.ORel.no_mark {B:Nat} {c:Cx} {id:Nat} {o:eu} (h:c.ORel B id o) {b:Nat} (hb:o.blk (c.mu id)=a6 b) {d:Option (List Deferred)}:c.w.heap[b]? ≠a6 (.deferred d):=by
 intro hd;cases o with
 |box e cs=>
  simp only[eu.blk,Option.some.injEq]at hb;subst hb;obtain⟨f,l,j,_⟩:=h;simp_all
 |arr t ver m=>
  simp only[eu.blk]at hb;obtain⟨_,e,p,f,_⟩:=h;rcases f.2 with ⟨i,_⟩|⟨g,q,s,i,_,u,_⟩
  .rw[i]at hb;cases hb
  .rw[i]at hb;cases hb;simp_all
 |lp _ _ _ _ _ _ _ _=>
  simp only[eu.blk,Option.some.injEq]at hb;subst hb;obtain⟨_,f,L,j,_⟩:=h;simp_all
 |dead=>cases hb
 |mp _ _ _=>
  simp only[eu.blk,Option.some.injEq]at hb;subst hb;obtain⟨f,v,cl,j,_⟩:=h;simp_all
theorem Cx.ORel.no_loop {B:Nat} {c:Cx} {id:Nat} {o:eu} (h:c.ORel B id o) (s: ∀f fr j jr l m n p,o≠ .lp f fr j jr l m n p) {b:Nat} (hb:o.blk (c.mu id)=a6 b) {L:Loop}:c.w.heap[b]? ≠a6 (Obj.loop L):=by
 intro hd;cases o with
 |box e cs=>
  simp only[eu.blk,Option.some.injEq]at hb;subst hb;obtain⟨d,u,q,_⟩:=h;simp_all
 |arr t ver v=>
  simp only[eu.blk]at hb;obtain⟨_,e,x,d,_⟩:=h;rcases d.2 with ⟨i,_⟩|⟨g,y,z,i,_,A,_⟩
  .rw[i]at hb;cases hb
  .rw[i]at hb;cases hb;simp_all
 |lp _ _ _ _ _ _ _ _=>grind
 |dead=>cases hb
 |mp _ _ _=>
  simp only[eu.blk,Option.some.injEq]at hb;subst hb;obtain⟨d,D,cl,q,_⟩:=h;simp_all
theorem Cx.Ok.mark_lt {W0:World} {c:Cx} (h:c.Ok W0) {r:Nat} (d:r∈c.mks):r<c.w.heap.size:=(Array.getElem?_eq_some_iff.1 (h.mks r d).2).1
theorem Cx.Ok.mark_own {W0:World} {c:Cx} (h:c.Ok W0) {r:Nat} (d:r∈c.mks): ¬c.own r:=by
 rintro ⟨id,o,e,f⟩;exact(h.obj id o e).no_mark f (h.mks r d).2
theorem Cx.Ok.own_lt {W0:World} {c:Cx} (h:c.Ok W0) {b:Nat} (hb:c.own b):W0.heap.size<=b/\b<c.w.heap.size:=by
 obtain⟨id,o,d,e⟩:=hb;exact(h.obj id o d).lt e
theorem Cx.Ok.size {W0:World} {c:Cx} (h:c.Ok W0):W0.heap.size<=c.w.heap.size:=h.bel.size
theorem DD {w w':World} {B:Nat} {e:TypeId} {size n:Nat} {v:Value} {xs:List Value} (h:w.ownsRow B e size v n xs) (hb: ∀b,v.ownBlock=a6 b->w'.heap[b]? =w.heap[b]?):w'.ownsRow B e size v n xs:=by
 refine⟨h.1, ?_⟩;rcases h.2 with d|⟨g,i,j,f,d,l,m⟩
 .exact .inl d
 .refine .inr ⟨g,i,j,f,d, ?_,m⟩;rw[hb g (by rw[f];rfl)];exact l
theorem Cx.ORel.le {B:Nat} {c c':Cx} {id:Nat} {o:eu} (h:c.ORel B id o) (hl:c.Le c') (d:c'.mu id=c.mu id) (hb: ∀b,o.blk (c.mu id)=a6 b->c'.w.heap[b]? =c.w.heap[b]?):c'.ORel B id o:=by
 cases o with
 |box e cs=>
  obtain⟨g,q,i,j,l⟩:=h;refine⟨by rw[d];exact g,q,by rw[d,hb _ rfl];exact i,bT.le hl _ _ j,l⟩
 |arr t ver x=>
  obtain⟨m,e,s,g,i,j⟩:=h;refine⟨m,e,s, ?_,gW.mono (fZ.mono hl.free t) _ _ i,j⟩;rw[d];exact DD g fun b u=>hb b u
 |lp f fr ps jr bd ky n p=>
  obtain⟨m,g,L,i,j,l⟩:=h;exact⟨m,by rw[d];exact g,L,by rw[d,hb _ rfl];exact i,bT.le hl _ _ j,l⟩
 |dead=>trivial
 |mp kk vk y=>
  obtain⟨g,v,cl,i,j⟩:=h;exact⟨by rw[d];exact g,v,cl,by rw[d,hb _ rfl];exact i,j⟩
def Cx.at_ (c:Cx) (w:World):Cx:={c with w:=w}
theorem Cx.Le.ext {c:Cx} {w:World} (h:Below c.w.heap.size c.w w):c.Le (c.at_ w):=
 ⟨fun b d=>⟨⟨bz d.1 h.size,d.2⟩,h.block b d.1⟩,fun _ h=>h,fun id o _ f=>⟨o,f,o.like_refl _⟩,fun _ h=>h,
  fun b L e=>⟨L,(h.block b (Array.getElem?_eq_some_iff.1 e).1).trans e⟩,h.size,rfl⟩
theorem Cx.Ok.ext {W0:World} {c:Cx} {w:World} (d:c.Ok W0) (h:Below c.w.heap.size c.w w):(c.at_ w).Ok W0:=
 ⟨d.bel.trans (h.mono d.size),fun id o g=>(d.obj id o g).le (Cx.Le.ext h) rfl fun b e=>h.block b ((d.obj id o g).lt e).2,d.inj,
  fun r f=>⟨(d.mks r f).1,(h.block r (d.mark_lt f)).trans (d.mks r f).2⟩,fun b e=>((Cx.Le.ext h).out b (d.bar b e)).1,d.phi⟩
def Cx.push (c:Cx) (id:Nat) (o:eu) (l:Loc) (nxt:Nat) (w:World):Cx:=⟨upd c.mu id l,(id,o)::c.hp,nxt,w,c.mks,c.bar⟩
theorem Cx.Le.push {c:Cx} {id:Nat} {o:eu} {l:Loc} {nxt:Nat} {w:World} (v: ¬c.known id) (x:c.nxt<=nxt) (q:c.w.heap.size<=w.heap.size)
  (hb: ∀b,b<c.w.heap.size->w.heap[b]? =c.w.heap[b]?) (hl: ∀b,o.blk l=a6 b->c.w.heap.size<=b):c.Le (c.push id o l nxt w):=by
 have hk: ∀j,c.known j->j≠id:=fun j d e=>v (e▸d);refine⟨fun b f=>⟨⟨bz f.1 q, ?_,f.2.2⟩,hb b f.1⟩,fun j d=> ?_,fun j p d m=> ?_,fun _ h=>h,fun b L s=>⟨L,(hb b (Array.getElem?_eq_some_iff.1 s).1).trans s⟩,q,rfl⟩
 .rintro ⟨j,p,i,g⟩;simp only[Cx.push,fB]at i g;split at i
  .rename_i e
   subst e;cases i;rw[upd_same]at g;have:=hl b g;have:=f.1;omega
  .rename_i e
   rw[upd_ne _ _ (Ne.symm e)]at g;exact f.2.1 ⟨j,p,i,g⟩
 .rcases d with ⟨p,m⟩|d
  .left;simp only[Cx.push,fB]
   grind
  .right;exact bz d x
 .have u:=hk j d;simp only[Cx.push,fB,aq (Ne.symm u)]at m ⊢;exact⟨p,m,by rw[upd_ne _ _ u];exact p.like_refl _⟩
theorem Cx.Ok.push {W0:World} {c:Cx} {id:Nat} {o:eu} {l:Loc} {nxt:Nat} {w:World} (d:c.Ok W0) (y: ¬c.known id) (E:c.nxt<=nxt) (h:Below c.w.heap.size c.w w)
  (hl: ∀b,o.blk l=a6 b->c.w.heap.size<=b) (J:(c.push id o l nxt w).ORel W0.heap.size id o):(c.push id o l nxt w).Ok W0:=by
 have z:=Cx.Le.push (o:=o) y E h.size h.block hl;have hk: ∀j p,eG c.hp j=a6 p->j≠id:=fun j p G e=>y (e▸ .inl ⟨p,G⟩);refine⟨d.bel.trans (h.mono d.size),fun j p I=> ?_,fun i j p q b A B f g=> ?_,fun r m=>⟨(d.mks r m).1,(h.block r (d.mark_lt m)).trans (d.mks r m).2⟩,fun b s=>(z.out b (d.bar b s)).1,d.phi⟩
 .by_cases e:j=id
  .simp_all [Cx.push,fB]
  .have D:eG c.hp j=a6 p:=by simpa [Cx.push,fB,Ne.symm e] using I
   exact(d.obj j p D).le z (upd_ne _ _ e) fun b s=>h.block b ((d.obj j p D).lt s).2
 .by_cases e1:i=id<;>by_cases e2:j=id
  .rw[e1,e2]
  .subst e1;have u:p=o:=by grind [Cx.push,fB]
   have v:eG c.hp j=a6 q:=by simpa [Cx.push,fB,Ne.symm e2] using B
   subst u;simp only[Cx.push,upd_same,upd_ne _ _ e2]at f g;have:=hl b f;have:=((d.obj j q v).lt g).2;omega
  .subst e2;have u:q=o:=by grind [Cx.push,fB]
   have x:eG c.hp i=a6 p:=by simpa [Cx.push,fB,Ne.symm e1] using A
   subst u;simp only[Cx.push,upd_same,upd_ne _ _ e1]at f g;have:=hl b g;have:=((d.obj i p x).lt f).2;omega
  .have x:eG c.hp i=a6 p:=by simpa [Cx.push,fB,Ne.symm e1] using A
   have v:eG c.hp j=a6 q:=by simpa [Cx.push,fB,Ne.symm e2] using B
   simp only[Cx.push,upd_ne _ _ e1,upd_ne _ _ e2]at f g;exact d.inj i j p q b x v f g
def Cx.put (c:Cx) (id:Nat) (o:eu) (l:Loc) (w:World):Cx:=⟨upd c.mu id l,jB c.hp id o,c.nxt,w,c.mks,c.bar⟩
theorem Cx.put_get {c:Cx} {id:Nat} {o p:eu} {l:Loc} {w:World} (hp:eG c.hp id=a6 p):eG (c.put id o l w).hp id=a6 o:=WP hp
theorem Cx.Le.put {W0:World} {c:Cx} {id:Nat} {o o':eu} {l:Loc} {w:World} (y:c.Ok W0) (m:eG c.hp id=a6 o) (hk:o.like (c.mu id) o' l) (s:c.w.heap.size<=w.heap.size)
  (hb: ∀b,b<c.w.heap.size->o.blk (c.mu id)≠a6 b->w.heap[b]? =c.w.heap[b]?) (hl: ∀b,o'.blk l=a6 b->o.blk (c.mu id)=a6 b\/c.w.heap.size<=b)
  (v: ∀(b:Nat) (L:Loop),o.blk (c.mu id)=a6 b->c.w.heap[b]? =a6 (Obj.loop L)-> ∃x:Loop,w.heap[b]? =a6 (Obj.loop x)):c.Le (c.put id o' l w):=by
 refine⟨fun b d=>⟨⟨bz d.1 s, ?_,d.2.2⟩,hb b d.1 fun e=>d.2.1 ⟨id,o,m,e⟩⟩,fun j i=> ?_,fun j p i hp=> ?_,fun _ h=>h,fun b L q=> ?_,s,rfl⟩
 rotate_left 3
 .by_cases e:o.blk (c.mu id)=a6 b
  .exact v b L e q
  .exact⟨L,(hb b (Array.getElem?_eq_some_iff.1 q).1 e).trans q⟩
 .rintro ⟨j,p,f,g⟩;simp only[Cx.put,jR]at f g;split at f
  .rename_i e
   subst e;rw[m]at f;cases f;rw[upd_same]at g;rcases hl b g with u|u
   .exact d.2.1 ⟨id,o,m,u⟩
   .have:=d.1;omega
  .rename_i e
   rw[upd_ne _ _ (Ne.symm e)]at g;exact d.2.1 ⟨j,p,f,g⟩
 .rcases i with ⟨p,hp⟩|i
  .left
   grind [Cx.put,jR]
  .right;exact i
 .simp only[Cx.put,jR]at hp ⊢;split at hp
  .simp_all [upd_same]
  .rename_i e
   exact⟨p,hp,by rw[upd_ne _ _ (Ne.symm e)];exact p.like_refl _⟩
theorem Cx.Ok.put {W0:World} {c:Cx} {id:Nat} {o o':eu} {l:Loc} {w:World} (d:c.Ok W0) (s:eG c.hp id=a6 o) (hk:o.like (c.mu id) o' l) (K:Below W0.heap.size W0 w)
  (M:c.w.heap.size<=w.heap.size) (hb: ∀b,b<c.w.heap.size->o.blk (c.mu id)≠a6 b->w.heap[b]? =c.w.heap[b]?) (hl: ∀b,o'.blk l=a6 b->o.blk (c.mu id)=a6 b\/c.w.heap.size<=b)
  (N: ∀(b:Nat) (L:Loop),o.blk (c.mu id)=a6 b->c.w.heap[b]? =a6 (Obj.loop L)-> ∃O:Loop,w.heap[b]? =a6 (Obj.loop O)) (S:(c.put id o' l w).ORel W0.heap.size id o'):(c.put id o' l w).Ok W0:=by
 have G:=Cx.Le.put (w:=w) d s hk M hb hl N;refine⟨K,fun j p hp=> ?_,fun i j p q b A B g m=> ?_,fun r v=>⟨(d.mks r v).1,(hb r (d.mark_lt v) fun e=>(d.obj id o s).no_mark e (d.mks r v).2).trans (d.mks r v).2⟩,fun b hb=>(G.out b (d.bar b hb)).1,d.phi⟩
 .by_cases e:id=j
  .grind [Cx.put_get]
  .have D:eG c.hp j=a6 p:=by grind [Cx.put,jR]
   refine(d.obj j p D).le G (upd_ne _ _ (Ne.symm e)) fun b I=>hb b ((d.obj j p D).lt I).2 fun f=>e (d.inj id j o p b s D f I)
 .have x: ∀i p,eG (c.put id o' l w).hp i=a6 p->id≠i->eG c.hp i=a6 p:=fun i p h e=>by simpa [Cx.put,jR,e] using h
  have J: ∀p,eG (c.put id o' l w).hp id=a6 p->p=o':=fun p h=>by grind [Cx.put_get]
  by_cases e1:id=i<;>by_cases f:id=j
  .rw[<-e1,<-f]
  .subst e1;have E:=J p A;have y:=x j q B f;subst E;simp only[Cx.put,upd_same,upd_ne _ _ (Ne.symm f)]at g m;rcases hl b g with u|u
   .exact d.inj id j o q b s y u m
   .have:=((d.obj j q y).lt m).2;omega
  .subst f;have E:=J q B;have z:=x i p A e1;subst E;simp only[Cx.put,upd_same,upd_ne _ _ (Ne.symm e1)]at g m;rcases hl b m with u|u
   .exact d.inj i id p o b z s g u
   .have:=((d.obj i p z).lt g).2;omega
  .have z:=x i p A e1;have y:=x j q B f;simp only[Cx.put,upd_ne _ _ (Ne.symm e1),upd_ne _ _ (Ne.symm f)]at g m;exact d.inj i j p q b z y g m
theorem bT.length {c:Cx}: ∀(l:List di) (xs:List Value),bT c l xs->l.length=xs.length
 |[],[],_=>rfl
 |v::l,x::xs,h=>by simp only[bT]at h;simp[bT.length l xs h.2]
 |[],_::_,h=>by simp[bT]at h
 |_::_,[],h=>by simp[bT]at h
theorem bT.get {c:Cx}: ∀(l:List di) (xs:List Value),bT c l xs-> ∀(i:Nat) (h:i<l.length) (f:i<xs.length),dn c l[i] xs[i]
 |v::l,x::xs,h,0,_,_=>by simp_all [bT]
 |v::l,x::xs,h,i+1,d,e=>by simp only[bT]at h;exact bT.get l xs h.2 i (by simpa using d) (by simpa using e)
 |[],_,_,_,d,_=>by simp at d
 |_::_,[],h,_,_,_=>by simp[bT]at h
theorem bT.append {c:Cx}: ∀(l m:List di) (xs d:List Value),bT c l xs->bT c m d->bT c (l++m) (xs++d)
 |[],m,[],d,_,h=>h
 |v::l,m,x::xs,d,h,k=>by simp only[bT,List.cons_append]at h ⊢;exact⟨h.1,bT.append l m xs d h.2 k⟩
 |[],_,_::_,_,h,_=>by simp[bT]at h
 |_::_,_,[],_,h,_=>by simp[bT]at h
theorem bT.take {c:Cx}: ∀(k:Nat) (l:List di) (xs:List Value),bT c l xs->bT c (l.take k) (xs.take k)
 |0,_,_,_=>by simp[bT]
 |k+1,[],[],_=>by simp[bT]
 |k+1,v::l,x::xs,h=>by simp only[bT,List.take_succ_cons]at h ⊢;exact⟨h.1,bT.take k l xs h.2⟩
 |_+1,[],_::_,h=>by simp[bT]at h
 |_+1,_::_,[],h=>by simp[bT]at h
theorem bT.drop {c:Cx}: ∀(k:Nat) (l:List di) (xs:List Value),bT c l xs->bT c (l.drop k) (xs.drop k)
 |0,_,_,h=>by simpa using h
 |k+1,[],[],_=>by simp[bT]
 |k+1,v::l,x::xs,h=>by simp only[bT,List.drop_succ_cons]at h ⊢;exact bT.drop k l xs h.2
 |_+1,[],_::_,h=>by simp[bT]at h
 |_+1,_::_,[],h=>by simp[bT]at h
theorem bT.set {c:Cx} {v:di} {x:Value} (d:dn c v x): ∀(i:Nat) (l:List di) (xs:List Value),bT c l xs->bT c (l.set i v) (xs.set i x)
 |_,[],[],_=>by simp[bT]
 |0,u::l,y::xs,h=>by simp_all [bT]
 |i+1,u::l,y::xs,h=>by simp only[bT,List.set_cons_succ]at h ⊢;exact⟨h.1,bT.set d i l xs h.2⟩
 |_,[],_::_,h=>by simp[bT]at h
 |_,_::_,[],h=>by simp[bT]at h
theorem VD.leaf {c:Cx} {t:Ty} {x:t.den} {v:Value} (h:t.isAgg=false):VD c t x v↔fZ c.w c.free t x [v]:=⟨fun d=>d.2 h,fun d=>⟨(fun e=>by rw[h]at e;cases e),(fun _=>d)⟩⟩
theorem VD.agg {c:Cx} {t:Ty} {x:t.den} {v:Value} (h:t.isAgg=true):VD c t x v↔ ∃cs,v=.agg cs/\fZ c.w c.free t x cs.toList:=⟨fun d=>d.1 h,fun d=>⟨(fun _=>d),(fun e=>by rw[h]at e;cases e)⟩⟩
theorem VD.cells {c:Cx} {t:Ty} {x:t.den} {v:Value} (h:VD c t x v):fZ c.w c.free t x v.cells.toList:=by
 by_cases e:t.isAgg=true
 .obtain⟨cs,rfl,d⟩:=h.1 e;exact d
 .have f:t.isAgg=false:=by simpa using e
  have d:=h.2 f;have g:=fZ.one _ _ _ d v (by simp);cases v<;>simp_all [Value.cells,Value.oneCell']
theorem Gy {c:Cx}: ∀(t:Ty) (x:t.den) (cs:List Value),fZ c.w c.free t x cs->bT c (flat t x) cs
 |.unit,_,_,h=>by cases h;simp[flat,bT]
 |.bool,x,cs,h=>by simp only[fZ]at h;subst h;simp only[flat,bT,dn];exact⟨(VD.leaf rfl).2 rfl,trivial⟩
 |.int k,x,cs,h=>by simp only[fZ]at h;subst h;simp only[flat,bT,dn];exact⟨(VD.leaf rfl).2 rfl,trivial⟩
 |.str,x,cs,h=>by simp only[fZ]at h;subst h;simp only[flat,bT,dn];exact⟨(VD.leaf rfl).2 rfl,trivial⟩
 |.list t,x,cs,h=>by
  have e:=h;obtain⟨a,n,l,d,_⟩:=h;subst d;simp only[flat,bT,dn];exact⟨(VD.leaf rfl).2 e,trivial⟩
 |.pair a b,x,cs,⟨f,g,d,i,j⟩=>by
  subst d;exact bT.append _ _ _ _ (Gy a x.1 f i) (Gy b x.2 g j)
theorem nM {t' t:Ty} {x:t'.den} {y:t.den} (h:kY t x=a6 y): ∃e:t'=t,y=cast (congrArg Ty.den e) x:=by
 grind [kY]
theorem ik {t:Ty} (x:t.den):kY t x=a6 x:=by simp[kY]
theorem iV {t' t:Ty} {x:t'.den} {y:t.den} (h:kY t x=a6 y):t'=t:=(nM h).1
theorem Ob {c:Cx} {t:Ty} (e:t.isAgg=false) {v:di} {x:t.den} (h:leaf t v=a6 x) {u:Value} (d:dn c v u):fZ c.w c.free t x [u]:=by
 cases v with
 |val t' y=>
  grind [leaf,nM,dn,VD.leaf]
 |nils=>
  cases t<;>simp only[leaf]at h
  case list t=>
   cases h;simp only[dn]at d;subst d;exact⟨a7,0,[],rfl,by simp,rfl,.inl rfl⟩
  all_goals cases h
 |_=>simp[leaf]at h
theorem akH {c:Cx}: ∀(t:Ty) (l:List di) (x:t.den) (e:List di) (vs:List Value),mk t l=a6 (x,e)->bT c l vs->
  ∃cs g,vs=cs++g/\fZ c.w c.free t x cs/\bT c e g
 |.unit,l,x,e,vs,h,d=>by
  simp only[mk,Option.some.injEq,Prod.mk.injEq]at h;obtain⟨_,rfl⟩:=h;exact⟨[],vs,rfl,rfl,d⟩
 |.pair a b,l,x,e,vs,h,d=>by
  simp only[mk]at h;split at h
  .rename_i y i o
   split at h
   .rename_i z G p
    cases h;obtain⟨j,q,I,s,A⟩:=akH a l y i vs o d;obtain⟨m,B,J,D,E⟩:=akH b i z e q p A;exact⟨j++m,B,by simp_all,⟨j,m,rfl,s,D⟩,E⟩
   .cases h
  .cases h
 |.bool,[],_,_,_,h,_=>by simp[mk]at h
 |.int _,[],_,_,_,h,_=>by simp[mk]at h
 |.str,[],_,_,_,h,_=>by simp[mk]at h
 |.list _,[],_,_,_,h,_=>by simp[mk]at h
 |.bool,v::l,x,e,u::vs,h,d=>by
  simp only[bT]at d;simp only[mk]at h;split at h
  .rename_i y f;cases h;exact⟨[u],vs,rfl,Ob rfl f d.1,d.2⟩
  .cases h
 |.int k,v::l,x,e,u::vs,h,d=>by
  simp only[bT]at d;simp only[mk]at h;split at h
  .rename_i y f;cases h;exact⟨[u],vs,rfl,Ob rfl f d.1,d.2⟩
  .cases h
 |.str,v::l,x,e,u::vs,h,d=>by
  simp only[bT]at d;simp only[mk]at h;split at h
  .rename_i y f;cases h;exact⟨[u],vs,rfl,Ob rfl f d.1,d.2⟩
  .cases h
 |.list t,v::l,x,e,u::vs,h,d=>by
  simp only[bT]at d;simp only[mk]at h;split at h
  .rename_i y f;cases h;exact⟨[u],vs,rfl,Ob rfl f d.1,d.2⟩
  .cases h
 |.bool,_::_,_,_,[],_,d=>by simp[bT]at d
 |.int _,_::_,_,_,[],_,d=>by simp[bT]at d
 |.str,_::_,_,_,[],_,d=>by simp[bT]at d
 |.list _,_::_,_,_,[],_,d=>by simp[bT]at d
theorem qm {c:Cx} {t:Ty} {l:List di} {x:t.den} {vs:List Value} (h:Kv t l=a6 x) (d:bT c l vs):fZ c.w c.free t x vs:=by
 grind [Kv,akH,bT]
theorem PV {c:Cx} {v:di} {l:List di} (h:v.cells=a6 l) {x:Value} (d:dn c v x):bT c l x.cells.toList/\ ∀u∈x.cells.toList,u.oneCell'=true:=by
 cases v with
 |val t y=>
  simp only[di.cells,Option.some.injEq]at h;subst h;simp only[dn]at d;exact⟨Gy t y _ d.cells,fZ.one _ _ _ d.cells⟩
 |agg i=>
  simp only[di.cells,Option.some.injEq]at h;subst h;simp only[dn]at d;obtain⟨j,rfl,e,f⟩:=d;exact⟨e,f⟩
 |undef=>simp[di.cells]at h
 |tup _=>simp[di.cells]at h
 |_=>
  simp only[di.cells,Option.some.injEq]at h;subst h;have g:x.oneCell'=true:=by
   simp only[dn]at d
   first
    |(subst d;rfl)
    |exact d.1
    |(obtain⟨_,_,_,rfl,_⟩:=d;rfl)
    |(obtain⟨_,rfl,_⟩:=d;rfl)
    |(obtain⟨_,_,_,_,rfl,_⟩:=d;rfl)
  have e:x.cells= #[x]:=by cases x<;>simp_all [Value.cells,Value.oneCell']
  rw[e];simp only[bT];exact⟨⟨d,trivial⟩,by simpa using g⟩
end
section
open Option renaming some → a6, none → a7
open Bool renaming not_eq_true → bg
open List renaming map_cons → ax
open Go.RowKit
def lG:TypeDesc->Option TK
 |.bool=>a6 .bool
 |.int k=>a6 (.int k)
 |.string=>a6 .str
 |.slice e=>a6 (.slice e)
 |.struct d=>a6 (.struct (d.toList.map fun f=>(f.offset,f.type)))
 |.func _ _ _=>a6 .fn
 |.pointer e=>a6 (.ptr e)
 |.map k e=>a6 (.map k e)
 |.array _ _=>a7
 |_=>a6 .other
def kw (T:TT):Nat->List (Nat×TypeId)->Option Ty
 |_,[]=>a6 .unit
 |e,(o,d)::f=>if o=e then match(T.at d).ty with
   |some a=>if a.size=(T.at d).size/\(T.at d).known=true then match kw T (e+a.size) f with
    |some b=>a6 (.pair a b)
    |none=>a7
    else a7
   |none=>a7
  else a7
def mG (T:TT):TK->Option Ty
 |.bool=>a6 .bool
 |.int k=>a6 (.int k)
 |.str=>a6 .str
 |.slice e=>(T.at e).ty.map .list
 |.struct d=>kw T 0 d
 |_=>a7
def aIb (P:Program) (T:TT) (t:TypeId) (i:TI):Prop:=
 i.known=true->(P.info? t).map (fun f=>(f.size,f.bytes,f.zero.map fun z=>(z.cells.toList.map yX,z.cells.toList.all Value.oneCell')))=a6 (i.size,i.bytes,a6 (i.zero,true))/\
  (P.underlying t).map lG=a6 (a6 i.k)/\(i.ty=a7\/i.ty=mG T i.k)/\(∀y,i.ty=a6 y->y.size=i.size)/\(i.isAgg=true\/i.size=1)/\
  (i.eq=true->P.eqGuardType P.depth t=false/\P.stoodInHeld t=false/\(P.underlying t).map (fun d=>match d with|.struct fs=>fs.toList.all fun f=>f.name != "_" |_=>false)=a6 true)/\
  (P.underlying t).map (fun d=>match d with|.struct fs=>fs.toList.all fun f=>(P.info? f.type).isSome|_=>true)=a6 true/\i.zero.length=i.size/\(i.ty=a6 (.int .u8)->t=qI)/\(i.bld=true->t=ZJ)/\(∀k,i.k=.int k-> ∀j,P.info? t=a6 j->j.zero=a6 (.int k 0))
def TOk (P:Program) (T:TT):Prop:= ∀t,aIb P T t (T.at t)
def TT.All (p:Nat->TI->Prop):TT->Prop
 |.nil=>True
 |.node k i l r=>p k i/\l.All p/\r.All p
theorem TT.All.at_ {p:Nat->TI->Prop} (hd: ∀t,p t default): ∀(T:TT),T.All p-> ∀t,p t (T.at t)
 |.nil,_,t=>hd t
 |.node k i l r,⟨j,d,f⟩,t=>by
  simp only[TT.at];by_cases e:Nat.beq k t=true
  .simp_all
  .have g:Nat.beq k t=false:=(bg _).mp e;simp only[g,ac];by_cases e2:Nat.blt t k=true
   .simp only[e2,aa];exact TT.All.at_ hd l d t
   .have h:Nat.blt t k=false:=(bg _).mp e2;simp only[h,ac];exact TT.All.at_ hd r f t
theorem TOk.of_all {P:Program} {T:TT} (h:T.All (aIb P T)):TOk P T:=TT.All.at_ (fun t h=>by cases h) T h
section types
variable {P:Program} {T:TT} (hT:TOk P T) {t:TypeId} (hk:(T.at t).known=true)
theorem TOk.info (hT:TOk P T) (hk:(T.at t).known=true): ∃i z,P.info? t=a6 i/\i.size=(T.at t).size/\i.bytes=(T.at t).bytes/\i.zero=a6 z/\z.cells.toList.map yX=(T.at t).zero/\z.cells.toList.all Value.oneCell'=true:=by
 have h:=(hT t hk).1;simp_all
theorem TOk.und (hT:TOk P T) (hk:(T.at t).known=true): ∃d,P.underlying t=a6 d/\lG d=a6 (T.at t).k:=by
 have h:=(hT t hk).2.1;simp_all
theorem TOk.slice (hT:TOk P T) (hk:(T.at t).known=true) {e:TypeId} (h:(T.at t).k=.slice e):P.underlying t=a6 (.slice e):=by
 obtain⟨d,g,f⟩:=hT.und hk;rw[h]at f;cases d<;>simp[lG]at f;subst f;exact g
theorem TOk.str (hT:TOk P T) (hk:(T.at t).known=true) (h:(T.at t).k=.str):P.underlying t=a6 .string:=by
 obtain⟨d,f,e⟩:=hT.und hk;rw[h]at e;cases d<;>simp[lG]at e;exact f
theorem TOk.int (hT:TOk P T) (hk:(T.at t).known=true) {k:IntKind} (h:(T.at t).k=.int k):P.underlying t=a6 (.int k):=by
 obtain⟨d,f,e⟩:=hT.und hk;rw[h]at e;cases d<;>simp[lG]at e;subst e;exact f
theorem TOk.struct (hT:TOk P T) (hk:(T.at t).known=true) {e:List (Nat×TypeId)} (h:(T.at t).k=.struct e): ∃g,P.underlying t=a6 (.struct g)/\g.toList.map (fun f=>(f.offset,f.type))=e:=by
 obtain⟨d,j,i⟩:=hT.und hk;rw[h]at i;cases d<;>simp[lG]at i;simp_all
theorem TOk.isAgg (hT:TOk P T) (hk:(T.at t).known=true) (w:World):(Go.isAgg t).run P w=.ok (T.at t).isAgg w:=by
 obtain⟨d,f,e⟩:=hT.und hk;have:(Go.isAgg t).run P w=.ok (match d with|.struct _|.array _ _=>true|_=>false) w:=by
  simp only[Go.isAgg,Sem.run_bind,run_underlying f,Result.andThen_ok];cases d<;>rfl
 rw[this];unfold TI.isAgg;cases d<;>simp only[lG,Option.some.injEq,reduceCtorEq]at e<;>simp[<-e]
theorem TOk.sizeOf (hT:TOk P T) (hk:(T.at t).known=true) (w:World):(Go.sizeOf t).run P w=.ok (T.at t).size w:=by
 obtain⟨i,z,d,e,_⟩:=hT.info hk;simp[Go.sizeOf,typeInfo,d,e]
theorem TOk.ty_agg (hT:TOk P T) (hk:(T.at t).known=true) {y:Ty} (h:(T.at t).ty=a6 y):y.isAgg=(T.at t).isAgg:=by
 rcases(hT t hk).2.2.1 with d|d
 .simp_all
 .rw[h]at d;unfold TI.isAgg;cases hkk:(T.at t).k with
  |struct g=>
   rw[hkk]at d;simp only[mG]at d;cases g with
   |nil=>simp only[kw,Option.some.injEq]at d;subst d;rfl
   |cons f r=>
    obtain⟨o,i⟩:=f;simp only[kw]at d
    repeat' split at d
    all_goals first|cases d|skip
    rfl
  |bool=>rw[hkk]at d;simp only[mG,Option.some.injEq]at d;subst d;rfl
  |int k=>rw[hkk]at d;simp only[mG,Option.some.injEq]at d;subst d;rfl
  |str=>rw[hkk]at d;simp only[mG,Option.some.injEq]at d;subst d;rfl
  |slice e=>
   rw[hkk]at d;simp only[mG]at d;cases he:(T.at e).ty with
   |none=>simp_all
   |some j=>rw[he]at d;simp only[Option.map_some,Option.some.injEq]at d;subst d;rfl
  |other=>rw[hkk]at d;cases d
  |ptr e=>rw[hkk]at d;cases d
  |fn=>rw[hkk]at d;cases d
  |map a b=>rw[hkk]at d;cases d
theorem TOk.ty_size (hT:TOk P T) (hk:(T.at t).known=true) {y:Ty} (h:(T.at t).ty=a6 y):y.size=(T.at t).size:=(hT t hk).2.2.2.1 y h
theorem TOk.zlen (hT:TOk P T) (hk:(T.at t).known=true):(T.at t).zero.length=(T.at t).size:=(hT t hk).2.2.2.2.2.2.2.1
theorem TOk.byte (hT:TOk P T) (hk:(T.at t).known=true) (h:(T.at t).ty=a6 (.int .u8)):t=qI:=(hT t hk).2.2.2.2.2.2.2.2.1 h
theorem TOk.bldr (hT:TOk P T) (hk:(T.at t).known=true) (h:(T.at t).bld=true):t=ZJ:=(hT t hk).2.2.2.2.2.2.2.2.2.1 h
theorem TOk.ptr (hT:TOk P T) (hk:(T.at t).known=true) {e:TypeId} (h:(T.at t).k=.ptr e):P.underlying t=a6 (.pointer e):=by
 obtain⟨d,g,f⟩:=hT.und hk;rw[h]at f;cases d<;>simp[lG]at f;subst f;exact g
theorem TOk.zero_int (hT:TOk P T) (hk:(T.at t).known=true) {k:IntKind} (h:(T.at t).k=.int k) {i:TypeInfo} (hi:P.info? t=a6 i):i.zero=a6 (.int k 0):=(hT t hk).2.2.2.2.2.2.2.2.2.2 k h i hi
theorem TOk.zero_byte (hT:TOk P T) (hk:(T.at t).known=true) (h:(T.at t).k=.int .u8) {i:TypeInfo} (hi:P.info? t=a6 i):i.zero=a6 (.int .u8 0):=hT.zero_int hk h hi
theorem TOk.map (hT:TOk P T) (hk:(T.at t).known=true) {a e:TypeId} (h:(T.at t).k=.map a e):P.underlying t=a6 (.map a e):=by
 obtain⟨d,g,f⟩:=hT.und hk;rw[h]at f;cases d<;>simp[lG]at f;simp_all
theorem TOk.one (hT:TOk P T) (hk:(T.at t).known=true):(T.at t).isAgg=true\/(T.at t).size=1:=(hT t hk).2.2.2.2.1
end types
theorem V4 (c:Cx) (v:Value):dn c (yX v) v:=by
 unfold yX;split<;>simp only[dn]
 .exact(VD.leaf rfl).2 rfl
 .exact(VD.leaf rfl).2 rfl
 .refine(VD.leaf rfl).2 ?_;simp[fZ]
theorem wK (c:Cx): ∀(l:List Value),bT c (l.map yX) l
 |[]=>by simp[bT]
 |v::l=>by simp only[ax,bT];exact⟨V4 c v,wK c l⟩
theorem bT.setL {c:Cx} {z:di}: ∀(s:Nat) (fr:List di) (xs:List Value),bT c fr xs->(∀h:s<xs.length,dn c z xs[s])->bT c (fr.set s z) xs
 |s,[],[],_,_=>by simp[bT]
 |0,v::fr,x::xs,h,d=>by
  simp_all [bT]
 |s+1,v::fr,x::xs,h,d=>by
  simp only[bT,List.set_cons_succ]at h ⊢;exact⟨h.1,bT.setL s fr xs h.2 fun e=>d (by simpa using e)⟩
 |s,[],_::_,h,_=>by simp[bT]at h
 |s,_::_,[],h,_=>by simp[bT]at h
theorem bT.getD {c:Cx} {l:List di} {xs:Array Value} (h:bT c l xs.toList) (t:Nat):dn c (l.getD t .undef) (xs.getD t undef):=by
 have e:l.length=xs.size:=by grind [bT.length,Array.length_toList]
 by_cases ht:t<l.length
 .have d:t<xs.size:=by omega
  have f:=bT.get _ _ h t ht (by simpa using d);simp_all
 simp_all [dn]
theorem eF {c:Cx} {fr:List di} {a:Act} (h:bT c fr a.tmps.toList) (x:Operand):dn c (iF fr x) (a.eval x):=by
 cases x with
 |tmp t=>exact h.getD t
 |const v=>
  cases v with
  |agg cs=>
   simp only[iF,Act.eval,abT];cases e:cs.toList.all Value.oneCell'
   .simp[dn]
   .simp only[aa,dn];exact⟨cs,rfl,wK c _,fun u d=>List.all_eq_true.1 e u d⟩
  |tuple _=>simp[iF,abT,dn]
  |_=>simp only[iF,Act.eval,abT];exact V4 c _
 |global g=>simp[iF,dn]
 |func f=>simp only[iF,Act.eval,dn];exact⟨#[],rfl,by simp[bT]⟩
end
section
open Option renaming some → a6, none → a7
open Bool renaming false_eq_true → ag, not_true → ak
open List renaming append_assoc → ah, mem_of_mem_take → bF
open Go.RowKit
theorem dN {R:Type} {b:Bool} {x:Option R} {r:R} (h:(bif b then x else a7)=a6 r):b=true/\x=a6 r:=by
 grind
theorem gX {R:Type} {b:Bool} {x:Option R} {r:R} (h:nV b x=a6 r):b=true/\x=a6 r:=dN h
abbrev JP (c:Cx) (w:World):Prop:=Below c.w.heap.size c.w w
def valOf (agg:Bool) (d:List Value):Value:=if agg then .agg d.toArray else d.headD undef
theorem kU (b o n:Nat):(⟨b,o,a7⟩:Addr).add n=⟨b,o+n,a7⟩:=by
 simp_all [Addr.add]
section
variable {P:Program} {T:TT} {W0:World} {c:Cx} {R:Type} {r:R} {t:TypeId}
theorem Pg (hT:TOk P T) (hk:(T.at t).known=true) {w:World} {b o:Nat} {d:List Value} (g:iH w b o d) (hl:d.length=(T.at t).size):
  (loadVar t ⟨b,o,a7⟩).run P w=.ok (valOf (T.at t).isAgg d) w:=by
 have i:=hT.isAgg hk w;have l:=hT.sizeOf hk w;have f: ∀j v,d[j]? =a6 v->w.cell? ((⟨b,o,a7⟩:Addr).add j)=a6 v:=fun j v m=>by
  rw[kU];obtain⟨p,q⟩:=List.getElem?_eq_some_iff.1 m;rw[g j p,q]
 simp only[loadVar,Sem.run_bind,i,Result.andThen_ok];cases e:(T.at t).isAgg
 .have s:d.length=1:=by
   rcases hT.one hk with h|h
   all_goals simp_all
  match d,s with
  |[z],_=>
   have u:=f 0 z rfl;simp_all [kU,valOf]
 .simp only[if_true,Sem.run_bind,l,Result.andThen_ok,<-hl,run_loadCells_list (P:=P) w ⟨b,o,a7⟩ d f,Sem.run_pure,valOf]
theorem vg (hT:TOk P T) (hk:(T.at t).known=true) {w:World} {b o:Nat} {d:List Value} (e:iH w b o d) (hl:d.length=(T.at t).size):
  (Instr.loadAt t (.pointer (a6 ⟨b,o,a7⟩))).run P w=.ok (valOf (T.at t).isAgg d) w:=by
 grind [Instr.loadAt,Instr.sureAddr,Pg]
theorem aiU (hT:TOk P T) (hk:(T.at t).known=true) {y:Ty} (g:(T.at t).ty=a6 y) {x:y.den} {d:List Value} (h:fZ c.w c.free y x d):VD c y x (valOf (T.at t).isAgg d):=by
 have f:=hT.ty_agg hk g;cases e:(T.at t).isAgg
 .rw[e]at f;refine(VD.leaf f).2 ?_;have i:=fZ.length _ _ _ h;have j:d.length=1:=by
   rw[i];cases y<;>first|rfl|(simp[Ty.isAgg]at f)
  match d,j with
  |[z],_=>exact h
 .rw[e]at f;exact(VD.agg f).2 ⟨d.toArray,rfl,by simpa using h⟩
theorem OV (hT:TOk P T) (hk:(T.at t).known=true) {l:List di} {d:List Value} (h:bT c l d) (m: ∀u∈d,u.oneCell'=true):dn c (norm (T.at t) l) (valOf (T.at t).isAgg d):=by
 unfold norm valOf TI.isAgg;have e:dn c (.agg l) (.agg d.toArray):=by simp only[dn];simp_all
 cases hkk:(T.at t).k with
 |struct o=>
  simp only[if_true];split
  .rename_i y g
   split
   .rename_i x i
    rw[cond_eq_ite];split
    .exact e
    simp only[dn];have j:=qm i h;have f:=hT.ty_agg hk g;rw[TI.isAgg,hkk]at f;exact(VD.agg f).2 ⟨d.toArray,rfl,by simpa using j⟩
   .exact e
  .exact e
 |_=>
  simp only[ag,if_false];split
  .rename_i v
   match d,h with
   |[z],h=>simp only[bT]at h;exact h.1
   |[],h=>simp[bT]at h
   |_::_::_,h=>simp[bT]at h
  .simp[dn]
theorem Eg {cs l:List di} {off k:Nat} (h:Nc cs off k=a6 l):off+k<=cs.length/\l=(cs.drop off).take k:=by
 unfold Nc at h;obtain⟨d,e⟩:=dN h;simp_all
theorem iH.sub {w:World} {b o:Nat} {d:List Value} (h:iH w b o d) (off k:Nat):iH w b (o+off) ((d.drop off).take k):=by
 intro j e;have f:off+j<d.length:=by simp at e;omega
 rw[Nat.add_assoc,h (off+j) f];simp
theorem iH.of_block_cells {w:World} {b:Nat} {vs:Array Value} {e:TypeId} {f:Nat×Nat} (h:w.heap[b]? =a6 (.cells vs e f)):iH w b 0 vs.toList:=by
 intro j d;simp_all [World.cell?]
theorem JP.cells {c:Cx} {w:World} (h:JP c w) {b o:Nat} {d:List Value} (hb:b<c.w.heap.size) (e:iH c.w b o d):iH w b o d:=e.of_block (h.block b hb)
theorem azF (o:c.Ok W0) {id p:Nat} {y:Ty} {xs:List y.den} (h:eG c.hp id=a6 (.arr y p xs)) {i:Nat} (hi:i<xs.length):
  ∃g n cp f,(c.mu id).v=.slice (a6 ⟨g,0,a7⟩) n cp/\c.own g/\fZ c.w c.free y xs[i] f/\iH c.w g (i*y.size) f:=by
 obtain⟨L,e,f,q,s,M⟩:=o.obj id _ h;obtain⟨d,N,u,O,S,x,z⟩:=gW.at_ i xs f hi s;rcases q.2 with ⟨l,A⟩|⟨g,U,B,l,A,D,V,W,X,E⟩
 .omega
 .refine⟨g,_,_,d,l,⟨id,_,h,by simp[eu.blk,l,Value.ownBlock]⟩,u, ?_⟩;have G:=iH.of_block_cells D;intro j I;have m:f[i*y.size+j]? =a6 d[j]:=by
   rw[x,ah,List.getElem?_append_right (by omega),z,Nat.add_sub_cancel_left,List.getElem?_append_left I];simp
  have J:i*y.size+j<f.length:=(List.getElem?_eq_some_iff.1 m).1;rw[<-E]at m J;have K:i*y.size+j<B.toList.length:=by grind
  have:=G (i*y.size+j) K
  grind
theorem azy (hT:TOk P T) (s:c.Ok W0) {av:di} {v:Value} {K:di->Option R} (h:Qc T c.hp t av K=a6 r) (d:dn c av v):
  ∃z u,K z=a6 r/\dn c z u/\ ∀w',JP c w'->(Instr.loadAt t v).run P w'=.ok u w':=by
 unfold Qc at h;cases hk:(T.at t).known
 .simp_all
 rw[hk]at h;simp only[ak,ac]at h;cases av with
 |cellp y x=>
  simp only at h;split at h
  .rename_i y' S
   split at h
   .rename_i x' A
    obtain⟨e,B⟩:=nM A;subst e;subst B;simp only[dn]at d;obtain⟨b,o,U,rfl,V,f,hd⟩:=d;refine⟨_,_,h, ?_,fun w' j=>vg hT hk (j.cells V.1 f) ?_⟩
    .grind [dn,aiU]
    .rw[fZ.length _ _ _ hd,hT.ty_size hk S]
   .cases h
  .cases h
 |ptr id m=>
  simp only at h;split at h
  .rename_i bt cs I
   split at h
   .rename_i l D
    obtain⟨p,rfl⟩:=Eg D;simp only[dn]at d;have W:=d.2.2 _ _ I;subst W;obtain⟨hB,vs,q,J,X⟩:=s.obj id _ I;have Y:=bT.length _ _ J;have f:=(iH.of_block_cells q).sub m (T.at t).size;rw[Nat.zero_add]at f;refine⟨_,_,h,OV hT hk (bT.take _ _ _ (bT.drop m _ _ J)) (fun u E=>X u (List.mem_of_mem_drop (bF E))),fun w' j=>vg hT hk (j.cells (Array.getElem?_eq_some_iff.1 q).1 f) ?_⟩
    grind
   .cases h
  .cases h
 |ep id ver i m=>
  simp only at h;split at h
  .rename_i y u G L
   replace h:=dN h;obtain⟨p,h⟩:=h;replace h:=dN h;obtain⟨B,h⟩:=h;have p:u=ver:=by simpa using p
   subst p;have M:i<G.length:=by simpa [TS] using B
   split at h
   .rename_i l D
    obtain⟨q,rfl⟩:=Eg D;simp only[dn]at d;obtain⟨g',n',ae,Z,e2⟩:=(d.2.2 _ _ _ L).2 rfl;obtain⟨g,n,cp,U,N,ab,hd,f⟩:=azF s L M;rw[Z]at N;cases N;subst e2;have A:G.getD i y.dflt=G[i]:=by simp[List.getD,M]
    rw[A]at h q;have O:=Gy y _ _ hd;have Y:=bT.length _ _ O;have ad:=f.sub m (T.at t).size;refine⟨_,_,h,OV hT hk (bT.take _ _ _ (bT.drop m _ _ O)) (fun u E=>fZ.one _ _ _ hd u (List.mem_of_mem_drop (bF E))),fun w' j=>vg hT hk (j.cells (s.own_lt ab).2 ad) ?_⟩;simp;omega
   .cases h
  .cases h
 |_=>cases h
end
end
section
open Option renaming some → a6, none → a7
open Bool renaming and_eq_true → af, false_eq_true → ag, not_true → ak, true_and → aG
open List renaming map_cons → ax, drop_eq_getElem_cons → ay, all_cons → aY
open Go.RowKit
section
variable {P:Program} {T:TT} {W0:World} {c:Cx} {R:Type} {r:R} {t:TypeId}
theorem VD.int_inv {k:IntKind} {n:Int} {v:Value} (h:VD c (.int k) n v):v=.int k n:=by
 have:=h.2 rfl;simp_all [fZ]
theorem VD.bool_inv {b:Bool} {v:Value} (h:VD c .bool b v):v=.bool b:=by
 have:=h.2 rfl;simp_all [fZ]
theorem VD.str_inv {s:List UInt8} {v:Value} (h:VD c .str s v):v=.string ⟨s.toArray⟩:=by
 have:=h.2 rfl;simp_all [fZ]
theorem VD.int_mk {k:IntKind} {n:Int}:VD c (.int k) n (.int k n):=(VD.leaf rfl).2 rfl
theorem VD.bool_mk {b:Bool}:VD c .bool b (.bool b):=(VD.leaf rfl).2 rfl
theorem VD.str_mk {s:List UInt8}:VD c .str s (.string ⟨s.toArray⟩):=(VD.leaf rfl).2 rfl
theorem IY (hT:TOk P T) (h:T.isStr t=true):P.underlying t=a6 .string:=by
 unfold TT.isStr at h;split at h
 .rename_i e;exact hT.str h e
 .cases h
theorem nD (hT:TOk P T) {n:Nat} (h:T.rowOf t n=true): ∃e,P.underlying t=a6 (.slice e)/\(T.at e).known=true/\(T.at e).size=n/\0<n/\(T.at t).k=.slice e/\0<(T.at e).bytes:=by
 unfold TT.rowOf at h;split at h
 .rename_i e d
  simp only[af,beq_iff_eq,TS,decide_eq_true_eq]at h;exact⟨e,hT.slice h.1 d,h.2.1,h.2.2.1,h.2.2.2.1,d,h.2.2.2.2⟩
 .cases h
theorem _root_.Go.Proofs.YtdfhjhkcjecmlaaGreatDoor.TOk.isPtr (hT:TOk P T) (h:T.isPtr t=true): ∃e,P.underlying t=a6 (.pointer e):=by
 unfold TT.isPtr at h;split at h
 .rename_i e hk;exact⟨e,hT.ptr h hk⟩
 .cases h
theorem _root_.Go.Proofs.YtdfhjhkcjecmlaaGreatDoor.TOk.isBytes (hT:TOk P T) (h:T.isBytes t=true):P.underlying t=a6 (.pointer qI)/\P.cellsOf qI=1:=by
 unfold TT.isBytes at h;split at h
 .rename_i e hk
  simp only[af]at h;obtain⟨g,d,f⟩:=h;split at f
  .rename_i j
   have:=hT.byte d j;subst this;refine⟨hT.ptr g hk, ?_⟩;obtain⟨i,z,l,m,_⟩:=hT.info d;simp_all [Program.cellsOf]
  .cases f
 .cases h
theorem O0 (hT:TOk P T) (hk:(T.at t).known=true) (w:World) (cs:Array Value) (off:Nat) (h:off+(T.at t).size<=cs.size):
  (part t cs off).run P w=.ok (valOf (T.at t).isAgg ((cs.toList.drop off).take (T.at t).size)) w:=by
 have d:=hT.isAgg hk w;have f:=hT.sizeOf hk w;simp only[part,Sem.run_bind,d,Result.andThen_ok];cases e:(T.at t).isAgg
 .have g:(T.at t).size=1:=by
   rcases hT.one hk with h|h
   all_goals simp_all
  have i:off<cs.size:=by omega
  simp_all [ay,valOf]
 .simp only[if_true,Sem.run_bind,f,Result.andThen_ok,Sem.run_pure,valOf];congr 2
  grind
theorem Em (hT:TOk P T): ∀(n:Nat) (t:TypeId),T.eqOk n t=true-> ∀(y:Ty),(T.at t).ty=a6 y-> ∀(x j:y.den) (l m:List Value),fZ c.w c.free y x l->fZ c.w c.free y j m->
  ∀(w:World) (d:Nat),n<=d->(Op.equalIn d t (valOf (T.at t).isAgg l) (valOf (T.at t).isAgg m)).run P w=.ok (y.same x j) w
 |0,_,h,_,_,_,_,_,_,_,_,_,_,_=>by simp[TT.eqOk]at h
 |n+1,t,h,y,z,x,j,l,m,W,X,w,d,hd=>by
  obtain⟨d,rfl⟩: ∃e,d=e+1:=⟨d-1,by omega⟩;simp only[TT.eqOk,af]at h;obtain⟨hk,h⟩:=h;have i:(T.at t).ty=mG T (T.at t).k:=by
   rcases(hT t hk).2.2.1 with g|g
   all_goals simp_all
  cases hkk:(T.at t).k with
  |bool=>
   rw[z,hkk]at i;simp only[mG,Option.some.injEq]at i;subst i;obtain⟨Y,o,q⟩:=hT.und hk;rw[hkk]at q;cases Y<;>simp[lG]at q;simp_all [fZ,TI.isAgg,valOf,run_equalIn_bool,Ty.same]
  |int k=>
   rw[z,hkk]at i;simp only[mG,Option.some.injEq]at i;subst i;have o:=hT.int hk hkk;simp_all [fZ,TI.isAgg,valOf,run_equalIn_int,Ty.same]
  |str=>
   rw[z,hkk]at i;simp only[mG,Option.some.injEq]at i;subst i;have o:=hT.str hk hkk;simp_all [fZ,TI.isAgg,valOf,run_equalIn_string,Ty.same]
  |struct fs=>
   rw[hkk]at h;simp only[af]at h;obtain⟨K,L⟩:=h;have M:(T.at t).isAgg=true:=by simp[TI.isAgg,hkk]
   rw[z,hkk]at i;simp only[mG]at i;obtain⟨G,o,q⟩:=hT.struct hk hkk;obtain⟨_,N,I⟩:=(hT t hk).2.2.2.2.2.1 K;rw[o]at I;simp only[Option.map_some,Option.some.injEq]at I;have J:P.fieldsOf t=G:=by simp[Program.fieldsOf,o]
   simp only[valOf,M,if_true];rw[run_equalIn_struct w d t _ _ (by rw[J];exact o) N,J];clear J N o z;rw[<-q]at i L;generalize G.toList=p at*;clear q G hkk K M hk;have Z: ∀(p:List Field) (s:Nat) (y:Ty) (x j:y.den) (l m u v:List Value),kw T s (p.map fun f=>(f.offset,f.type))=a6 y->(p.map fun f=>(f.offset,f.type)).all (fun f=>T.eqOk n f.2)=true->
     (p.all fun f=>f.name != "_")=true->fZ c.w c.free y x l->fZ c.w c.free y j m->u.length=s->v.length=s->
     (Op.eqFields d (u++l).toArray (v++m).toArray p).run P w=.ok (y.same x j) w:=by
    intro p
    induction p with
    |nil=>
     intro s y x j l m u v g _ _ A B _ _;simp only[List.map_nil,kw,Option.some.injEq]at g;subst g;rfl
    |cons f p ih=>
     intro s y x j l m u v g A B h4 h5 h6 h7;simp only[ax,kw]at g;split at g
     .rename_i ab
      split at g
      .rename_i a ha
       split at g
       .rename_i O
        split at g
        .rename_i b hb
         cases g;simp only[ax,aY,af]at A B;obtain⟨D,S,o,q,e3⟩:=h4;obtain⟨E,U,e4,V,e6⟩:=h5;subst o;subst e4;have ad:=fZ.length _ _ _ q;have ae:=fZ.length _ _ _ V;have n1:(f.name≠ "_"):=by simpa using B.1
         have p1:(part f.type (u++(D++S)).toArray f.offset).run P w=.ok (valOf (T.at f.type).isAgg D) w:=by
          rw[O0 hT O.2 w _ _ (by simp;omega)];simp_all
         have p2:(part f.type (v++(E++U)).toArray f.offset).run P w=.ok (valOf (T.at f.type).isAgg E) w:=by
          rw[O0 hT O.2 w _ _ (by simp;omega)];simp_all
         have p3:=Em hT n f.type A.1 a ha x.1 j.1 D E q V w d (by omega);simp only[Op.eqFields,am n1,Sem.run_bind,p1,p2,p3,Result.andThen_ok,Ty.same];cases a.same x.1 j.1
         .simp
         .simp only[ak,ag,if_false,aG];have:=ih (s+a.size) b x.2 j.2 S U (u++D) (v++E) hb A.2 B.2 e3 e6 (by simp;omega) (by simp;omega);simpa using this
        .cases g
       .cases g
      .cases g
     .cases g
   have:=Z p 0 y x j l m [] [] i.symm L I W X rfl rfl;simpa using this
  |_=>simp_all
theorem afL (w:World) (d:BinOp) (a b:List UInt8) (h:d=.eql\/d=.neq\/d=.lss\/d=.leq\/d=.gtr\/d=.geq):
  ∃u,dn c (abI d a b) u/\ ∀w,(Op.stringOp d ⟨a.toArray⟩ ⟨b.toArray⟩).run P w=.ok u w:=by
 rcases h with rfl|rfl|rfl|rfl|rfl|rfl<;>
  exact⟨_,by simp only[abI,dn];exact VD.bool_mk,fun w=>by simp[Op.stringOp,gm,ltS]⟩
theorem nP (d:BinOp) (t:TypeId) (ox oy:Operand) (x y:Value) (w:World) (h:x.oneCell'=true) (h2:x≠ .nilIface):(eqGuard d t ox oy x y).run P w=.ok () w:=by
 unfold eqGuard;cases x<;>first
  |(simp[Value.oneCell']at h;done)
  |exact absurd rfl h2
  |(cases d<;>simp)
theorem IG {y:Ty} {v:di} {x:y.den} (h:v.as [] y=a6 x) (d:y.isAgg=true) {u:Value} (f:dn c v u): ∃cs,u=.agg cs/\fZ c.w c.free y x cs.toList:=by
 cases v with
 |val t' z=>
  grind [di.as,nM,dn,VD.agg]
 |nils=>cases y<;>simp_all [di.as,Ty.isAgg]
 |emp=>cases y<;>simp_all [di.as,Ty.isAgg]
 |lst t' z b=>
  simp only[di.as]at h;obtain⟨e,_⟩:=nM h;subst e;cases d
 |slc id ver j=>cases y<;>simp_all [di.as,Ty.isAgg]
 |agg l=>
  simp only[di.as,d,aa]at h;simp only[dn]at f;obtain⟨g,rfl,i,_⟩:=f;exact⟨g,rfl,qm h i⟩
 |_=>simp[di.as]at h
theorem aNW (hT:TOk P T) {f:BinOp} {ox oy:Operand} {x y:di} {D E:Value} {K:di->Option R} (h:agE T f t x y K=a6 r) (hx:dn c x D) (i:dn c y E):
  ∃z u,K z=a6 r/\dn c z u/\ ∀w,(do eqGuard f t ox oy D E;binOp f t D E:Sem Value).run P w=.ok u w:=by
 unfold agE at h;split at h
 .
  rename_i k a U b
  simp only[dn]at hx i;obtain rfl:=hx.int_inv;obtain rfl:=i.int_inv;split at h
  .rename_i hk
   subst hk;have l: ∀w,(eqGuard f t ox oy (.int k a) (.int k b)).run P w=.ok () w:=fun w=>nP f t ox oy _ _ w rfl (by simp);cases f<;>simp only[reduceCtorEq]at h
   case quo=>
    replace h:=gX h;obtain⟨g,h⟩:=h;have g:b≠0:=by simpa [bZ] using g
    exact⟨_,_,h,by simp only[dn];exact VD.int_mk,fun w=>by simp_all [binOp,Op.intDiv,aMM]⟩
   case rem=>
    replace h:=gX h;obtain⟨g,h⟩:=h;have g:b≠0:=by simpa [bZ] using g
    exact⟨_,_,h,by simp only[dn];exact VD.int_mk,fun w=>by simp_all [binOp,Op.intDiv]⟩
   case add=>exact⟨_,_,h,by simp only[BB,dn];exact VD.int_mk,fun w=>by simp_all [binOp,Op.intArith,bY]⟩
   case sub=>exact⟨_,_,h,by simp only[BB,dn];exact VD.int_mk,fun w=>by simp_all [binOp,Op.intArith,dV]⟩
   case mul=>exact⟨_,_,h,by simp only[BB,dn];exact VD.int_mk,fun w=>by simp_all [binOp,Op.intArith,ass]⟩
   case eql=>exact⟨_,_,h,by simp only[BB,dn];exact VD.bool_mk,fun w=>by simp_all [binOp,Op.intCmp,bZ]⟩
   case neq=>exact⟨_,_,h,by simp only[BB,dn];exact VD.bool_mk,fun w=>by simp_all [binOp,Op.intCmp,bZ,bne]⟩
   case lss=>exact⟨_,_,h,by simp only[BB,dn];exact VD.bool_mk,fun w=>by simp_all [binOp,Op.intCmp,gU]⟩
   case leq=>exact⟨_,_,h,by simp only[BB,dn];exact VD.bool_mk,fun w=>by simp_all [binOp,Op.intCmp,leI]⟩
   case gtr=>exact⟨_,_,h,by simp only[BB,dn];exact VD.bool_mk,fun w=>by simp_all [binOp,Op.intCmp,gU]⟩
   case geq=>exact⟨_,_,h,by simp only[BB,dn];exact VD.bool_mk,fun w=>by simp_all [binOp,Op.intCmp,leI]⟩
   case and=>exact⟨_,_,h,by simp only[dn];exact VD.int_mk,fun w=>by simp_all [binOp,Op.intBits,auh]⟩
   case or=>exact⟨_,_,h,by simp only[dn];exact VD.int_mk,fun w=>by simp_all [binOp,Op.intBits,auh]⟩
   case xor=>exact⟨_,_,h,by simp only[dn];exact VD.int_mk,fun w=>by simp_all [binOp,Op.intBits,auh]⟩
   case andNot=>exact⟨_,_,h,by simp only[dn];exact VD.int_mk,fun w=>by simp_all [binOp,Op.intBits,auh]⟩
   case shl=>
    obtain⟨g,h⟩:=gX h;have g: ¬b<0:=by simpa [leI] using g
    exact⟨_,_,h,by simp only[dn];exact VD.int_mk,fun w=>by simp[Sem.run_bind,l,binOp,Op.shift,g,aFq]⟩
   case shr=>
    obtain⟨g,h⟩:=gX h;have g: ¬b<0:=by simpa [leI] using g
    exact⟨_,_,h,by simp only[dn];exact VD.int_mk,fun w=>by simp[Sem.run_bind,l,binOp,Op.shift,g,aFr]⟩
  .have l: ∀w,(eqGuard f t ox oy (.int k a) (.int U b)).run P w=.ok () w:=fun w=>nP f t ox oy _ _ w rfl (by simp);split at h
   .obtain⟨g,h⟩:=gX h;have g: ¬b<0:=by simpa [leI] using g
    exact⟨_,_,h,by simp only[dn];exact VD.int_mk,fun w=>by simp[Sem.run_bind,l,binOp,Op.shift,g,aFq]⟩
   .obtain⟨g,h⟩:=gX h;have g: ¬b<0:=by simpa [leI] using g
    exact⟨_,_,h,by simp only[dn];exact VD.int_mk,fun w=>by simp[Sem.run_bind,l,binOp,Op.shift,g,aFr]⟩
   .cases h
 .
  rename_i a b
  simp only[dn]at hx i;obtain rfl:=hx.bool_inv;obtain rfl:=i.bool_inv;replace h:=dN h;obtain⟨hk,h⟩:=h;have l: ∀w,(eqGuard f t ox oy (.bool a) (.bool b)).run P w=.ok () w:=fun w=>nP f t ox oy _ _ w rfl (by simp);have v:(T.at t).k=.bool->P.underlying t=a6 .bool:=fun e=>by
   obtain⟨d,o,p⟩:=hT.und hk;rw[e]at p;cases d<;>simp[lG]at p;exact o
  split at h
  .rename_i e
   have o:=v e;exact⟨_,_,h,by simp only[dn];exact VD.bool_mk,fun w=>by simp_all [binOp,Op.equal,Op.maxDepth,run_equalIn_bool]⟩
  .rename_i e
   have o:=v e;exact⟨_,_,h,by simp only[dn];exact VD.bool_mk,fun w=>by simp_all [binOp,Op.equal,Op.maxDepth,run_equalIn_bool]⟩
  .cases h
 .
  rename_i a b
  simp only[dn]at hx i;obtain rfl:=hx.str_inv;obtain rfl:=i.str_inv;have l: ∀w,(eqGuard f t ox oy (.string ⟨a.toArray⟩) (.string ⟨b.toArray⟩)).run P w=.ok () w:=fun w=>nP f t ox oy _ _ w rfl (by simp);have A:binOp f t (.string ⟨a.toArray⟩) (.string ⟨b.toArray⟩)=Op.stringOp f ⟨a.toArray⟩ ⟨b.toArray⟩:=by cases f<;>rfl
  have Y:(f=.eql\/f=.neq\/f=.lss\/f=.leq\/f=.gtr\/f=.geq)->K (abI f a b)=a6 r->
    ∃z u,K z=a6 r/\dn c z u/\ ∀w,(do eqGuard f t ox oy (.string ⟨a.toArray⟩) (.string ⟨b.toArray⟩);binOp f t (.string ⟨a.toArray⟩) (.string ⟨b.toArray⟩):Sem Value).run P w=.ok u w:=fun V Z=>by
   obtain⟨u,g,N⟩:=afL (P:=P) (c:=c) default f a b V
   grind [Sem.run_bind,Result.andThen_ok]
  cases f<;>simp only[reduceCtorEq]at h
  case add=>
   replace h:=gX h;obtain⟨g,h⟩:=h;refine⟨_,_,h,by simp only[dn];exact VD.str_mk,fun w=> ?_⟩;have g:a.length+b.length<=mD:=by simpa using g
   have N: ¬((a.length:Int)+(b.length:Int)>IntKind.i64.max):=by
    grind [IntKind.max,IntKind.bits,mD]
   have o:(⟨a.toArray⟩:ByteArray)++⟨b.toArray⟩=⟨(a++b).toArray⟩:=by
    rfl
   simp_all [ByteArray.size,Op.stringOp]
  all_goals simp_all
 .
  rename_i e xs b
  simp only[dn]at hx i;obtain⟨ab,s,n,m,rfl,rfl⟩:=hx;subst i;replace h:=dN h;obtain⟨hk,h⟩:=h;have l: ∀w,(eqGuard f t ox oy (.slice s n m) (.slice a7 0 0)).run P w=.ok () w:=fun w=>nP f t ox oy _ _ w rfl (by simp);have v: ∀j,(T.at t).k=.slice j->P.underlying t=a6 (.slice j):=fun j e=>by
   obtain⟨d,o,p⟩:=hT.und hk;rw[e]at p;cases d<;>simp[lG]at p;rw[o,p]
  have q: ∀j,(T.at t).k=.slice j-> ∀w,(Op.equal t (.slice s n m) (.slice a7 0 0)).run P w=.ok s.isNone w:=fun j e w=>by
   have o:=v j e;show(Op.equalIn (9999+1) t (.slice s n m) (.slice a7 0 0)).run P w=_;unfold Op.equalIn;rw[Sem.run_bind,run_underlying o,Result.andThen_ok];cases s<;>rfl
  split at h
  .rename_i j e
   exact⟨_,_,h,by simp only[dn];exact VD.bool_mk,fun w=>by simp_all [binOp]⟩
  .rename_i j e
   exact⟨_,_,h,by simp only[dn];exact VD.bool_mk,fun w=>by simp_all [binOp]⟩
  .cases h
 .
  rename_i h0 g N O
  cases q:T.eqOk 6 t
  .simp_all
  rw[q]at h;simp only[ak,ac]at h;split at h
  .rename_i fs G S I
   have W:(T.at t).isAgg=true:=by simp[TI.isAgg,S]
   have hk:(T.at t).known=true:=by simp_all [TT.eqOk]
   have B:G.isAgg=true:=by rw[hT.ty_agg hk I,W]
   have ad:P.eqGuardType P.depth t=false:=by
    simp only[TT.eqOk,af,S]at q;exact((hT t hk).2.2.2.2.2.1 q.2.1).1
   split at h
   .rename_i a b J A
    obtain⟨cs,rfl,L⟩:=IG J B hx;obtain⟨X,rfl,M⟩:=IG A B i;refine⟨_,_,h,by simp only[dn];exact VD.bool_mk,fun w=> ?_⟩;have O:=Em (P:=P) hT 6 t q G I a b _ _ L M w 10000 (by omega);simp_all [valOf,run_eqGuard_agg,run_eql_struct]
   .rename_i a b J A
    obtain⟨cs,rfl,L⟩:=IG J B hx;obtain⟨X,rfl,M⟩:=IG A B i;refine⟨_,_,h,by simp only[dn];exact VD.bool_mk,fun w=> ?_⟩;have O:=Em (P:=P) hT 6 t q G I a b _ _ L M w 10000 (by omega);simp_all [valOf,run_eqGuard_agg,run_neq_struct]
   .cases h
  .cases h
theorem azx {W0:World} (hT:TOk P T) (G:c.Ok W0) {i:BinOp} {ox oy:Operand} {x y:di} {o q:Value} {K:di->Option R} (h:Wj T c.hp i t x y K=a6 r) (hx:dn c x o) (l:dn c y q):
  ∃z u,K z=a6 r/\dn c z u/\ ∀w,(do eqGuard i t ox oy o q;binOp i t o q:Sem Value).run P w=.ok u w:=by
 unfold Wj at h;rw[cond_eq_ite]at h;split at h
 .rename_i f
  unfold aAw at f;split at f
  .split at f
   .split at f
    .rename_i id W I J L e v X D
     simp only[af,beq_iff_eq,TS,decide_eq_true_eq]at f;obtain⟨rfl,Y⟩:=f;simp only[dn]at hx l;subst l;have M:=(hx.2.2 _ _ _ D).2 rfl;obtain⟨_,Z,zs,N,_,_⟩:=G.obj id _ D;obtain⟨s,n,m,rfl⟩: ∃a n m,o=.slice (a6 a) n m:=by
      rcases N.2 with ⟨_,h0⟩|⟨g,ab,ad,E,_⟩
      .omega
      .cases I with
       |none=>simp_all [jv]
       |some O=>
        obtain⟨lo,hi⟩:=O;simp only[jv]at M
        grind
     obtain⟨hk,h⟩:=dN h;have S: ∀w,(eqGuard i t ox oy (.slice (a6 s) n m) (.slice a7 0 0)).run P w=.ok () w:=fun w=>nP i t ox oy _ _ w rfl (by simp);have U: ∀j,(T.at t).k=.slice j-> ∀w,(Op.equal t (.slice (a6 s) n m) (.slice a7 0 0)).run P w=.ok false w:=fun j e w=>by
      have p:P.underlying t=a6 (.slice j):=by
       obtain⟨d,p,A⟩:=hT.und hk;rw[e]at A;cases d<;>simp[lG]at A;rw[p,A]
      show(Op.equalIn (9999+1) t (.slice (a6 s) n m) (.slice a7 0 0)).run P w=_;unfold Op.equalIn;rw[Sem.run_bind,run_underlying p,Result.andThen_ok];rfl
     split at h
     .exact⟨_,_,h,by simp only[dn];exact VD.bool_mk,fun w=>by simp_all [binOp]⟩
     .exact⟨_,_,h,by simp only[dn];exact VD.bool_mk,fun w=>by simp_all [binOp]⟩
     .cases h
    .cases f
   .cases f
  .cases f
 .rw[cond_eq_ite]at h;split at h
  .rename_i f
   unfold azv at f;split at f
   .split at f
    .split at f
     .rename_i id B y0 J L bt cs V
      simp only[dn]at hx l;subst l;have E:=hx.2.2 _ _ V;subst E;obtain⟨hk,h⟩:=dN h;have S: ∀w,(eqGuard i t ox oy (.pointer (a6 ⟨(c.mu id).blk,B,a7⟩)) (.pointer a7)).run P w=.ok () w:=fun w=>nP i t ox oy _ _ w rfl (by simp);have U: ∀j,(T.at t).k=.ptr j-> ∀w,(Op.equal t (.pointer (a6 ⟨(c.mu id).blk,B,a7⟩)) (.pointer a7)).run P w=.ok false w:=fun j e w=>by
       have p:=hT.ptr hk e;show(Op.equalIn (9999+1) t (.pointer (a6 ⟨(c.mu id).blk,B,a7⟩)) (.pointer a7)).run P w=_;unfold Op.equalIn;simp_all [run_underlying]
      split at h
      .exact⟨_,_,h,by simp only[dn];exact VD.bool_mk,fun w=>by simp_all [binOp]⟩
      .exact⟨_,_,h,by simp only[dn];exact VD.bool_mk,fun w=>by simp_all [binOp]⟩
      .cases h
     .cases f
    .cases f
   .cases f
  .exact aNW hT h hx l
theorem aNX {d:UnOp} {x:di} {v:Value} {K:di->Option R} (h:awz d x K=a6 r) (hx:dn c x v):
  ∃z u,K z=a6 r/\dn c z u/\ ∀w,(Op.unary d v).run P w=.ok u w:=by
 unfold awz at h;split at h
 .simp only[dn]at hx;obtain rfl:=hx.bool_inv;exact⟨_,_,h,by simp only[dn];exact VD.bool_mk,fun w=>rfl⟩
 .simp only[dn]at hx;obtain rfl:=hx.int_inv;exact⟨_,_,h,by simp only[dn];exact VD.int_mk,fun w=>by rfl⟩
 .cases h
end
end
section
open Option renaming some → a6, none → a7
open Bool renaming and_eq_true → af, false_eq_true → ag
open Nat renaming le_refl → ae
open Go.RowKit
section
variable {P:Program} {T:TT} {W0:World} {c:Cx} {R:Type} {r:R} {t:TypeId}
theorem uN {v:di} {n:Int} (h:intOf v=a6 n) {u:Value} (d:dn c v u): ∃k,u=.int k n:=by
 cases v with
 |val t x=>
  cases t<;>simp only[intOf,reduceCtorEq]at h;cases h;simp only[dn]at d;exact⟨_,d.int_inv⟩
 |_=>simp[intOf]at h
def mV (c:Cx):Option di->Option Value->Prop
 |none,a7=>True
 |some v,a6 u=>dn c v u
 |_,_=>False
theorem mV.map {fr:List di} {a:Act} (h:bT c fr a.tmps.toList) (x:Option Operand):mV c (x.map (iF fr)) (x.map a.eval):=by
 cases x with
 |none=>trivial
 |some x=>exact eF h x
theorem mV.none_inv {u:Option Value} (h:mV c a7 u):u=a7:=by
 cases u with
 |none=>rfl
 |some _=>exact h.elim
theorem pX {d l:Int} {x:Option di} {u:Option Value} (h:bound d x=a6 l) (e:mV c x u):(u=a7/\l=d)\/ ∃k,u=a6 (.int k l):=by
 cases x with
 |none=>
  cases u with
  |none=>simp only[bound,Option.some.injEq]at h;simp_all
  |some _=>exact e.elim
 |some x=>
  cases u with
  |none=>exact e.elim
  |some u=>
   obtain⟨k,rfl⟩:=uN h e;simp
theorem rG {w:World} {isS:Bool} {n cap:Nat} {l h:Int} {lo hi:Option Value} (hl:(lo=a7/\l=0)\/ ∃k,lo=a6 (.int k l)) (d:(hi=a7/\h=(n:Int))\/ ∃k,hi=a6 (.int k h))
  (g:0<=l) (i:l<=h) (h2:h<=(n:Int)) (j:n<=cap):(Instr.sliceBounds isS n cap lo hi a7).run P w=.ok (l.toNat,h.toNat,cap) w:=by
 have e: ∀k code,(Instr.sliceBound (.int k h) cap code).run P w=.ok h.toNat w:=fun k code=>by
  simp only[Instr.sliceBound,asIntOf,Sem.run_bind,Sem.run_pure,Result.andThen_ok];rw[am ⟨by omega,by omega⟩];rfl
 have f: ∀k code,(Instr.sliceBound (.int k l) h.toNat code).run P w=.ok l.toNat w:=fun k code=>by
  simp only[Instr.sliceBound,asIntOf,Sem.run_bind,Sem.run_pure,Result.andThen_ok];rw[am ⟨by omega,by omega⟩];rfl
 rcases hl with ⟨rfl,rfl⟩|⟨k,rfl⟩<;>rcases d with ⟨rfl,rfl⟩|⟨m,rfl⟩<;>simp[Instr.sliceBounds,Sem.run_bind,e,f]
 simp_all
theorem Q3 {w:World} {n cap:Nat} {lo:Option Value} {q k:IntKind} (hl:(lo=a7/\(0:Int)=0)\/ ∃k,lo=a6 (.int k 0)):
  (Instr.sliceBounds true n cap lo (a6 (.int q 0)) (a6 (.int k 0))).run P w=.ok (0,0,0) w:=by
 have d: ∀k c code,(Instr.sliceBound (.int k 0) c code).run P w=.ok 0 w:=fun k c code=>by
  rfl
 rcases hl with ⟨rfl,_⟩|⟨e,rfl⟩<;>simp[Instr.sliceBounds,Sem.run_bind,d]
theorem L9 {n lo hi:Int} (h:dZ n lo hi=true):0<=lo/\lo<=hi/\hi<=n:=by
 simp_all [dZ]
theorem ML {d:Type} (l:List d) {lo hi:Int} (e:0<=lo) (h2:lo<=hi) (f:hi<=(l.length:Int)):(sub l lo hi).length=hi.toNat-lo.toNat:=by
 grind [sub]
theorem tZ {e:Ty} {xs:List e.den} {v:Value} (h:VD c (.list e) xs v): ∃a n d,v=.slice a xs.length n/\xs.length<=n/\gW (fZ c.w c.free e) e.size xs d/\(d=[]\/ ∃b off,a=a6 ⟨b,off,a7⟩/\c.free b/\iH c.w b off d):=by
 obtain⟨a,n,d,f,g,i,j⟩:=h.2 rfl
 grind
theorem VD.sub_list {e:Ty} {xs:List e.den} {a:Option Addr} {n:Nat} {d:List Value} (h2:xs.length<=n) (g:gW (fZ c.w c.free e) e.size xs d) (f:d=[]\/ ∃b off,a=a6 ⟨b,off,a7⟩/\c.free b/\iH c.w b off d)
  {l h:Int} (i:0<=l) (j:l<=h) (m:h<=(xs.length:Int)):
  VD c (.list e) (sub xs l h) (.slice (if n=l.toNat then a else a.map (·.add (l.toNat*e.size))) (h.toNat-l.toNat) (n-l.toNat)):=by
 refine(VD.leaf rfl).2 ⟨_,_,(d.take (h.toNat*e.size)).drop (l.toNat*e.size),by rw[ML xs i j m],by grind [ML],gW.drop _ _ _ (gW.take _ _ _ g), ?_⟩;by_cases hn:n=l.toNat
 .grind
 .rw[aq hn];rcases f with f|⟨b,off,o,p,q⟩
  .left;rw[f];simp
  .right;refine⟨b,off+l.toNat*e.size,by rw[o];simp[kU],p, ?_⟩;have:=q.sub (l.toNat*e.size) (h.toNat*e.size-l.toNat*e.size)
   grind [List.drop_take]
theorem apg (hT:TOk P T) (ab:c.Ok W0) {x:di} {v:Value} {lo hi Y:Option di} {Z O A:Option Value} {K:di->Option R} (h:NF T c.hp t x lo hi Y K=a6 r) (hx:dn c x v)
  (J:mV c lo Z) (G:mV c hi O) (I:mV c Y A): ∃z u,K z=a6 r/\dn c z u/\ ∀w,(Instr.sliceAt t v Z O A).run P w=.ok u w:=by
 unfold NF at h;split at h
 .rename_i s
  split at h
  .rename_i l p f i
   replace h:=gX h;obtain⟨d,h⟩:=h;simp only[af]at d;obtain⟨B,D,j⟩:=L9 d.2;simp only[dn]at hx;obtain rfl:=hx.str_inv;have E:A=a7:=mV.none_inv I;subst E;have m:=IY hT d.1;refine⟨_,.string ⟨(sub s l p).toArray⟩,h,by simp only[dn];exact VD.str_mk,fun w=> ?_⟩;have hs:(⟨s.toArray⟩:ByteArray).size=s.length:=by rfl
   have o:=rG (P:=P) (w:=w) (isS:=false) (cap:=s.length) (pX f J) (pX i G) B D j (ae _);have he:(⟨s.toArray⟩:ByteArray).extract l.toNat p.toNat=⟨(sub s l p).toArray⟩:=by
    apply ByteArray.ext;simp_all [sub,List.drop_take]
   simp only[Instr.sliceAt,Instr.slice,Sem.run_bind,run_underlying m,Result.andThen_ok,Option.isSome_none,ag,if_false,hs,o,Sem.run_pure,he]
  .cases h
 .rename_i e y
  split at h
  .rename_i l p f i
   replace h:=gX h;obtain⟨d,h⟩:=h;simp only[af]at d;obtain⟨B,D,j⟩:=L9 d.2;simp only[bM]at j;simp only[dn]at hx;obtain⟨a,n,zs,rfl,S,h3,h4⟩:=tZ hx;have E:A=a7:=mV.none_inv I;subst E;obtain⟨U,m,hk,M,_,_⟩:=nD hT d.1;refine⟨_,_,h,by simp only[dn];exact VD.sub_list S h3 h4 B D j,fun w=> ?_⟩;have o:=rG (P:=P) (w:=w) (isS:=true) (n:=y.length) (cap:=n) (pX f J) (pX i G) B D j S;simp only[Instr.sliceAt,Instr.slice,Sem.run_bind,run_underlying m,Result.andThen_ok,o,hT.sizeOf hk w,Sem.run_pure,M]
  .cases h
 .rename_i e y mv
  split at h
  .rename_i l p k f i ad
   replace h:=gX h;obtain⟨d,h⟩:=h;simp only[af,beq_iff_eq]at d;obtain⟨d,rfl,rfl,rfl⟩:=d;simp only[dn]at hx;obtain⟨a,n,zs,rfl,S,h3,h4⟩:=tZ hx;obtain⟨U,m,hk,M,_,_⟩:=nD hT d;obtain⟨N,rfl,ah⟩:=Option.bind_eq_some_iff.1 i;cases hmx':A with
   |none=>simp_all [mV]
   |some m2=>
    rw[hmx']at I;cases hhi':O with
    |none=>simp_all [mV]
    |some ai=>
     rw[hhi']at G;obtain⟨q,rfl⟩:=uN ah (show dn c N ai from G);obtain⟨k',rfl⟩:=uN ad (show dn c mv m2 from I);refine⟨_,.slice a 0 0,h,by simp only[dn];exact⟨a,rfl⟩,fun w=> ?_⟩;have o:=Q3 (P:=P) (w:=w) (n:=y.length) (cap:=n) (q:=q) (k:=k') (pX f J);simp only[Instr.sliceAt,Instr.slice,Sem.run_bind,run_underlying m,Result.andThen_ok,o,hT.sizeOf hk w,Sem.run_pure];simp
  .cases h
 .split at h
  .rename_i l p f i
   replace h:=gX h;obtain⟨d,h⟩:=h;simp only[af,bZ,beq_iff_eq]at d;obtain⟨d,rfl,rfl⟩:=d;simp only[dn]at hx;subst hx;have E:A=a7:=mV.none_inv I;subst E;obtain⟨U,m,hk,M,_,_⟩:=nD hT d;refine⟨_,.slice a7 0 0,h,by simp only[dn],fun w=> ?_⟩;have o:=rG (P:=P) (w:=w) (isS:=true) (n:=0) (cap:=0) (pX f J) (pX i G) (Int.le_refl _) (Int.le_refl _) (Int.le_refl _) (ae _);simp only[Instr.sliceAt,Instr.slice,Sem.run_bind,run_underlying m,Result.andThen_ok,o,hT.sizeOf hk w,Sem.run_pure];simp
  .cases h
 .rename_i id aj
  split at h
  .rename_i e u y V
   replace h:=dN h;obtain⟨W,h⟩:=h;have W:u=aj:=by simpa using W
   subst W;split at h
   .rename_i l p f i
    replace h:=gX h;obtain⟨d,h⟩:=h;simp only[af]at d;obtain⟨B,D,j⟩:=L9 d.2;simp only[bM]at j;simp only[dn]at hx;have X:=(hx.2.2 _ _ _ V).2 rfl;simp only[jv]at X;have E:A=a7:=mV.none_inv I;subst E;obtain⟨U,m,hk,M,_,_⟩:=nD hT d.1;obtain⟨_,e',zs,ak,hL,al⟩:=ab.obj id _ V;obtain⟨a,n,N,hn⟩: ∃a n,(c.mu id).v=.slice a y.length n/\y.length<=n:=by
     rcases ak.2 with ⟨e1,e2⟩|⟨g,L,an,e1,_,_,e2,_⟩
     all_goals grind
    rw[N]at X;subst X;refine⟨_,.slice (if n=l.toNat then a else a.map (·.add (l.toNat*e.size))) (p.toNat-l.toNat) (n-l.toNat),h, ?_,fun w=> ?_⟩
    .simp only[dn];refine⟨rfl,hx.2.1,fun t' u' ao h'=> ?_⟩;rw[V]at h';cases h';exact⟨ae _,fun _=>⟨a,y.length,n,N,B,D,j,rfl⟩⟩
    .have o:=rG (P:=P) (w:=w) (isS:=true) (n:=y.length) (cap:=n) (pX f J) (pX i G) B D j hn;simp only[Instr.sliceAt,Instr.slice,Sem.run_bind,run_underlying m,Result.andThen_ok,o,hT.sizeOf hk w,Sem.run_pure,M]
   .cases h
  .cases h
 .cases h
end
end
section
open Option renaming some → a6, none → a7
open Bool renaming and_eq_true → af
open List renaming append_assoc → ah, map_cons → ax, drop_of_length_le → aB, nil_append → aH, length_cons → aS, mem_of_mem_take → bF
open Go.RowKit
section
variable {P:Program} {T:TT} {W0:World} {c:Cx} {R:Type} {r:R} {t:TypeId}
theorem WQ {d:Type} {l:List d} {i:Int} (h:fO l i=true):0<=i/\i<(l.length:Int)/\i.toNat<l.length:=by
 simp_all [fO]
theorem aDq {e:Type} {l:List e} {d:e} {i:Int} (h:i.toNat<l.length):dQ l d i=l[i.toNat]:=by grind [dQ]
theorem Fj (hT:TOk P T) {e:TypeId} (d:P.underlying t=a6 (.slice e)) (hk:(T.at e).known=true) (w:World) (a:Addr) (n cp:Nat) (k:IntKind) (i:Int) (f:0<=i) (g:i<(n:Int)):
  (Instr.indexAt t (.slice (a6 a) n cp) (.int k i)).run P w=.ok (.pointer (a6 (a.add (i.toNat*(T.at e).size)))) w:=by
 simp only[Instr.indexAt,asIntOf,Sem.run_bind,Sem.run_pure,Result.andThen_ok,run_underlying d];rw[am ⟨f,g⟩];simp[Sem.run_bind,hT.sizeOf hk w]
theorem Tf (hT:TOk P T) (S:c.Ok W0) {x i:di} {v G:Value} {K:di->Option R} (h:wQ T c.hp t x i K=a6 r) (hx:dn c x v) (hi:dn c i G):
  ∃z u,K z=a6 r/\dn c z u/\ ∀w,(Instr.indexAt t v G).run P w=.ok u w:=by
 unfold wQ at h;split at h
 .cases h
 rename_i n U
 obtain⟨k,rfl⟩:=uN U hi;split at h
 .rename_i e I
  replace h:=gX h;obtain⟨f,h⟩:=h;simp only[af]at f;obtain⟨q,s,y⟩:=WQ f.2;simp only[dn]at hx;obtain⟨a,cp,A,rfl,h2,V,B⟩:=tZ hx;obtain⟨J,l,hk,o,L,_⟩:=nD hT f.1;obtain⟨d,d1,W,l1,l2,d3,d4⟩:=gW.at_ n.toNat I A y V;have X:A≠[]:=by
   intro e0;simp_all
  rcases B with B|⟨b,Y,Z,h6,h7⟩
  .exact absurd B X
  .refine⟨_,.pointer (a6 ⟨b,Y+n.toNat*e.size,a7⟩),h, ?_,fun w=> ?_⟩
   .simp only[dn];refine⟨b,_,d,rfl,h6, ?_,by rw[aDq y];exact W⟩;simp_all [iH.append]
   .rw[Z,Fj hT l hk w _ _ _ _ _ q s,o,kU]
 .rename_i id ab vw
  split at h
  .rename_i e u I M
   replace h:=dN h;obtain⟨D,h⟩:=h;have D:u=ab:=by simpa using D
   subst D;simp only[dn]at hx;have j:=(hx.2.2 _ _ _ M).2 rfl;obtain⟨_,e',A,N,hL,ai⟩:=S.obj id _ M;split at h
   .replace h:=gX h;obtain⟨f,h⟩:=h;simp only[af]at f;obtain⟨q,s,y⟩:=WQ f.2;obtain⟨J,l,hk,o,L,_⟩:=nD hT f.1;simp only[jv]at j;rcases N.2 with ⟨p,E⟩|⟨g,ad,ae,p,_,_,E,_⟩
    .omega
    .rw[p]at j;subst j;refine⟨_,.pointer (a6 ⟨g,n.toNat*e.size,a7⟩),h, ?_,fun w=> ?_⟩
     .simp only[dn];refine⟨rfl,hx.2.1,fun t' u' ag h'=> ?_⟩;simp_all
     .rw[Fj hT l hk w _ _ _ _ _ q s,o,kU,Nat.zero_add]
   .rename_i lo aj
    replace h:=gX h;obtain⟨f,h⟩:=h;simp only[af,decide_eq_true_eq,gU]at f;obtain⟨J,l,hk,o,L,_⟩:=nD hT f.1;simp only[jv]at j;obtain⟨a,m,cp,O,q1,q2,q3,j⟩:=j;rcases N.2 with ⟨p,E⟩|⟨g,ad,ae,p,_,_,E,_⟩
    .grind
    .rw[p]at O;cases O;rw[aq (by omega)]at j;subst j;refine⟨_,.pointer (a6 ⟨g,(lo+n).toNat*e.size,a7⟩),h, ?_,fun w=> ?_⟩
     .simp only[dn];refine⟨rfl,hx.2.1,fun t' u' ag h'=> ?_⟩;simp_all
     .simp only[Option.map_some];rw[Fj hT l hk w _ _ _ _ _ f.2.1 (by omega),o,kU,kU,Nat.zero_add,<-Nat.add_mul]
      grind
  .cases h
 .cases h
theorem apf (hT:TOk P T) {i:di} {s:List UInt8} {n:Int} {v d:Value} (hx:dn c (.val .str s) v) (hi:dn c i d) (e:intOf i=a6 n) (h:(T.isStr t&&fO s n)=true):
  dn c (.val (.int .u8) (cO s n)) (.int .u8 (cO s n))/\ ∀w,(Instr.index t v d).run P w=.ok (.int .u8 (cO s n)) w:=by
 simp only[af]at h;obtain⟨f,l,m⟩:=WQ h.2;simp only[dn]at hx;obtain rfl:=hx.str_inv;obtain⟨k,rfl⟩:=uN e hi;have g:=IY hT h.1;refine⟨by simp only[dn];exact VD.int_mk,fun w=> ?_⟩;have j:(⟨s.toArray⟩:ByteArray)[n.toNat]? =a6 s[n.toNat]:=by
  have:n.toNat<(⟨s.toArray⟩:ByteArray).size:=by assumption
  rw[getElem?_pos (⟨s.toArray⟩:ByteArray) n.toNat this];rfl
 simp only[Instr.index,asIntOf,Sem.run_bind,Sem.run_pure,Result.andThen_ok,run_underlying g,am f,j]
 grind [cO]
theorem En (hT:TOk P T) {f off:Nat} {d:TypeId} (h:T.fieldAt t f=a6 (off,d)): ∃e g i,(T.at t).k=.struct e/\e[f]? =a6 (off,d)/\(T.at t).known=true/\(T.at d).known=true/\0<(T.at d).size/\
  P.underlying t=a6 (.struct g)/\g[f]? =a6 i/\i.offset=off/\i.type=d:=by
 unfold TT.fieldAt at h;split at h
 .rename_i e j
  replace h:=dN h;obtain⟨hk,h⟩:=h;split at h
  .rename_i o p q
   replace h:=dN h;obtain⟨l,m⟩:=h;cases m;simp only[af,TS,decide_eq_true_eq]at l;obtain⟨g,s,u⟩:=hT.struct hk j
   grind
  .cases h
 .cases h
theorem Qe (hT:TOk P T): ∀(j:List (Nat×TypeId)) (o:Nat) (y:Ty),kw T o j=a6 y-> ∀(f off:Nat) (e:TypeId),j[f]? =a6 (off,e)-> ∀(x:y.den) (cs:List Value),fZ c.w c.free y x cs->
  ∃(a:Ty) (z:a.den) (g i p:List Value),ab5 y x f=.val a z/\Wp y x f=.cellp a z/\(T.at e).ty=a6 a/\a.size=(T.at e).size/\cs=g++i++p/\o+g.length=off/\fZ c.w c.free a z i
 |[],_,_,_,f,_,_,h,_,_,_=>by simp at h
 |(O,S)::j,o,y,d,f,off,e,l,x,cs,hd=>by
  simp only[kw]at d;split at d
  .rename_i U
   split at d
   .rename_i a q
    split at d
    .rename_i s
     split at d
     .rename_i b u
      cases d;obtain⟨g,i,m,v,A⟩:=hd;cases f with
      |zero=>
       simp only[List.getElem?_cons_zero,Option.some.injEq,Prod.mk.injEq]at l;obtain⟨rfl,rfl⟩:=l;exact⟨a,x.1,[],g,i,rfl,rfl,q,s.1,by simpa using m,by simp;omega,v⟩
      |succ f=>
       simp only[List.getElem?_cons_succ]at l;obtain⟨B,z,D,E,G,I,J,K,L,M,V,N⟩:=Qe hT j (o+a.size) b u f off e l x.2 i A;refine⟨B,z,g++D,E,G,I,J,K,L,by rw[m,M];simp, ?_,N⟩
       grind [fZ.length]
     .cases d
    .cases d
   .cases d
  .cases d
theorem Fh (hT:TOk P T) {f off:Nat} {e:TypeId} (h:T.fieldAt t f=a6 (off,e)) (w:World) (b o:Nat):
  (Instr.fieldAt t (.pointer (a6 ⟨b,o,a7⟩)) f).run P w=.ok (.pointer (a6 ⟨b,o+off,a7⟩)) w:=by
 obtain⟨q,s,g,u,v,hk,i,x,j,l,m,d⟩:=En hT h;have p:=hT.sizeOf (t:=g.type) (by rw[d];exact i) w;simp only[Instr.fieldAt,Sem.run_bind,run_underlying j,Result.andThen_ok,l,Instr.sureAddr,Sem.run_pure,fieldPlace,p,Sem.run_ite];rw[aq (by rw[d];omega)];simp[kU,m]
theorem abo (hT:TOk P T) (hk:(T.at t).known=true) {e:List (Nat×TypeId)} (f:(T.at t).k=.struct e) {y:Ty} (g:(T.at t).ty=a6 y):kw T 0 e=a6 y:=by
 rcases(hT t hk).2.2.1 with d|d
 .simp_all
 .rw[g,f]at d;exact d.symm
theorem Td (hT:TOk P T) {x:di} {f:Nat} {v:Value} {K:di->Option R} (h:wP T c.hp t x f K=a6 r) (hx:dn c x v):
  ∃z u,K z=a6 r/\dn c z u/\ ∀w,(Instr.fieldAt t v f).run P w=.ok u w:=by
 unfold wP at h;split at h
 .rename_i d s j
  obtain⟨A,N,O,B,D,hk,S,U,V,W,X,Y⟩:=En hT j;split at h
  .rename_i u y
   split at h
   .rename_i E G
    split at h
    .rename_i z l
     have e:=iV l;subst e;rw[ik]at l;cases l;simp only[dn]at hx;obtain⟨b,o,Z,rfl,hb,p,hd⟩:=hx;obtain⟨a,z,l1,l2,l3,g1,g2,g3,g4,g5,g6,g7⟩:=Qe hT A 0 u (abo hT hk B G) f d s D _ _ hd;refine⟨_,.pointer (a6 ⟨b,o+d,a7⟩),h, ?_,fun w=>Fh hT j w b o⟩;rw[g2];simp only[dn];rw[g5,ah]at p;have:=(iH.append.1 (iH.append.1 p).2).1
     grind
    .cases h
   .cases h
  .rename_i id o
   split at h
   .rename_i bt cs I
    simp only[dn]at hx;have q:=hx.2.2 _ _ I;subst q;refine⟨_,.pointer (a6 ⟨(c.mu id).blk,o+d,a7⟩),h, ?_,fun w=>Fh hT j w _ o⟩;simp only[dn];exact⟨rfl,hx.2.1,fun _ _ _=>trivial⟩
   .cases h
  .rename_i id J i o
   split at h
   .rename_i e u xs L
    replace h:=dN h;obtain⟨m,h⟩:=h;have m:u=J:=by simpa using m
    subst m;simp only[dn]at hx;obtain⟨g,n,cp,q,M⟩:=(hx.2.2 _ _ _ L).2 rfl;subst M;refine⟨_,.pointer (a6 ⟨g,i*e.size+o+d,a7⟩),h, ?_,fun w=>Fh hT j w _ _⟩;simp only[dn];refine⟨rfl,hx.2.1,fun t' E ab h'=> ?_⟩
    grind
   .cases h
  .cases h
 .cases h
theorem ape (hT:TOk P T) {x:di} {f:Nat} {v:Value} {K:di->Option R} (h:ND T t x f K=a6 r) (hx:dn c x v):
  ∃z u,K z=a6 r/\dn c z u/\ ∀w,(Instr.field t v f).run P w=.ok u w:=by
 unfold ND at h;split at h
 .rename_i g d G
  obtain⟨I,W,o,p,J,hk,i,X,j,L,Y,M⟩:=En hT G;have N:(T.at t).isAgg=true:=by simp[TI.isAgg,p]
  split at h
  .rename_i u y
   split at h
   .rename_i Z q
    split at h
    .rename_i z m
     have e:=iV m;subst e;rw[ik]at m;cases m;simp only[dn]at hx;have s:=hT.ty_agg hk q;rw[N]at s;obtain⟨cs,rfl,hd⟩:=(VD.agg s).1 hx;obtain⟨a,z,l1,O,l3,g1,g2,g3,g4,g5,g6,S⟩:=Qe hT I 0 u (abo hT hk p q) f g d J _ _ hd;refine⟨_,valOf (T.at d).isAgg O,h, ?_,fun w=> ?_⟩
     .grind [dn,aiU]
     .have ab:=fZ.length _ _ _ S;have A:g+(T.at d).size<=cs.size:=by
       have:=congrArg List.length g5;simp at this;omega
      have B:=O0 (P:=P) hT (t:=o.type) (by rw[M];exact i) w cs o.offset (by simp_all);simp only[Instr.field,Sem.run_bind,run_underlying j,Result.andThen_ok,L,asAgg,Sem.run_pure,B];simp_all
    .cases h
   .cases h
  .rename_i l
   split at h
   .rename_i ad U
    obtain⟨q1,rfl⟩:=Eg U;simp only[dn]at hx;obtain⟨D,rfl,E,V⟩:=hx;have A:=bT.length _ _ E;simp at A;refine⟨_,valOf (T.at d).isAgg ((D.toList.drop g).take (T.at d).size),h,OV hT i (bT.take _ _ _ (bT.drop _ _ _ E)) (fun u j=>V u (List.mem_of_mem_drop (bF j))),fun w=> ?_⟩;have B:=O0 (P:=P) hT i w D g (by omega);simp_all [Instr.field,run_underlying,asAgg]
   .cases h
  .cases h
 .cases h
theorem q_len (hT:TOk P T) (A:c.Ok W0) {x:di} {v:Value} {K:di->Option R} (h:agG T c.hp t x K=a6 r) (hx:dn c x v) {ty:TypeId}:
  ∃z u,K z=a6 r/\dn c z u/\ ∀w,(Builtin.len_ #[t] ty #[v]).run P w=.ok u w:=by
 unfold agG at h;split at h
 .rename_i s
  replace h:=gX h;obtain⟨f,h⟩:=h;simp only[dn]at hx;obtain rfl:=hx.str_inv;have d:=IY hT f;refine⟨_,_,h,by simp only[dn];exact VD.int_mk,fun w=> ?_⟩;simp only[Builtin.len_,List.getElem?_toArray,List.getElem?_cons_zero,Sem.run_bind,run_underlying d,Result.andThen_ok,Sem.run_pure,goInt];congr 2
 .rename_i e j
  replace h:=gX h;obtain⟨f,h⟩:=h;simp only[dn]at hx;obtain⟨a,cp,B,rfl,L,M,N⟩:=tZ hx;obtain⟨o,d,hk,p,q,_⟩:=nD hT f;exact⟨_,_,h,by simp only[dn];exact VD.int_mk,fun w=>by simp[Builtin.len_,run_underlying d,goInt,bM]⟩
 .replace h:=gX h;obtain⟨f,h⟩:=h;simp only[dn]at hx;subst hx;obtain⟨o,d,hk,p,q,_⟩:=nD hT f;exact⟨_,_,h,by simp only[dn];exact VD.int_mk,fun w=>by simp[Builtin.len_,run_underlying d,goInt]⟩
 .rename_i id D O
  split at h
  .rename_i e u j y
   replace h:=dN h;obtain⟨l,h⟩:=h;have l:u=D:=by simpa using l
   subst l;replace h:=gX h;obtain⟨f,h⟩:=h;obtain⟨o,d,hk,p,q,_⟩:=nD hT f;simp only[dn]at hx;have i:=(hx.2.2 _ _ _ y).2 rfl;obtain⟨_,S,B,E,U,V⟩:=A.obj id _ y;obtain⟨a,n,G,W⟩: ∃a n,(c.mu id).v=.slice a j.length n/\j.length<=n:=by
    rcases E.2 with ⟨I,J⟩|⟨g,X,Y,I,_,_,J,_⟩
    all_goals grind
   split at h
   .simp only[jv]at i;rw[G]at i;subst i;exact⟨_,_,h,by simp only[dn];exact VD.int_mk,fun w=>by simp[Builtin.len_,run_underlying d,goInt,bM]⟩
   .rename_i lo Z
    simp only[jv]at i;obtain⟨a',m,cp,ab,q1,q2,q3,i⟩:=i;subst i;refine⟨_,_,h,by simp only[dn];exact VD.int_mk,fun w=> ?_⟩;simp only[Builtin.len_,List.getElem?_toArray,List.getElem?_cons_zero,Sem.run_bind,run_underlying d,Result.andThen_ok,Sem.run_pure,goInt]
    grind
  .cases h
 .cases h
theorem wF {k:IntKind}: ∀(l:List di) (e:List Int) (us:List Value),D8 k l=a6 e->bT c l us->us=e.map (.int k)
 |[],e,us,h,d=>by
  grind [D8,bT]
 |v::l,e,us,h,d=>by
  cases us with
  |nil=>simp[bT]at d
  |cons u us=>
   simp only[bT]at d;cases v with
   |val t x=>
    cases t<;>simp only[D8,reduceCtorEq]at h
    rename_i i
    split at h
    .rename_i hk
     subst hk;split at h
     .rename_i m g
      cases h;have f:=d.1;simp only[dn]at f;rw[f.int_inv,wF l m us g d.2];rfl
     .cases h
    .cases h
   |_=>simp[D8]at h
theorem X7 (w:World) (k:IntKind): ∀(d:List Int) (a:Int),((d.map (Value.int k)).foldlM Builtin.min2 (.int k a)).run P w=.ok (.int k (d.foldl LM a)) w
 |[],a=>rfl
 |n::d,a=>by
  simp only[ax,List.foldlM_cons,List.foldl_cons,Sem.run_bind,Builtin.min2,Sem.run_pure,Result.andThen_ok];exact X7 w k d (LM a n)
theorem X6 (w:World) (k:IntKind): ∀(d:List Int) (a:Int),((d.map (Value.int k)).foldlM Builtin.max2 (.int k a)).run P w=.ok (.int k (d.foldl EN a)) w
 |[],a=>rfl
 |n::d,a=>by
  simp only[ax,List.foldlM_cons,List.foldl_cons,Sem.run_bind,Builtin.max2,Sem.run_pure,Result.andThen_ok];exact X6 w k d (EN a n)
theorem ag8 (off:Nat): ∀(us:List Value) (k:Nat) (d:List Value),off+k+us.length<=d.length->
  (us.zipIdx k).foldl (fun cs p=>Array.setIfInBounds cs (off+p.2) p.1) d.toArray=(d.take (off+k)++us++d.drop (off+k+us.length)).toArray
 |[],k,d,h=>by simp
 |u::us,k,d,h=>by
  simp only[aS]at h;have e:=ag8 off us (k+1) (d.set (off+k) u) (by simp;omega);simp only[List.zipIdx_cons,List.foldl_cons];rw[show Array.setIfInBounds d.toArray (off+k) u=(d.set (off+k) u).toArray by simp,e];congr 1;have f:off+k<d.length:=by omega
  rw[List.set_eq_take_append_cons_drop,am f];have g: ∀(A B:List Value) (n m:Nat),A.length=n->(A++u::B).take (n+1)=A++[u]/\(A++u::B).drop (n+1+m)=B.drop m:=by
   intro A B n m i;constructor
   .grind
   .rw[List.drop_append,aB (by omega),i,aH,show n+1+m-n=m+1 by omega];rfl
  obtain⟨j,l⟩:=g (d.take (off+k)) (d.drop (off+k+1)) (off+k) us.length (by simp;omega);rw[show off+(k+1)=off+k+1 by omega,j,l];simp;congr 1;omega
theorem NT (off:Nat) (us:Array Value) (d:List Value) (h:off+us.size<=d.length):
  us.zipIdx.foldl (fun cs p=>Array.setIfInBounds cs (off+p.2) p.1) d.toArray=(d.take off++us.toList++d.drop (off+us.size)).toArray:=by
 rw[<-Array.foldl_toList,Array.toList_zipIdx];simp_all [ag8]
theorem agJ (hT:TOk P T) {s:List (Nat×TypeId)} {place:Nat->Option (Nat×Nat)} (hp: ∀i off p,s[i]? =a6 (off,p)->(T.at p).known=true->place i=a6 (off,(T.at p).size)):
  ∀(j:List (Nat×di)) (us:List (Nat×Value)) (cs l:List di) (d:List Value),NC T s cs j=a6 l->bT c cs d->(∀u∈d,u.oneCell'=true)->
   us.map (·.1)=j.map (·.1)->bT c (j.map (·.2)) (us.map (·.2))-> ∃m,Instr.fill place d.toArray us=a6 m.toArray/\bT c l m/\ ∀u∈m,u.oneCell'=true
 |[],us,cs,l,d,h,o,y,e,_=>by
  simp only[NC,Option.some.injEq]at h;subst h;cases us with
  |nil=>exact⟨d,rfl,o,y⟩
  |cons=>simp at e
 |(i,v)::j,us,cs,l,d,h,o,y,e,q=>by
  cases us with
  |nil=>simp at e
  |cons u us=>
   obtain⟨K,u⟩:=u;simp only[ax,List.cons.injEq]at e;obtain⟨rfl,e⟩:=e;simp only[ax,bT]at q;simp only[NC]at h;split at h
   .rename_i off p f B D
    replace h:=dN h;obtain⟨hk,h⟩:=h;simp only[af,beq_iff_eq]at hk;split at h
    .rename_i L g
     have E:=hp _ _ _ B hk.1;obtain⟨z,M⟩:=PV D q.1;have G:=bT.length _ _ z;have N:=bT.length _ _ o;unfold putCells at g;replace g:=dN g;obtain⟨A,g⟩:=g;have A:off+f.length<=cs.length:=by simpa using A
     cases g;have O:u.cells.size=f.length:=by simpa using G.symm
     have I:bT c (cs.take off++f++cs.drop (off+f.length)) (d.take off++u.cells.toList++d.drop (off+f.length)):=
      bT.append _ _ _ _ (bT.append _ _ _ _ (bT.take _ _ _ o) z) (bT.drop _ _ _ o)
     have J: ∀x∈d.take off++u.cells.toList++d.drop (off+f.length),x.oneCell'=true:=by
      grind
     obtain⟨m,g1,g2,g3⟩:=agJ hT hp j us _ l _ h I J e q.2;refine⟨m, ?_,g2,g3⟩;rw[<-g1];simp only[Instr.fill,E];rw[aq (by grind)]
     grind [NT]
    .cases h
   .cases h
end
end
section
open Option renaming some → a6, none → a7
open Bool renaming and_eq_true → af, false_eq_true → ag, not_true → ak
open List renaming map_cons → ax, nil_append → aH
open Go.RowKit
section
variable {P:Program} {T:TT} {W0:World} {c:Cx} {R:Type} {r:R} {t:TypeId}
theorem bT.map_eval {fr:List di} {a:Act} (h:bT c fr a.tmps.toList): ∀(xs:List Operand),bT c (xs.map (iF fr)) (xs.map a.eval)
 |[]=>by simp[bT]
 |x::xs=>by simp only[ax,bT];exact⟨eF h x,bT.map_eval h xs⟩
theorem QY {w:World} {B:Nat} {e:TypeId} {size n:Nat} {v:Value} {d:List Value} (h:w.ownsRow B e size v n d): ∃a cp,v=.slice a n cp/\n<=cp/\(d=[]\/ ∃g,a=a6 ⟨g,0,a7⟩/\g<w.heap.size/\B<=g/\iH w g 0 d):=by
 rcases h.2 with ⟨f,i⟩|⟨g,l,o,f,i,j,m,p,q,s⟩
 .refine⟨a7,0,by rw[f,i],by omega,.inl ?_⟩;have:=h.1;simp_all
 .refine⟨_,l,f,m,.inr ⟨g,rfl,(Array.getElem?_eq_some_iff.1 j).1,i, ?_⟩⟩;have:=(iH.of_block_cells j).sub 0 (n*size);simp_all
theorem ut {w:World} {B:Nat} {e:TypeId} {size n:Nat} {v:Value} {d:List Value} (h:w.ownsRow B e size v n d): ∃a cp,v=.slice a n cp/\n<=cp/\(d=[]\/ ∃g,a=a6 ⟨g,0,a7⟩/\g<w.heap.size/\iH w g 0 d):=by
 grind [QY]
theorem Yk (y:c.Ok W0) {x:di} {e:Ty} {A:List e.den} {u:Value} (h:x.as c.hp (.list e)=a6 A) (hx:dn c x u):
  ∃a cp d,u=.slice a A.length cp/\gW (fZ c.w c.free e) e.size A d/\(d=[]\/ ∃b off,a=a6 ⟨b,off,a7⟩/\b<c.w.heap.size/\ ¬c.bar b/\iH c.w b off d):=by
 cases x with
 |val J z=>
  simp only[di.as]at h;have e:=iV h;subst e;rw[ik]at h;cases h;simp only[dn]at hx;obtain⟨a,n,d,B,N,D,E⟩:=tZ hx;exact⟨a,n,d,B,D,E.imp id fun⟨b,off,f,i,o⟩=>⟨b,off,f,i.1,i.2.2.2,o⟩⟩
 |nils=>
  simp only[di.as,Option.some.injEq]at h;subst h;simp only[dn]at hx;exact⟨a7,0,[],hx,rfl,.inl rfl⟩
 |lst J z b=>
  simp only[di.as]at h;have e:=iV h;cases e;rw[ik]at h;cases h;simp only[dn]at hx;obtain⟨a,n,d,B,N,D,E⟩:=tZ hx.1;exact⟨a,n,d,B,D,E.imp id fun⟨b,off,f,i,o⟩=>⟨b,off,f,i.1,i.2.2.2,o⟩⟩
 |emp=>
  simp only[di.as,Option.some.injEq]at h;subst h;simp only[dn]at hx;obtain⟨a,rfl⟩:=hx;exact⟨a,0,[],rfl,rfl,.inl rfl⟩
 |slc id ver O=>
  simp only[di.as,Eh]at h;split at h
  .rename_i J v X s
   replace h:=dN h;obtain⟨j,h⟩:=h;have j:v=ver:=by simpa using j
   subst j;split at h
   .rename_i Y G
    have e:=iV G;cases e;rw[ik]at G;cases G;cases h;simp only[dn]at hx;have q:=(hx.2.2 _ _ _ s).2 rfl;obtain⟨_,Z,d,S,K,ab⟩:=y.obj id _ s;obtain⟨a,cp,j,hn,L⟩:=QY S;cases O with
    |none=>
     simp only[jv]at q;rw[j]at q;exact⟨a,cp,d,q,K,L.imp (fun h=>h) fun⟨g,f,i,U,o⟩=>⟨g,0,f,i,fun I=>(y.bar _ I).2.1 ⟨id,_,s,by rw[eu.blk,j,f];rfl⟩,o⟩⟩
    |some p=>
     obtain⟨lo,V⟩:=p;simp only[jv]at q;obtain⟨a',m,ad,M,p1,p2,p3,q⟩:=q;rw[j]at M;cases M;refine⟨(if cp=lo.toNat then a else a.map (·.add (lo.toNat*e.size))),cp-lo.toNat,(d.take (V.toNat*e.size)).drop (lo.toNat*e.size), ?_,gW.drop _ _ _ (gW.take _ _ _ K), ?_⟩
     .simp_all [af0,ML]
     .by_cases hcp:cp=lo.toNat
      .grind
      .rw[aq hcp];rcases L with W|⟨g,f,i,U,o⟩
       .left;rw[W];simp
       .right;refine⟨g,0+lo.toNat*e.size,by rw[f];simp[kU],i,fun I=>(y.bar _ I).2.1 ⟨id,_,s,by rw[eu.blk,j,f];rfl⟩, ?_⟩;rw[List.drop_take];exact o.sub _ _
   .cases h
  .cases h
 |agg l=>simp[di.as,Ty.isAgg]at h
 |_=>simp[di.as]at h
theorem afe (g:c.Ok W0) {x:di} {e:Ty} {d:List e.den} {u:Value} (h:x.as c.hp (.list e)=a6 d) (hx:dn c x u):
  ∃a cp f,u=.slice a d.length cp/\gW (fZ c.w c.free e) e.size d f/\(f=[]\/ ∃b off,a=a6 ⟨b,off,a7⟩/\b<c.w.heap.size/\iH c.w b off f):=by
 grind [Yk]
theorem Ls {k:IntKind} {w:World} {fr:Nat->Prop}: ∀(xs:List Int) (e:List Value),gW (fZ w fr (.int k)) 1 xs e->e=xs.map (.int k)
 |[],_,h=>by cases h;rfl
 |x::xs,_,⟨d,g,i,l,f,j⟩=>by
  simp only[fZ]at f;subst i;subst f;rw[Ls xs g j];rfl
theorem Ql: ∀(e:List Int) (d:List UInt8),e.foldl (fun r n=>r.push (UInt8.ofNat n.toNat)) (⟨d.toArray⟩:ByteArray)=⟨(d++ofBytes e).toArray⟩
 |[],d=>by simp[ofBytes]
 |n::e,d=>by
  rw[List.foldl_cons];have:(⟨d.toArray⟩:ByteArray).push (UInt8.ofNat n.toNat)=⟨(d++[UInt8.ofNat n.toNat]).toArray⟩:=by
   simp[ByteArray.push]
  rw[this,Ql e];simp[ofBytes]
theorem asF (hT:TOk P T) (A:c.Ok W0) {s d:TypeId} {x:di} {v:Value} {K:di->Option R} (h:Dc T s d x c.hp K=a6 r) (hx:dn c x v):
  ∃z u,K z=a6 r/\dn c z u/\ ∀w',JP c w'->(convert s d v).run P w'=.ok u w':=by
 unfold Dc at h;cases hk:((T.at s).known&&(T.at d).known)
 .simp_all
 rw[hk]at h;simp only[ak,ac]at h;simp only[af]at hk;split at h
 .rename_i k1 k2 k3 n i l
  simp only[dn]at hx;obtain rfl:=hx.int_inv;have m:=hT.int hk.1 i;have o:=hT.int hk.2 l;exact⟨_,_,h,by simp only[dn];exact VD.int_mk,fun w' _=>by simp_all [convert,run_underlying,Conv.intToInt]⟩
 .rename_i str i l
  simp only[dn]at hx;obtain rfl:=hx.str_inv;have m:=hT.str hk.1 i;have o:=hT.str hk.2 l;exact⟨_,_,h,by simp only[dn];exact VD.str_mk,fun w' _=>by simp_all [convert,run_underlying]⟩
 .rename_i e i l
  split at h
  .rename_i B
   split at h
   .rename_i f D
    replace h:=gX h;obtain⟨E,h⟩:=h;have G:=E;have m:=hT.slice hk.1 i;have o:=hT.str hk.2 l;have p:=hT.int G B;obtain⟨a,cp,g,rfl,I,J⟩:=afe A D hx;refine⟨_,.string ⟨(ofBytes f).toArray⟩,h,by simp only[dn];exact VD.str_mk,fun w' L=> ?_⟩;have q:=Ls f g I;cases hxe:f with
    |nil=>
     subst hxe;rcases a with _|M
     .simp only[convert,run_underlying m,run_underlying o,run_underlying p,Sem.run_bind,Result.andThen_ok,Conv.bytesToString,Sem.run_pure];rfl
     .rw[run_convert_bytes_string w' s d e _ _ _ m p o,run_bytesToString (P:=P) w' M _ cp [] (by rfl)];rfl
    |cons x0 Y=>
     have N:g≠[]:=by rw[q,hxe];simp
     obtain⟨b,y,rfl,O,S⟩:=J.resolve_left N;have U:=L.cells O S;have Z:(loadCells ⟨b,y,a7⟩ g.length).run P w'=.ok g.toArray w':=run_loadCells_list (P:=P) w' _ g fun j v V=>by
      obtain⟨W,X⟩:=List.getElem?_eq_some_iff.1 V;rw[kU,U j W,X]
     have ab:g.length=f.length:=by rw[q];simp
     rw[<-hxe,run_convert_bytes_string w' s d e _ _ _ m p o,run_bytesToString (P:=P) w' ⟨b,y,a7⟩ f.length cp f (by simp_all)];have:=Ql f [];simp only[aH]at this;rw[<-this];rfl
   .cases h
  .cases h
 .cases h
theorem KC {d e:Type} (f:d->Sem e) (g:d->e) (w:World): ∀(l:List d),(∀x∈l,(f x).run P w=.ok (g x) w)->(l.mapM f).run P w=.ok (l.map g) w
 |[],_=>rfl
 |x::l,h=>by
  simp only[List.mapM_cons,Sem.run_bind,h x (by simp),Result.andThen_ok,KC f g w l (fun y i=>h y (by simp[i])),Sem.run_pure,ax]
theorem ae6 {d e:Type} (f:d->Sem e) (g:d->e) (w:World) (l:Array d) (h: ∀x∈l.toList,(f x).run P w=.ok (g x) w):(l.mapM f).run P w=.ok (l.map g) w:=by
 rw[Array.mapM_eq_mapM_toList,Sem.run_map,KC f g w l.toList h];simp only[Result.andThen_ok];congr 1
 grind
def abM (P:Program) (t:TypeId):Nat:=((P.info? t).map (·.size)).getD 0
theorem DF (hT:TOk P T) (O:c.Ok W0) {cl:Bool} {call:gY R} {o:Oper} {st:St} {a:Act} {K:di->St->Option R} (S:iO o.op=true) (E:c.hp=st.hp) (j:bT c st.fr a.tmps.toList)
  (h:fE T cl call o st K=a6 r): ∃z u,K z st=a6 r/\dn c z u/\ ∀w',JP c w'->(execOp a.eval o).run P w'=.ok (.value u) w':=by
 have D: ∀{s:Sem Value} {u:Value} {w':World},s.run P w'=.ok u w'->(do pure (Next.value (<-s)):Sem Next).run P w'=.ok (.value u) w':=fun hs=>by
  simp_all
 obtain⟨aJ,op,ty,aK,aO,aP⟩:=o;simp only at S;cases op<;>simp only[iO,kD,ag]at S
 case move x=>exact⟨_,_,h,eF j x,fun w' _=>rfl⟩
 case assign x=>exact⟨_,_,h,eF j x,fun w' _=>rfl⟩
 case pick x y z=>
  simp only[fE]at h;have hc:=eF j x;split at h
  .rename_i b J
   rw[J]at hc;simp only[dn]at hc;have ai:=hc.bool_inv;cases b
   .exact⟨_,_,h,eF j z,fun w' _=>by simp[execOp,ai,asBool]⟩
   .exact⟨_,_,h,eF j y,fun w' _=>by simp[execOp,ai,asBool]⟩
  .cases h
 case build t parts=>
  simp only[fE]at h;cases hk:(T.at t).known
  .simp_all
  rw[hk]at h;simp only[ak,ac]at h;split at h
  .rename_i fs au
   split at h
   .rename_i cs X
    obtain⟨Y,Z,av⟩:=hT.struct hk au;obtain⟨i,z,hi,aQ,aS,hz,aU,ab⟩:=hT.info hk;have aw:bT c (T.at t).zero z.cells.toList:=by grind [wK]
    have ab: ∀u∈z.cells.toList,u.oneCell'=true:=fun u Z=>List.all_eq_true.1 ab u Z;obtain⟨ay,g1,g2,g3⟩:=agJ (c:=c) hT (place:=fun k=>(Y.map fun f=>(f.offset,abM P f.type))[k]?) (fun k aj ft ad az=>by
      rw[<-av,List.getElem?_map]at ad;cases hfl:Y.toList[k]? with
      |none=>simp_all
      |some fl=>
       rw[hfl]at ad;simp only[Option.map_some,Option.some.injEq,Prod.mk.injEq]at ad;have:Y[k]? =a6 fl:=by simpa using hfl
       obtain⟨i',z',aV,aW,_⟩:=hT.info az;simp_all [abM]) _ (parts.toList.map fun p=>(p.1,a.eval p.2)) _ _ _ X aw ab (by simp) (by
      simp only[List.map_map,Function.comp_def];have:=bT.map_eval (c:=c) j (parts.toList.map (·.2));simp_all [Function.comp_def])
    have ae:=(hT t hk).2.2.2.2.2.2.1;rw[Z]at ae;simp only[Option.map_some,Option.some.injEq]at ae;refine⟨_,.agg ay.toArray,h, ?_,fun w' _=>D ?_⟩
    .have:=OV (c:=c) hT hk g2 g3;simp_all [TI.isAgg,valOf]
    .have hm:=ae6 (P:=P) (fun f:Field=>do pure (f.offset,<-sizeOf f.type)) (fun f=>(f.offset,abM P f.type)) w' Y (fun f hf=>by
      have:=List.all_eq_true.1 ae f hf;cases hi2:P.info? f.type with
      |none=>simp_all
      |some i2=>simp[sizeOf,typeInfo,hi2,abM])
     have aA:(zeroValue t).run P w'=.ok z w':=by simp[zeroValue,typeInfo,hi,hz]
     simp only[Instr.build,Sem.run_bind,aA,Result.andThen_ok,run_underlying Z,hm];simp_all
   .cases h
  .cases h
 case load t x=>
  simp only[fE]at h;rw[<-E]at h;obtain⟨z,u,m,q,A⟩:=azy (K:=fun v=>K v st) hT O h (eF j x);exact⟨z,u,m,q,fun w' B=>D (A w' B)⟩
 case nilCheck x=>
  simp only[fE]at h;have d:=eF j x;split at h
  .rename_i id aj M
   rw[M]at d;split at h
   .rename_i bt cs X
    have U:=d;simp only[dn]at d;rw[<-E]at X;have G:=d.2.2 _ _ X;exact⟨_,_,h,U,fun w' _=>by simp[execOp,G]⟩
   .cases h
  .rename_i y e M
   rw[M]at d;have U:=d;simp only[dn]at d;obtain⟨b,o,zs,G,_⟩:=d;exact⟨_,_,h,U,fun w' _=>by simp[execOp,G]⟩
  .rename_i id aB i aj M
   rw[M]at d;split at h
   .rename_i e u xs an
    replace h:=dN h;obtain⟨I,h⟩:=h;have I:u=aB:=by simpa using I
    subst I;have U:=d;simp only[dn]at d;rw[<-E]at an;obtain⟨g,n,cp,_,G⟩:=(d.2.2 _ _ _ an).2 rfl;exact⟨_,_,h,U,fun w' _=>by simp[execOp,G]⟩
   .cases h
  .cases h
 case binOp op t x y yt=>
  simp only[fE]at h;rw[<-E]at h;obtain⟨z,u,m,q,A⟩:=azx (P:=P) (ox:=x) (oy:=y) (K:=fun v=>K v st) hT O h (eF j x) (eF j y);exact⟨z,u,m,q,fun w' B=>D (A w')⟩
 case unOp op t x=>
  simp only[fE]at h;obtain⟨z,u,m,q,A⟩:=aNX (P:=P) (K:=fun v=>K v st) h (eF j x);exact⟨z,u,m,q,fun w' B=>D (A w')⟩
 case convert sT dT x=>
  simp only[fE]at h;rw[<-E]at h;obtain⟨z,u,m,q,A⟩:=asF (P:=P) (K:=fun v=>K v st) hT O h (eF j x);exact⟨z,u,m,q,fun w' B=>D (A w' B)⟩
 case slice t x lo hi mx=>
  simp only[fE]at h;rw[<-E]at h;obtain⟨z,u,m,q,A⟩:=apg (P:=P) (K:=fun v=>K v st) hT O h (eF j x) (mV.map j lo) (mV.map j hi) (mV.map j mx);exact⟨z,u,m,q,fun w' B=>D (A w')⟩
 case fieldAddr t x f=>
  simp only[fE]at h;rw[<-E]at h;obtain⟨z,u,m,q,A⟩:=Td (P:=P) (K:=fun v=>K v st) hT h (eF j x);exact⟨z,u,m,q,fun w' B=>D (A w')⟩
 case field t x f=>
  simp only[fE]at h;obtain⟨z,u,m,q,A⟩:=ape (P:=P) (K:=fun v=>K v st) hT h (eF j x);exact⟨z,u,m,q,fun w' B=>D (A w')⟩
 case indexAddr t x i=>
  simp only[fE]at h;rw[<-E]at h;obtain⟨z,u,m,q,A⟩:=Tf (P:=P) (K:=fun v=>K v st) hT O h (eF j x) (eF j i);exact⟨z,u,m,q,fun w' B=>D (A w')⟩
 case index t x i=>
  simp only[fE]at h;split at h
  .rename_i s n hs hn
   replace h:=gX h;obtain⟨m,h⟩:=h;have d:=eF j x;rw[hs]at d;obtain⟨q,A⟩:=apf (P:=P) hT d (eF j i) hn m;exact⟨_,_,h,q,fun w' B=>D (A w')⟩
  .cases h
 case extract x n=>
  simp only[fE]at h;have d:=eF j x;split at h
  .rename_i l hl
   rw[hl]at d;split at h
   .rename_i v G
    simp only[dn]at d;obtain⟨vs,M,ao⟩:=d;obtain⟨hn,G⟩:=List.getElem?_eq_some_iff.1 G;have aF:=bT.length _ _ ao;simp at aF;have m:=bT.get _ _ ao n hn (by simp;omega);rw[G]at m;simp only[Array.getElem_toList]at m;refine⟨_,_,h,m,fun w' _=>D ?_⟩;rw[M];have:vs[n]? =a6 vs[n]:=Array.getElem?_eq_getElem (by omega);simp[Instr.extract,this]
   .cases h
  .cases h
 case call cc=>
  obtain⟨aX,V,aG⟩:=cc;simp only at S;have L:=bT.map_eval (c:=c) j V.toList;split at S
  all_goals try (cases S;done)
  .
   simp only[fE,kV]at h;split at h<;>try (cases h;done)
   .rename_i x J d
    split at h<;>try (cases h;done)
    rename_i t ht
    rw[<-E]at h;obtain⟨N,aI⟩: ∃N,V= #[N]:=by
     obtain⟨l⟩:=V
     match l,d with
     |[N],_=>exact⟨N,rfl⟩
    subst aI;obtain⟨t0⟩:=aG;simp only at ht;subst ht;simp only[ax,List.map_nil,List.cons.injEq,and_true]at d;subst d;obtain⟨z,u,m,q,A⟩:=q_len (P:=P) (K:=fun v=>K v st) hT O h (eF j N) (ty:=ty)
    grind [execOp,resolve,invoke,builtin]
   all_goals simp_all
  .
   simp only[fE,kV]at h;split at h<;>try (cases h;done)
   all_goals try (rename_i J _;cases J;done)
   rename_i k n l J d
   split at h<;>try (cases h;done)
   rename_i ns ah
   rw[d]at L;obtain⟨W⟩:=V;cases W with
   |nil=>simp_all
   |cons N W=>
    simp only[ax,bT]at L;have I:=L.1;simp only[dn]at I;have m:=I.int_inv;have q:=wF _ _ _ ah L.2;exact⟨_,_,h,by simp only[dn];exact VD.int_mk,fun w' B=>by simp_all [execOp,resolve,invoke,builtin,Builtin.min_,X7]⟩
  .
   simp only[fE,kV]at h;split at h<;>try (cases h;done)
   all_goals try (rename_i J _;cases J;done)
   rename_i k n l J d
   split at h<;>try (cases h;done)
   rename_i ns ah
   rw[d]at L;obtain⟨W⟩:=V;cases W with
   |nil=>simp_all
   |cons N W=>
    simp only[ax,bT]at L;have I:=L.1;simp only[dn]at I;have m:=I.int_inv;have q:=wF _ _ _ ah L.2;exact⟨_,_,h,by simp only[dn];exact VD.int_mk,fun w' B=>by simp_all [execOp,resolve,invoke,builtin,Builtin.max_,X6]⟩
end
end
section
open Option renaming some → a6, none → a7
open List renaming map_cons → ax
open Nat renaming le_refl → ae, le_trans → aQ
open Go.RowKit
structure Gg (W0:World) (c:Cx) (st:St) (c':Cx) (st':St):Prop where
 hp:c'.hp=st'.hp
 nxt:c'.nxt=st'.nxt
 fr:st'.fr=st.fr
 stk:st'.stk=st.stk
 ok:c'.Ok W0
 le:c.Le c'
section
variable {P:Program} {T:TT} {W0:World} {c:Cx} {R:Type} {r:R} {t:TypeId}
theorem Gg.refl (d:c.Ok W0) {st:St} (e:c.hp=st.hp) (h2:c.nxt=st.nxt):Gg W0 c st c st:=⟨e,h2,rfl,rfl,d,Cx.Le.refl c⟩
theorem Gg.trans {c' d:Cx} {st e f:St} (h:Gg W0 c st c' e) (k:Gg W0 c' e d f):Gg W0 c st d f:=
 ⟨k.hp,k.nxt,k.fr.trans h.fr,k.stk.trans h.stk,k.ok,h.le.trans k.le⟩
theorem RF {cl:Bool} {dst:Option Nat} {o:eu} {st:St} {K:Nat->St->Option R} (h:alloc cl dst o st K=a6 r):
  ∃n',eG st.hp (G5 cl st dst)=a7/\st.nxt<=G5 cl st dst/\st.nxt<=n'/\K (G5 cl st dst) {st with hp:=(G5 cl st dst,o)::st.hp,nxt:=n'}=a6 r:=by
 unfold alloc at h;split at h
 .cases h
 .rename_i e
  replace h:=dN h;obtain⟨d,h⟩:=h;have d:st.nxt<=G5 cl st dst:=by simpa using d
  grind
theorem jC {cl:Bool} {dst:Option Nat} {o:eu} {st:St} {K:Nat->St->Option R} (h:alloc cl dst o st K=a6 r):
  ∃id n',eG st.hp id=a7/\st.nxt<=id/\st.nxt<=n'/\K id {st with hp:=(id,o)::st.hp,nxt:=n'}=a6 r:=
 let⟨n',d,e,f,g⟩:=RF h
 ⟨_,n',d,e,f,g⟩
theorem DC {st:St} {id:Nat} (d:c.hp=st.hp) (h2:c.nxt=st.nxt) (e:eG st.hp id=a7) (f:st.nxt<=id): ¬c.known id:=by
 rintro (⟨o,g⟩|h)
 all_goals grind
theorem oZ (w:World) (o:Obj):Below w.heap.size w (w.alloc o):=(Below.refl _ _).alloc (ae _) o
theorem OU (f:c.Ok W0) {st:St} (g:c.hp=st.hp) (h2:c.nxt=st.nxt) {id n':Nat} (m:eG st.hp id=a7) (p:st.nxt<=id) (x:st.nxt<=n') {cs:List di} {vs:Array Value} (e:TypeId)
  (q: ∀c',c.Le c'->eG c'.hp id=a6 (.box e cs)->c'.known id->(c'.mu id).blk=c.w.heap.size->bT c' cs vs.toList) (s: ∀u∈vs.toList,u.oneCell'=true):
  ∃c',Gg W0 c st c' {st with hp:=(id,.box e cs)::st.hp,nxt:=n'}/\c'.w=c.w.alloc (.cells vs e)/\dn c' (.ptr id 0) (.pointer (a6 ⟨c.w.heap.size,0,a7⟩)):=by
 have hk:=DC g h2 m p;have d:=oZ c.w (.cells vs e);have h: ∀b,eu.blk (.box e cs) ⟨c.w.heap.size,undef⟩=a6 b->c.w.heap.size<=b:=fun b d=>by
  simp_all [eu.blk]
 have i:=Cx.Le.push (o:=.box e cs) (l:=⟨c.w.heap.size,undef⟩) (nxt:=n') (w:=c.w.alloc (.cells vs e)) hk (by omega) d.size d.block h;have j:eG (c.push id (.box e cs) ⟨c.w.heap.size,undef⟩ n' (c.w.alloc (.cells vs e))).hp id=a6 (.box e cs):=by simp[Cx.push,fB]
 have v:(c.push id (.box e cs) ⟨c.w.heap.size,undef⟩ n' (c.w.alloc (.cells vs e))).ORel W0.heap.size id (.box e cs):=by
  refine⟨by simp[Cx.push,upd_same];exact f.size,vs, ?_,q _ i j (.inl ⟨_,j⟩) (by simp[Cx.push,upd_same]),s⟩;simp only[Cx.push,upd_same];exact heap_alloc_new c.w _
 refine⟨_,⟨?_,rfl,rfl,rfl,f.push hk (by omega) d h v,i⟩,rfl, ?_⟩
 .simp[Cx.push,g]
 .simp only[dn];refine⟨rfl,.inl ⟨.box e cs,by assumption⟩,fun y z _=>by simp[Cx.push,upd_same]⟩
theorem acR (d:c.Ok W0) {st:St} (f:c.hp=st.hp) (h2:c.nxt=st.nxt) {id n':Nat} (g:eG st.hp id=a7) (h:st.nxt<=id) (i:st.nxt<=n') {cs:List di} {vs:Array Value} (j:bT c cs vs.toList)
  (l: ∀u∈vs.toList,u.oneCell'=true) (e:TypeId):
  ∃c',Gg W0 c st c' {st with hp:=(id,.box e cs)::st.hp,nxt:=n'}/\c'.w=c.w.alloc (.cells vs e)/\dn c' (.ptr id 0) (.pointer (a6 ⟨c.w.heap.size,0,a7⟩)):=
 OU d f h2 g h i e (fun c' m _ _ _=>bT.le m _ _ j) l
theorem uh (j:c.Ok W0) {st:St} (m:c.hp=st.hp) (h2:c.nxt=st.nxt) {id n':Nat} (s:eG st.hp id=a7) (x:st.nxt<=id) (N:st.nxt<=n') {y:Ty} (z:0<y.size) {xs:List y.den} {v:Value} {w:World}
  (f:Below c.w.heap.size c.w w) (e:TypeId) (d:List Value) (i:w.ownsRow c.w.heap.size e y.size v xs.length d) (A:gW (fZ c.w c.free y) y.size xs d) (B:v.oneCell'=true) (D:y=.int .u8->e=qI):
  ∃c',Gg W0 c st c' {st with hp:=(id,.arr y 0 xs)::st.hp,nxt:=n'}/\c'.w=w/\dn c' (.slc id 0 a7) v:=by
 have hk:=DC m h2 s x;have p: ∀b,eu.blk (.arr y 0 xs) ⟨0,v⟩=a6 b->c.w.heap.size<=b:=fun b E=>(World.ownsRow.lt i b E).1;have q:=Cx.Le.push (o:=.arr y 0 xs) (l:=⟨0,v⟩) (nxt:=n') (w:=w) hk (by omega) f.size f.block p;have O:w.ownsRow W0.heap.size e y.size v xs.length d:=by
  refine⟨i.1, ?_⟩;rcases i.2 with h|⟨g,G,I,J,K,L⟩
  .exact .inl h
  .exact .inr ⟨g,G,I,J,aQ j.size K,L⟩
 have M:(c.push id (.arr y 0 xs) ⟨0,v⟩ n' w).ORel W0.heap.size id (.arr y 0 xs):=by
  refine⟨z,e,d, ?_,gW.mono (fZ.mono q.free y) _ _ A,D⟩;simp_all [Cx.push,upd_same]
 refine⟨_,⟨?_,rfl,rfl,rfl,j.push hk (by omega) f p M,q⟩,rfl, ?_⟩
 .simp[Cx.push,m]
 .simp only[dn];refine⟨B,.inl ⟨.arr y 0 xs,by simp[Cx.push,fB]⟩,fun t u S h=> ?_⟩;simp_all [Cx.push,jv,upd_same]
def KQ (P:Program) (W0:World) (c:Cx) (st:St) (o:Oper) (a:Act) (K:di->St->Option R) (r:R):Prop:=
 ∃z u d e,K z e=a6 r/\Gg W0 c st d e/\dn d z u/\((execOp a.eval o).run P c.w=.ok (.value u) d.w\/((execOp a.eval o).run P c.w=.ok .skip d.w/\u=undef))
theorem uf {st:St} {o:Oper} {a:Act} {K:di->St->Option R} {s:Sem Value} {z:di} {u:Value} {c':Cx} {d:St} (g:execOp a.eval o=(do pure (Next.value (<-s)))) (e:K z d=a6 r) (h2:Gg W0 c st c' d) (f:dn c' z u)
  (h:s.run P c.w=.ok u c'.w):KQ P W0 c st o a K r:=⟨z,u,c',d,e,h2,f,.inl (by simp_all)⟩
theorem aDH (hT:TOk P T) (x:c.Ok W0) {cl:Bool} {call:gY R} {o:Oper} {st:St} {a:Act} {K:di->St->Option R} (A:c.hp=st.hp) (B:c.nxt=st.nxt) (O:o.op=.alloc t)
  (h:fE T cl call o st K=a6 r):KQ P W0 c st o a K r:=by
 obtain⟨S,op,W,X,Y,Z⟩:=o;simp only at O;subst O;simp only[fE]at h;replace h:=dN h;obtain⟨hk,h⟩:=h;obtain⟨i,z,hi,aj,ak,hz,q,f⟩:=hT.info hk;have f: ∀u∈z.cells.toList,u.oneCell'=true:=fun u hu=>List.all_eq_true.1 f u hu;have ab:(Instr.alloc t true (.tuple #[])).run P c.w=.ok (.pointer (a6 ⟨c.w.heap.size,0,a7⟩)) (c.w.alloc (.cells z.cells t)):=by
  simp[Instr.alloc,zeroValue,typeInfo,hi,hz,newVar,newRow]
 have D:(alloc cl S (.box t (T.at t).zero) st fun id st=>K (.ptr id 0) st)=a6 r->KQ P W0 c st ⟨S,.alloc t,W,X,Y,Z⟩ a K r:=fun h=>by
  obtain⟨id,U,g,j,l,m⟩:=jC h;obtain⟨c',e,p,s⟩:=acR x A B g j l (cs:=(T.at t).zero) (vs:=z.cells) (by grind [wK]) f t;exact uf rfl m e s (by rw[p];exact ab)
 split at h
 .rename_i et ad E
  split at h
  .rename_i y hy
   replace h:=dN h;obtain⟨G,h⟩:=h;have G:0<y.size:=by simpa [TS] using G
   obtain⟨I,n1,g,j,l,m⟩:=jC h;have V:z.cells.toList=[.slice a7 0 0]:=by
    rw[E]at q
    match hq:z.cells.toList,q with
    |[v],d=>
     simp only[ax,List.map_nil,List.cons.injEq,and_true]at d;unfold yX at d
     grind
    |[],d=>simp at d
    |_::_::_,d=>simp at d
   obtain⟨c1,e,p,s⟩:=uh x A B g j l G (xs:=[]) (Below.refl _ _) (if y=.int .u8 then qI else et) [] (World.ownsRow_nil _ _ _ _) (by simp[gW]) (v:=.slice a7 0 0) rfl (fun h=>by simp[h]);obtain⟨id,U,J,L,M,N⟩:=jC m;obtain⟨c2,g1,g2,g3⟩:=acR e.ok e.hp e.nxt J L M (cs:=[.slc I 0 a7]) (vs:=z.cells) (by simp_all [bT]) f t;rw[p]at g3;refine uf rfl N (e.trans g1) g3 ?_;simp_all
  .exact D h
 .rename_i fs ad E
  rw[cond_eq_ite]at h;split at h
  .obtain⟨I,n1,g,j,l,m⟩:=jC h;have V:z.cells.toList=[.pointer a7,.slice a7 0 0]:=by
    rw[E]at q
    match hq:z.cells.toList,q with
    |[v,v'],d=>
     simp only[ax,List.map_nil,List.cons.injEq,and_true]at d;obtain⟨af,ag⟩:=d;have q1:v=.pointer a7:=by
      unfold yX at af
      grind
     have q2:v'=.slice a7 0 0:=by
      unfold yX at ag
      grind
     rw[q1,q2]
    |[],d=>simp at d
    |[_],d=>simp at d
    |_::_::_::_,d=>simp at d
   obtain⟨c1,e,p,s⟩:=uh x A B g j l (y:=.int .u8) (by simp[Ty.size]) (xs:=[]) (Below.refl _ _) qI [] (World.ownsRow_nil _ _ _ _) (by simp[gW]) (v:=.slice a7 0 0) rfl (fun _=>rfl);obtain⟨U,J,L,M,N⟩:=RF m;obtain⟨c2,g1,g2,g3⟩:=OU e.ok e.hp e.nxt J L M (cs:=[.slf _,.slc I 0 a7]) (vs:=z.cells) t (fun c' ah hg ai al=>by
    rw[V];simp only[bT,dn];refine⟨⟨rfl,ai,fun _ _ _=>.inl trivial⟩, ?_,trivial⟩;have:=dn.le ah _ _ s
    assumption) f
   rw[p]at g3;refine uf rfl N (e.trans g1) g3 ?_;simp_all
  .exact D h
 .exact D h
theorem aM4 (hT:TOk P T) (e:c.Ok W0) {cl:Bool} {call:gY R} {o:Oper} {st:St} {a:Act} {K:di->St->Option R} {x:Operand} (f:c.hp=st.hp) (g:c.nxt=st.nxt) (i:bT c st.fr a.tmps.toList) (d:o.op=.box t x)
  (h:fE T cl call o st K=a6 r):KQ P W0 c st o a K r:=by
 obtain⟨A,B,D,E,G,I⟩:=o;simp only at d;subst d;simp only[fE]at h;split at h
 .rename_i J j
  replace h:=dN h;obtain⟨hk,h⟩:=h;obtain⟨id,L,l,m,p,q⟩:=jC h;obtain⟨s,u⟩:=PV j (eF i x);obtain⟨M,v,y,z⟩:=acR e f g l m p s u t;refine uf rfl q v z ?_;rw[y];rfl
 .cases h
theorem aId {hp:iw} {y:Ty} {v:di} {x:y.den} (h:v.as [] y=a6 x) {u:Value} (d:dn c v u):fZ c.w c.free y x u.cells.toList:=by
 cases v with
 |val t' z=>
  simp only[di.as]at h;have e:=iV h;subst e;rw[ik]at h;cases h;simp only[dn]at d;exact d.cells
 |nils=>
  simp only[dn]at d;subst d;cases y<;>simp only[di.as,reduceCtorEq]at h;cases h;exact⟨a7,0,[],rfl,by simp,rfl,.inl rfl⟩
 |lst t' z b=>
  simp only[di.as]at h;have e:=iV h;subst e;rw[ik]at h;cases h;simp only[dn]at d;exact d.1.cells
 |emp=>
  simp only[dn]at d;obtain⟨a,rfl⟩:=d;cases y<;>simp only[di.as,reduceCtorEq]at h;cases h;exact⟨a,0,[],rfl,by simp,rfl,.inl rfl⟩
 |slc id ver g=>cases y<;>simp_all [di.as,Eh,eG]
 |agg l=>
  simp only[di.as]at h;replace h:=dN h;simp only[dn]at d;obtain⟨i,rfl,f,_⟩:=d;exact qm h.2 f
 |_=>simp[di.as]at h
theorem gW.replicate {e:Type} {Q:e->List Value->Prop} {size:Nat} {x:e} {d:List Value} (hd:d.length=size) (hx:Q x d): ∀n,gW Q size (List.replicate n x) (List.replicate n d).flatten
 |0=>by simp[gW]
 |n+1=>⟨d,(List.replicate n d).flatten,by rfl,hd,hx,gW.replicate hd hx n⟩
theorem GY (d:Array Value): ∀n,(madeCells d (n*d.size)).toList=(List.replicate n d.toList).flatten:=by
 intro n;by_cases h0:d.size=0
 .simp_all [madeCells]
 apply List.ext_getElem?;intro j;have f:(List.replicate n d.toList).flatten.length=n*d.size:=by simp
 by_cases e:j<n*d.size
 .have g: ∀n j,j<n*d.size->(List.replicate n d.toList).flatten[j]? =d.toList[j %d.size]? :=by
   intro n
   induction n with
   |zero=>omega
   |succ n h=>
    intro j e;rw[List.replicate_succ,List.flatten_cons]
    grind [Nat.mod_eq_of_lt,List.getElem?_append_right,Nat.mod_eq_sub_mod]
  grind [madeCells]
 simp_all [madeCells]
theorem aaJ {e:Ty} (place:Nat->Option (Nat×Nat)) (s: ∀i,place i=a6 (i*e.size,e.size)): ∀(j:List (Nat×di)) (us:List (Nat×Value)) (xs f:List e.den) (g:List Value),NE e xs j=a6 f->gW (fZ c.w c.free e) e.size xs g->
   us.map (·.1)=j.map (·.1)->bT c (j.map (·.2)) (us.map (·.2))-> ∃l,Instr.fill place g.toArray us=a6 l.toArray/\gW (fZ c.w c.free e) e.size f l/\f.length=xs.length
 |[],us,xs,f,g,h,m,d,_=>by
  simp only[NE,Option.some.injEq]at h;subst h;cases us with
  |nil=>exact⟨g,rfl,m,rfl⟩
  |cons=>simp at d
 |(i,v)::j,us,xs,f,g,h,m,d,q=>by
  cases us with
  |nil=>simp at d
  |cons u us=>
   obtain⟨o,u⟩:=u;simp only[ax,List.cons.injEq]at d;obtain⟨rfl,d⟩:=d;simp only[ax,bT]at q;simp only[NE]at h;split at h
   .rename_i x D
    replace h:=dN h;obtain⟨p,h⟩:=h;have p:o<xs.length:=by simpa [TS] using p
    have hd:=aId (hp:=[]) D q.1;have y:=fZ.length _ _ _ hd;obtain⟨z,E,K,A,B,G,I⟩:=gW.at_ o xs g p m;subst G;have J:=gW.set x u.cells.toList y hd o xs A z B p m I E;obtain⟨l,g1,g2,g3⟩:=aaJ place s j us _ f _ h J d q.2;refine⟨l, ?_,g2,by rw[g3];simp⟩;rw[<-g1];simp only[Instr.fill,s];have L:u.cells.size=e.size:=by simpa using y
    rw[aq (by simp_all)];congr 1;have:=NT (o*e.size) u.cells (A++z++B) (by simp;omega)
    grind
   .cases h
end
end
section
open Option renaming some → a6, none → a7
open Bool renaming and_eq_true → af
open Nat renaming le_refl → ae, le_mul_of_pos_right → bI
open Go.RowKit
section
variable {P:Program} {T:TT} {W0:World} {c:Cx} {R:Type} {r:R} {t:TypeId}
theorem su (hT:TOk P T) {n:Nat} {d:TypeId} (e:(T.at t).k=.slice d) (h:T.rowOf t n=true):P.underlying t=a6 (.slice d)/\(T.at d).known=true/\(T.at d).size=n/\0<n/\0<(T.at d).bytes:=by
 grind [nD]
theorem abq (hT:TOk P T) {f:TypeId} (hk:(T.at f).known=true) {e:Ty} {d:e.den} (hd:Kv e (T.at f).zero=a6 d):
  ∃i z,P.info? f=a6 i/\i.zero=a6 z/\i.size=(T.at f).size/\i.bytes=(T.at f).bytes/\fZ c.w c.free e d z.cells.toList:=by
 obtain⟨i,z,g,h,j,l,m,o⟩:=hT.info hk
 grind [qm,wK]
theorem aib (w:World) (d:List Value) (e:TypeId) (size n:Nat) (hl:d.length=n*size) (f:n<=maxLen):
  (w.alloc (.cells d.toArray e)).ownsRow w.heap.size e size (.slice (a6 ⟨w.heap.size,0,a7⟩) n n) n d:=
 ⟨hl,.inr ⟨w.heap.size,n,d.toArray,rfl,ae _,heap_alloc_new w _,ae _,f,by simpa using hl,by simp[<-hl]⟩⟩
theorem acJ (hT:TOk P T) (D:c.Ok W0) {cl:Bool} {call:gY R} {o:Oper} {st:St} {a:Act} {K:di->St->Option R} {n:Nat} {f:Array (Nat×Operand)} (E:c.hp=st.hp) (G:c.nxt=st.nxt) (I:bT c st.fr a.tmps.toList)
  (l:o.op=.buildSlice t n f) (h:fE T cl call o st K=a6 r):KQ P W0 c st o a K r:=by
 obtain⟨ah,op,ty,ai,aj,ak⟩:=o;simp only at l;subst l;simp only[fE]at h;split at h
 .rename_i g J
  split at h
  .rename_i e L
   split at h
   .rename_i d hd
    replace h:=dN h;obtain⟨m,h⟩:=h;simp only[af,leN,decide_eq_true_eq]at m;obtain⟨q,hk,M,s,_⟩:=su hT J m.1;split at h
    .rename_i N O
     obtain⟨id,n',S,U,V,W⟩:=jC h;obtain⟨i,z,X,Y,al,_,u⟩:=abq (c:=c) hT hk hd;have v:=fZ.length _ _ _ u;have Z:z.cells.size=e.size:=by simpa using v
     have ab:=gW.replicate (Q:=fZ c.w c.free e) v u n;obtain⟨j,g1,g2,g3⟩:=aaJ (c:=c) (fun i=>a6 (i*e.size,e.size)) (fun _=>rfl) _ (f.toList.map fun p=>(p.1,a.eval p.2)) _ _ _ O ab (by simp) (by
      simp only[List.map_map,Function.comp_def];have:=bT.map_eval (c:=c) I (f.toList.map (·.2));simp_all [Function.comp_def])
     have x:N.length=n:=by rw[g3];simp
     have y:=gW.length _ _ g2;rw[x]at y;have an:n<=n*e.size:=bI n s;have A:=aib c.w j g e.size n y (by simp only[maxLen];omega);rw[<-x]at A;obtain⟨c',d1,d2,d3⟩:=uh D E G S U V s (oZ c.w (.cells j.toArray g)) g j A g2 rfl (fun h=>hT.byte hk (by rw[L,h]));refine uf rfl W d1 d3 ?_;rw[d2];have B:(sizeOf g).run P c.w=.ok e.size c.w:=by rw[hT.sizeOf hk,M]
     have ao:(zeroValue g).run P c.w=.ok z c.w:=by simp[zeroValue,typeInfo,X,Y]
     have au:n*e.size<=2^24:=by omega
     have ad:Instr.fill (fun i=>a6 (i*e.size,e.size)) ((Array.range (n*e.size)).map (z.cells[· %z.cells.size]!)) (Array.map (fun p=>(p.1,a.eval p.2)) f).toList=a6 j.toArray:=by
      rw[<-g1];have:=GY z.cells n;rw[Z]at this;have h3:(Array.range (n*e.size)).map (z.cells[· %z.cells.size]!)=(List.replicate n z.cells.toList).flatten.toArray:=by
       apply Array.ext';rw[<-this];rfl
      rw[h3];simp
     by_cases h0:n*e.size=0
     .have ag:n=0:=by
       omega
      subst ag;simp only[Instr.buildSlice,Sem.run_bind,run_underlying q,Result.andThen_ok,B,Sem.run_ite,Nat.zero_mul,if_true,Sem.run_pure];simp only[Nat.zero_mul]at ad;rw[aq (by omega)];have av:Instr.fill (fun i=>a6 (i*e.size,e.size)) ((Array.range 0).map ((#[]:Array Value)[· %(#[]:Array Value).size]!)) (Array.map (fun p=>(p.1,a.eval p.2)) f).toList=a6 j.toArray:=by
       grind
      simp_all [newRow]
     .simp only[Instr.buildSlice,Sem.run_bind,run_underlying q,Result.andThen_ok,B,Sem.run_ite];simp_all [newRow]
    .cases h
   .cases h
  .cases h
 .cases h
theorem ahx (hT:TOk P T) (x:c.Ok W0) {cl:Bool} {call:gY R} {o:Oper} {st:St} {a:Act} {K:di->St->Option R} {l cp:Operand} (y:c.hp=st.hp) (A:c.nxt=st.nxt) (m:bT c st.fr a.tmps.toList)
  (p:o.op=.makeSlice t l cp) (h:fE T cl call o st K=a6 r):KQ P W0 c st o a K r:=by
 obtain⟨aj,op,ty,ak,al,an⟩:=o;simp only at p;subst p;simp only[fE]at h;split at h
 .rename_i g B
  split at h
  .rename_i e ln f D E G
   split at h
   .rename_i d hd
    replace h:=gX h;obtain⟨q,h⟩:=h;simp only[af,decide_eq_true_eq]at q;obtain⟨I,J,L,b3⟩:=q;obtain⟨M,hk,N,O,S⟩:=su hT B I;obtain⟨id,n',U,V,W,X⟩:=jC h;obtain⟨i,z,Y,Z,ab,ao,s⟩:=abq (c:=c) hT hk hd;have u:=fZ.length _ _ _ s;have j:z.cells.size=e.size:=by simpa using u
    have ad:=gW.replicate (Q:=fZ c.w c.free e) u s ln.toNat;obtain⟨k,r1⟩:=uN E (eF m l);obtain⟨k',r2⟩:=uN G (eF m cp);have au:f.toNat<=f.toNat*(T.at g).bytes:=bI _ S;have av:f.toNat<=140737488355328:=by grind [mD]
    have ag:f<=9223372036854775807:=by omega
    have ah:(i.bytes:Int)*f<=281474976710656:=by
     grind [mD]
    have aw:=run_make (P:=P) c.w t g i z M Y Z k k' ln f J L ah ag;have v:=GY z.cells f.toNat;rw[j]at v;have ax:((List.replicate f.toNat z.cells.toList).flatten).length=f.toNat*e.size:=by simp[j]
    have ai:(c.w.alloc (.cells (madeCells z.cells (f.toNat*i.size)) g)).ownsRow c.w.heap.size g e.size (.slice (a6 ⟨c.w.heap.size,0,a7⟩) ln.toNat f.toNat) (List.replicate ln.toNat d).length (List.replicate ln.toNat z.cells.toList).flatten:=by
     refine⟨by simp[j],.inr ⟨c.w.heap.size,f.toNat,madeCells z.cells (f.toNat*i.size),by simp,ae _,heap_alloc_new _ _,by simp;omega,by simp only[maxLen];omega, ?_, ?_⟩⟩
     .grind
     .rw[ab,N,v];have:f.toNat=ln.toNat+(f.toNat-ln.toNat):=by omega
      rw[this,<-List.replicate_append_replicate,List.flatten_append];rw[List.take_append];simp[j];rw[List.take_of_length_le (by simp[j])]
    obtain⟨c',d1,d2,d3⟩:=uh x y A U V W O (oZ c.w _) g _ ai ad rfl (fun h=>hT.byte hk (by rw[D,h]));refine uf rfl X d1 d3 ?_;simp_all
   .cases h
  .cases h
 .cases h
end
end
section
open Option renaming some → a6, none → a7
open List renaming length_append → ai, nil_append → aH, eq_nil_of_length_eq_zero → bD
open Nat renaming le_refl → ae
open Go.RowKit
section
variable {P:Program} {T:TT} {W0:World} {c:Cx} {R:Type} {r:R} {t:TypeId}
theorem ac3 {w:World} {B:Nat} {e:TypeId} {size n cap g:Nat} {f:List Value} (h:w.ownsRow B e size (.slice (a6 ⟨g,0,a7⟩) n cap) n f) {k:Nat} (hk:k<=n):
  w.ownsRow B e size (.slice (a6 ⟨g,0,a7⟩) k cap) k (f.take (k*size)):=by
 have p:=h.1;have q:=Nat.mul_le_mul_right size hk;refine⟨by simp;omega,.inr ?_⟩;rcases h.2 with ⟨d,_⟩|⟨s,u,i,d,j,l,v,m,o,x⟩
 .cases d
 .cases d;refine⟨g,cap,i,rfl,j,l,by omega,m,o, ?_⟩
  grind
theorem VC (hT:TOk P T) {d:TypeId} (x:P.underlying t=a6 (.slice d)) {w:World} {B:Nat} {i:TypeInfo} {z:Value} {size W:Nat} (hi:P.info? d=a6 i) (E:i.zero=a6 z) (ab:i.size=size) (ad:i.bytes=W)
  (G:z.cells.size=size) (I:0<size) {f:TypeId} {v:Value} {n:Nat} {o:List Value} (h:w.ownsRow B f size v n o) {a:Option Addr} {m cp:Nat} {news:List Value} (hl:news.length=m*size) (J: ∀u∈news,u.oneCell'=true)
  (af:news=[]\/ ∃b off,a=a6 ⟨b,off,a7⟩/\iH w b off news) (K:n+m<=maxLen) (L:(n+m)*W<=140737488355328) (M:B<=w.heap.size) (ty:TypeId):
  ∃l w' q,(Builtin.append_ #[t,t] ty #[v,.slice a m cp]).run P w=.ok l w'/\w'.ownsRow B q size l (n+m) (o++news)/\w.grownBy w' v.ownBlock/\(l.ownBlock=v.ownBlock\/l.ownBlock=a6 w.heap.size)/\l.oneCell'=true/\(q=f\/q=d):=by
 by_cases hm:m=0
 .subst hm;have hn:news=[]:=bD (by simpa using hl);subst hn;obtain⟨N,X,s,ag,_⟩:=ut h;refine⟨v,w,f, ?_,by simpa using h,⟨rfl,rfl,rfl,ae _,fun _ _ _=>rfl⟩,.inl rfl,by rw[s];rfl,.inl rfl⟩;rw[s];cases a<;>cases N<;>simp[Builtin.append_,run_underlying x,sizeOf,typeInfo,hi,Builtin.lenOf,Builtin.firstCells,loadCells,loadCellsFrom,ag,storeCells]
 .have ah:news≠[]:=by
   intro h0;rw[h0]at hl;have:=Nat.mul_pos (Nat.pos_of_ne_zero hm) I;simp at hl;omega
  obtain⟨b,off,rfl,hc⟩:=af.resolve_left ah;have D: ∀j u,news[j]? =a6 u->w.cell? ((⟨b,off,a7⟩:Addr).add j)=a6 u:=fun j u hj=>by
   obtain⟨aj,ak⟩:=List.getElem?_eq_some_iff.1 hj;rw[kU,hc j aj,ak]
  subst ab;subst ad;by_cases he:f=d
  .subst he;obtain⟨l,w',q,y,O,_,S⟩:=run_append_own_at (P:=P) w B t ty f i z i.size i.bytes x hi E rfl rfl G I v n o h ⟨b,off,a7⟩ m cp news hl D J K L M;obtain⟨N,X,s,_⟩:=ut y;exact⟨l,w',f,q,y,O,S,by rw[s];rfl,.inl rfl⟩
  .
   rcases h.2 with ⟨rfl,rfl⟩|⟨g,p,A,rfl,al,Y,ay,an,ao,az⟩
   .have hx:o=[]:=bD (by simpa using h.1);subst hx;obtain⟨l,w',q,y,O,_,S⟩:=run_append_own_at (P:=P) w B t ty d i z i.size i.bytes x hi E rfl rfl G I (.slice a7 0 0) 0 [] (World.ownsRow_nil _ _ _ _) ⟨b,off,a7⟩ m cp news hl D J K L M;obtain⟨N,X,s,_⟩:=ut y;exact⟨l,w',d,q,y,O,S,by rw[s];rfl,.inr rfl⟩
   .by_cases hroom:n+m<=p
    .have au:n*i.size+news.length<=A.size:=by rw[hl,ao,<-Nat.add_mul];exact Nat.mul_le_mul_right _ hroom
     have hf:=run_firstCells_some (P:=P) w i.size m ⟨b,off,a7⟩ m cp news hl D;have Z:=run_storeCells_at P g (n*i.size) f news 0 A w Y (by simpa using au) J;simp only[Nat.add_zero]at Z;have U:(Builtin.append_ #[t,t] ty #[.slice (a6 ⟨g,0,a7⟩) n p,.slice (a6 ⟨b,off,a7⟩) m cp]).run P w=
       .ok (.slice (a6 ⟨g,0,a7⟩) (n+m) p) (w.setRow g (A.toList.take (n*i.size)++news++A.toList.drop (n*i.size+news.length)).toArray):=by
      simp[Builtin.append_,run_underlying x,sizeOf,typeInfo,hi,Builtin.lenOf,hroom,hf,Addr.add_lit,Z]
     have V:(o++news).length=(n+m)*i.size:=by grind
     refine⟨_,_,f,U,⟨V,.inr ⟨g,p,_,rfl,al,setRow_heap w g A _ f _ Y,hroom,an, ?_, ?_⟩⟩,⟨rfl,rfl,rfl,by simp,fun k _ hk=>setRow_other w g k _ (fun e=>hk (by simp[Value.ownBlock,e]))⟩,Or.inl rfl,rfl,.inl rfl⟩
     all_goals grind
    .have holds: ∀j u,o[j]? =a6 u->w.cell? ((⟨g,0,a7⟩:Addr).add j)=a6 u:=h.cells (g:=g) rfl;have U:=run_append_grow (P:=P) w t ty d i z x hi E ⟨g,0,a7⟩ n p o h.1 holds ⟨b,off,a7⟩ m cp news hl D (by omega) (by grind [maxLen]) (growslice_fits (by omega) L);have aw:=grownCap_ge w (n+m) p d;have ax:grownCap w (n+m) p d<=maxLen:=grownCap_le_maxLen w (n+m) p d K;have V:(o++news).length=(n+m)*i.size:=by rw[ai,h.1,hl,Nat.add_mul]
     refine⟨_,_,d,U,⟨V,.inr ⟨w.heap.size,_,_,rfl,M,heap_alloc_new w.drew _,aw,ax, ?_, ?_⟩⟩,⟨rfl,rfl,rfl,by simp,fun k hk _=>Below.heap_alloc w.drew _ k hk⟩,Or.inr rfl,rfl,.inr rfl⟩
     .simp only[Array.size_append,List.size_toArray,size_zeroCells,G,h.1,hl,<-Nat.add_mul];simp_all
     grind
theorem aja (hT:TOk P T) {d:TypeId} (o:P.underlying t=a6 (.slice d)) {w:World} {i:TypeInfo} {z:Value} {size p:Nat} (hi:P.info? d=a6 i) (q:i.zero=a6 z) (B:i.size=size) (D:i.bytes=p)
  (E:z.cells.size=size) (G:0<size) {av:Option Addr} {b off m cp:Nat} {news:List Value} (hl:news.length=m*size) (I: ∀u∈news,u.oneCell'=true)
  (J:iH w b off news) (S:0<m) (U:m<=maxLen) (V:m*p<=140737488355328) (ty:TypeId):
  ∃e w' g,(Builtin.append_ #[t,t] ty #[.slice av 0 0,.slice (a6 ⟨b,off,a7⟩) m cp]).run P w=.ok e w'/\w'.ownsRow w.heap.size g size e m news/\Below w.heap.size w w'/\e.oneCell'=true/\g=d:=by
 have s: ∀j u,news[j]? =a6 u->w.cell? ((⟨b,off,a7⟩:Addr).add j)=a6 u:=fun j u K=>by
  obtain⟨L,M⟩:=List.getElem?_eq_some_iff.1 K;rw[kU,J j L,M]
 subst B;subst D;cases av with
 |none=>
  obtain⟨e,w',g,l,f,_,W⟩:=run_append_own_at (P:=P) w w.heap.size t ty d i z i.size i.bytes o hi q rfl rfl E G (.slice a7 0 0) 0 [] (World.ownsRow_nil _ _ _ _) ⟨b,off,a7⟩ m cp news hl s I (by omega) (by simp_all) (ae _);obtain⟨av,X,N,_⟩:=ut l;rw[Nat.zero_add,aH]at l;exact⟨e,w',d,g,l,⟨f.os,f.tape,f.output,f.size,fun k hk=>f.block k hk (by simp[Value.ownBlock])⟩,by rw[N];rfl,rfl⟩
 |some O=>
  have x:=run_append_grow (P:=P) w t ty d i z o hi q O 0 0 [] (by simp) (fun j v h=>by simp at h) ⟨b,off,a7⟩ m cp news hl s (by omega) (by grind [maxLen]) (growslice_fits (by omega) (by simp_all));have y:=grownCap_ge w (0+m) 0 d;have A:grownCap w (0+m) 0 d<=maxLen:=grownCap_le_maxLen w (0+m) 0 d (by omega);simp only[Nat.zero_add]at x y A;refine⟨_,_,d,x, ?_, ?_,rfl,rfl⟩
  .refine⟨hl,.inr ⟨w.heap.size,_,_,rfl,ae _,heap_alloc_new w.drew _,y,A, ?_, ?_⟩⟩
   .have:=Nat.add_mul m (grownCap w m 0 d-m) i.size;simp_all [size_zeroCells]
   simp_all
  .exact⟨rfl,rfl,rfl,by simp,fun k hk=>Below.heap_alloc w.drew _ k hk⟩
theorem VE {u d:TypeId} (m:P.underlying t=a6 (.slice d)) (o:P.underlying u=a6 .string) {w:World} {B:Nat} {i:TypeInfo} (hi:P.info? d=a6 i) (q:i.zero=a6 (.int .u8 0)) (z:i.size=1) (x:i.bytes=1)
  {v:Value} {n:Nat} {h:List Value} (p:w.ownsRow B d 1 v n h) (s:ByteArray) (D:n+s.size<=140737488355328) (E:B<=w.heap.size) (ty:TypeId):
  ∃e w',(Builtin.append_ #[t,u] ty #[v,.string s]).run P w=.ok e w'/\w'.ownsRow B d 1 e (n+s.size) (h++Lib.strCells s)/\w.grownBy w' v.ownBlock/\(e.ownBlock=v.ownBlock\/e.ownBlock=a6 w.heap.size)/\e.oneCell'=true:=by
 obtain⟨e,w',f,A,G,L⟩:=Lib.run_append_own_string (P:=P) w B t u ty d i m o hi q z x v n h p s (by simp only[maxLen];omega) D E;obtain⟨M,N,I,_⟩:=ut A;refine⟨e,w',f,A,G, ?_,by rw[I];rfl⟩;have O:h.length=n:=by simpa using p.1
 rcases p.2 with ⟨rfl,rfl⟩|⟨g,y,J,rfl,S,K,U,V,W,X⟩
 .by_cases hm:s.size=0
  .simp_all
  .right;have l:=run_append_nil_string (P:=P) w t u ty d i (.int .u8 0) m o hi q s (by omega) (by omega) (by rw[x];omega);rw[l]at f;cases f;rfl
 .by_cases hroom:n+s.size<=y
  .left;have l:=Lib.run_append_room_string (P:=P) w t u ty d i m o hi z g n y J K s hroom (by omega);rw[l]at f;cases f;rfl
  .right;have holds: ∀j u,h[j]? =a6 u->w.cell? ((⟨g,0,a7⟩:Addr).add j)=a6 u:=p.cells (g:=g) rfl;have l:=Lib.run_append_grow_string (P:=P) w t u ty d i (.int .u8 0) m o hi q ⟨g,0,a7⟩ n y h (by simp_all) holds s (by omega) (by omega) (by rw[x];exact growslice_fits (by omega) (by omega));rw[l]at f;cases f;rfl
end
end
section
open Option renaming some → a6, none → a7
open Bool renaming and_eq_true → af
open List renaming length_append → ai, map_cons → ax, nil_append → aH
open Nat renaming le_refl → ae, eq_of_beq_eq_true → aj, le_mul_of_pos_right → bI
open Go.RowKit
section
variable {P:Program} {T:TT} {W0:World} {c:Cx} {R:Type} {r:R} {t:TypeId}
theorem Dj {d:Type} {l:List d} {b:Nat} (h:eH l b=true):l.length*b<=140737488355328:=by
 unfold eH mD at h;simp_all
theorem gW.one {w:World} {fr:Nat->Prop} {e:Ty}: ∀(xs:List e.den) (g:List Value),gW (fZ w fr e) e.size xs g-> ∀u∈g,u.oneCell'=true
 |[],_,h=>by cases h;simp
 |y::i,_,⟨d,j,l,p,m,o⟩=>by
  subst l;intro u f;rcases List.mem_append.1 f with f|f
  .exact fZ.one _ _ _ m u f
  .exact gW.one i j o u f
theorem apj (g:c.Ok W0) {st:St} (z:c.hp=st.hp) (A:c.nxt=st.nxt) {e:Ty} (B:0<e.size) {id d:Nat} {xs:List e.den} (i:eG c.hp id=a6 (.arr e d xs)) {f:Value} {w':World} {m:TypeId} {ws:List e.den} {o:List Value}
  (M:w'.ownsRow W0.heap.size m e.size f ws.length o) (p:gW (fZ c.w c.free e) e.size ws o) (l:c.w.grownBy w' (c.mu id).v.ownBlock) (D: ∀b,(c.mu id).v.ownBlock=a6 b->W0.heap.size<=b)
  (N:f.ownBlock=(c.mu id).v.ownBlock\/f.ownBlock=a6 c.w.heap.size) (E:f.oneCell'=true) (G:e=.int .u8->m=qI):
  ∃c',Gg W0 c st c' {st with hp:=jB st.hp id (.arr e (d+1) ws)}/\c'.w=w'/\dn c' (.slc id (d+1) a7) f:=by
 have I:Below W0.heap.size W0 w':=g.bel.grown l g.size D;have q:(eu.arr e d xs).like (c.mu id) (.arr e (d+1) ws) ⟨0,f⟩:=⟨by omega,fun h=>by omega⟩;have s: ∀b,b<c.w.heap.size->(eu.arr e d xs).blk (c.mu id)≠a6 b->w'.heap[b]? =c.w.heap[b]? :=fun b j O=>l.block b j (by
  grind [eu.blk])
 have u: ∀b,(eu.arr e (d+1) ws).blk ⟨0,f⟩=a6 b->(eu.arr e d xs).blk (c.mu id)=a6 b\/c.w.heap.size<=b:=fun b j=>by
  simp only[eu.blk]at j ⊢
  grind
 have x: ∀(b:Nat) (L:Loop),(eu.arr e d xs).blk (c.mu id)=a6 b->c.w.heap[b]? =a6 (Obj.loop L)-> ∃J:Loop,w'.heap[b]? =a6 (Obj.loop J):=fun b L j p=>absurd p ((g.obj id _ i).no_loop (by simp) j);have y:=Cx.Le.put (w:=w') g i q l.size s u x;refine⟨c.put id (.arr e (d+1) ws) ⟨0,f⟩ w',⟨by simp[Cx.put,z],A,rfl,rfl,g.put i q I l.size s u x ?_,y⟩,rfl, ?_⟩
 .refine⟨B,m,o, ?_,gW.mono (fZ.mono y.free e) _ _ p,G⟩;simp_all [Cx.put,upd_same]
 .simp only[dn];refine⟨E,.inl ⟨_,Cx.put_get i⟩,fun S U V K=> ?_⟩;rw[Cx.put_get i]at K;simp_all [jv,Cx.put,upd_same]
theorem VB (hT:TOk P T) (o:c.Ok W0) {st:St} (J:c.hp=st.hp) (K:c.nxt=st.nxt) {f:TypeId} (L:P.underlying t=a6 (.slice f)) (hk:(T.at f).known=true) {e:Ty} (j:(T.at f).size=e.size) (M:0<e.size) (N:0<(T.at f).bytes)
  {id p:Nat} {xs:List e.den} (y:eG c.hp id=a6 (.arr e p xs)) {v:Value} {k cp:Nat} {g:Option Addr} (A:(c.mu id).v=.slice g xs.length cp) (az:k<=xs.length) (O:v=.slice g k cp)
  {d:List e.den} {a:Option Addr} {m:Nat} {s:List Value} (u:gW (fZ c.w c.free e) e.size d s) (S:s=[]\/ ∃b off,a=a6 ⟨b,off,a7⟩/\b<c.w.heap.size/\iH c.w b off s)
  (aA:((xs.take k++d).length)*(T.at f).bytes<=140737488355328) (ty:TypeId) (U:e=.int .u8->f=qI):
  ∃c' x,Gg W0 c st c' {st with hp:=jB st.hp id (.arr e (p+1) (xs.take k++d))}/\(Builtin.append_ #[t,t] ty #[v,.slice a d.length m]).run P c.w=.ok x c'.w/\dn c' (.slc id (p+1) a7) x:=by
 obtain⟨_,V,W,B,X,Y⟩:=o.obj id _ y;obtain⟨i,z,Z,ab,ad,hz,ag,aB⟩:=hT.info hk;have ah:z.cells.size=e.size:=by
  have:=congrArg List.length ag;rw[hT.zlen hk,j]at this;simpa using this
 have ak:=gW.take k _ _ X;have al:=gW.length _ _ u;have an:=gW.one _ _ u;have aF:(xs.take k).length=k:=by simp;omega
 have D:c.w.ownsRow W0.heap.size V e.size v k (W.take (k*e.size)):=by
  rw[A]at B;rcases B.2 with ⟨l,e2⟩|⟨g',aG,aI,l,_⟩
  .simp only[Value.slice.injEq]at l;obtain⟨rfl,_,rfl⟩:=l;simp_all [World.ownsRow_nil]
  grind [ac3]
 have ao:k+d.length<=maxLen:=by
  have h2:k+d.length<=(k+d.length)*(T.at f).bytes:=bI _ N
  grind [maxLen]
 obtain⟨x,w',l,hr,au,E,G,av,aw⟩:=VC hT L Z hz ab ad (by rw[ah,j]) (by omega) (by rw[j];exact D) (a:=a) (cp:=m) (by rw[j];exact al) an (S.imp (fun h=>h) fun⟨b,off,q1,_,q3⟩=>⟨b,off,q1,q3⟩) ao
  (by simp_all) o.size ty
 rw[j]at au;have I:v.ownBlock=(c.mu id).v.ownBlock:=by rw[A,O];cases g<;>rfl
 have ay: ∀b,(c.mu id).v.ownBlock=a6 b->W0.heap.size<=b:=fun b hb=>(World.ownsRow.lt D b (I.trans hb)).1;rw[I]at E G;obtain⟨c',d1,d2,d3⟩:=apj o J K M y (ws:=xs.take k++d) (by simp_all) (gW.append _ _ _ _ ak u) E ay G av (fun h=>aw.elim (fun q=>q.trans (Y h)) fun q=>q.trans (U h))
 grind
theorem PH {w:World} {fr:Nat->Prop} (s:List UInt8):gW (fZ w fr (.int .u8)) (Ty.int .u8).size (dm s) (Lib.strCells ⟨s.toArray⟩):=by
 induction s with
 |nil=>rfl
 |cons b l d=>
  refine⟨[.int .u8 b.toNat],Lib.strCells ⟨l.toArray⟩,by simp[Lib.strCells],rfl,rfl, ?_⟩
  assumption
theorem ar9 (hT:TOk P T) (p:c.Ok W0) {cl:Bool} {dst:Option Tmp} {ty:TypeId} {pos:String} {after:Array Edge} {guard:Option (Nat×Bool)} {st:St} {a:Act} {K:di->St->Option R} {args:Array Operand} {t t':TypeId} {s x:di} (I:c.hp=st.hp) (W:c.nxt=st.nxt) (X:bT c st.fr a.tmps.toList)
  (A:args.toList.map (iF st.fr)=[s,x]) (h:C9 T cl dst t t' s x st K=a6 r):KQ P W0 c st ⟨dst,.call {callee:=.builtin .append,args:=args,argTypes:=[t,t'].toArray},ty,pos,after,guard⟩ a K r:=by
 obtain⟨al⟩:=args
 match al,A with
 |[B,J],A=>
  simp only[ax,List.map_nil,List.cons.injEq,and_true]at A;obtain⟨rfl,rfl⟩:=A;have m:=eF X B;have D:=eF X J;have aI: ∀w,(execOp a.eval ⟨dst,.call {callee:=.builtin .append,args:=[B,J].toArray,argTypes:=[t,t'].toArray},ty,pos,after,guard⟩).run P w=
    ((Builtin.append_ #[t,t'] ty #[a.eval B,a.eval J]).run P w).andThen fun v E=>.ok (.value v) E:=fun w=>by
   simp[execOp,resolve,invoke,builtin,Sem.run_bind]
  unfold C9 at h;split at h
  .rename_i d y an ao
   rw[ao]at D;simp only[dn]at D;have D:=D.str_inv;split at h
   .rename_i Y
    replace h:=dN h;obtain⟨Z,h⟩:=h;simp only[af]at Z;obtain⟨⟨au,av⟩,ab⟩:=Z;have ad:=IY hT au;obtain⟨hu,hk,aJ,aK,aO⟩:=su hT an av;have ab:(T.at d).bytes=1:=aj ab;obtain⟨i,z,L,aP,aQ,hz,aS,aU⟩:=hT.info hk;have M:d=qI:=hT.byte hk Y;have ag:i.zero=a6 (.int .u8 0):=by
     rcases(hT d hk).2.2.1 with q|q
     .simp_all
     .rw[Y]at q;have aw:(T.at d).k=.int .u8:=by
       cases hkq:(T.at d).k with
       |int k=>simp_all [mG]
       |struct fs=>
        rw[hkq]at q;simp only[mG]at q;cases fs with
        |nil=>simp[kw]at q
        |cons f l=>
         grind [kw]
       |slice e'=>
        rw[hkq]at q;simp only[mG]at q;cases hq:(T.at e').ty<;>rw[hq]at q<;>simp at q
       |bool=>rw[hkq]at q;cases q
       |str=>rw[hkq]at q;cases q
       |other=>rw[hkq]at q;cases q
       |fn=>rw[hkq]at q;cases q
       |ptr e'=>rw[hkq]at q;cases q
       |map _ _=>rw[hkq]at q;cases q
      exact hT.zero_byte hk aw L
    cases hsv:iF st.fr B with
    |nils=>
     rw[hsv]at h m;simp only at h;simp only[dn]at m;obtain⟨j,h⟩:=gX h;have j:y.length<=140737488355328:=of_decide_eq_true j;obtain⟨v',E,hr,o,g,ah,N⟩:=VE (ty:=ty) hu ad L ag (by omega) (by omega) (World.ownsRow_nil c.w c.w.heap.size d 1) ⟨y.toArray⟩ (by show 0+y.toArray.size<=_;simpa using j) (ae _);obtain⟨id,n',f1,f2,f3,f4⟩:=jC h;have ay:Below c.w.heap.size c.w E:=⟨g.os,g.tape,g.output,g.size,fun k hk=>g.block k hk (by simp[Value.ownBlock])⟩;have az:0+(⟨y.toArray⟩:ByteArray).size=(dm y).length:=by show 0+y.toArray.size=_;simp[dm]
     rw[aH,az]at o;obtain⟨O,S,d2,U⟩:=uh p I W f1 f2 f3 (y:=.int .u8) (by simp[Ty.size]) ay d _ o (PH y) N (fun _=>M);exact⟨_,_,O,_,f4,S,U,.inl (by simp_all)⟩
    |slc id ver vw=>
     rw[hsv]at h m;simp only at h;split at h
     .rename_i u xs G
      rw[<-I]at G;replace h:=dN h;obtain⟨V,h⟩:=h;have V:u=ver:=by simpa using V
      subst V;split at h
      .replace h:=gX h;obtain⟨j,h⟩:=h;have j:=Dj j;simp only[dn]at m;have aA:=(m.2.2 _ _ _ G).2 rfl;simp only[jv]at aA;obtain⟨_,e0,zs,ak,hL,aB⟩:=p.obj id _ G;have aF:e0=d:=(aB rfl).trans M.symm;subst aF;have aG:(⟨y.toArray⟩:ByteArray).size=(dm y).length:=by show y.toArray.size=_;simp[dm]
       obtain⟨v',E,hr,o,g,ah,N⟩:=VE (ty:=ty) hu ad L ag (by omega) (by omega) ak ⟨y.toArray⟩ (by simp_all) p.size;rw[aG,<-ai]at o;obtain⟨O,S,d2,U⟩:=apj p I W (e:=.int .u8) (by simp[Ty.size]) G o (gW.append _ _ _ _ hL (PH y)) g (fun b hb=>(World.ownsRow.lt ak b hb).1) ah N (fun _=>M);exact⟨_,_,O,_,h,S,U,.inl (by simp_all)⟩
      .cases h
     .cases h
    |_=>rw[hsv]at h;cases h
   .cases h
  .cases h
theorem ayh (hT:TOk P T) (D:c.Ok W0) {cl:Bool} {call:gY R} {o:Oper} {st:St} {a:Act} {K:di->St->Option R} {args:Array Operand} {ts:Array TypeId} (E:c.hp=st.hp) (U:c.nxt=st.nxt) (aI:bT c st.fr a.tmps.toList)
  (ho:o.op=.call {callee:=.builtin .append,args:=args,argTypes:=ts}) (h:fE T cl call o st K=a6 r):KQ P W0 c st o a K r:=by
 obtain⟨aV,op,O,aW,aX,aY⟩:=o;simp only at ho;subst ho;simp only[fE,kV]at h;split at h<;>try (cases h;done)
 all_goals try (rename_i hb _;cases hb;done)
 rename_i s x hb ab
 split at h<;>try (cases h;done)
 rename_i t t' aJ
 obtain⟨ts⟩:=ts;simp only at aJ;subst aJ;rw[cond_eq_ite]at h;split at h
 rotate_left
 .grind [ar9]
 rename_i ah
 have ah:t=t':=by simpa using ah
 subst ah;obtain⟨al⟩:=args
 match al,ab with
 |[s0,x0],ab=>
  simp only[ax,List.map_nil,List.cons.injEq,and_true]at ab;obtain⟨rfl,rfl⟩:=ab;have f:=eF aI s0;have hx:=eF aI x0;have aK: ∀w,(execOp a.eval ⟨aV,.call {callee:=.builtin .append,args:=[s0,x0].toArray,argTypes:=[t,t].toArray},O,aW,aX,aY⟩).run P w=
    ((Builtin.append_ #[t,t] O #[a.eval s0,a.eval x0]).run P w).andThen fun v w'=>.ok (.value v) w':=fun w=>by
   simp[execOp,resolve,invoke,builtin,Sem.run_bind]
  unfold Nz at h;split at h
  .rename_i et ad
   split at h
   .rename_i e he
    split at h
    .cases h
    .rename_i j aO
     rw[<-E]at aO;obtain⟨a2,m2,ak,aP,l,ag⟩:=afe D aO hx;split at h
     .
      rename_i V
      rw[V]at f;simp only[dn]at f;replace h:=gX h;obtain⟨p,h⟩:=h;simp only[af]at p;obtain⟨y,hk,d,G,I⟩:=su hT ad p.1;have W:=Dj p.2;obtain⟨i,z,J,an,ao,hz,au,aZ⟩:=hT.info hk;have aw:z.cells.size=e.size:=by
       have:=congrArg List.length au;rw[hT.zlen hk,d]at this;simpa using this
      have ay:=gW.length _ _ l;have az:=gW.one _ _ l;have aQ:0+j.length<=maxLen:=by
       have h2:j.length<=j.length*(T.at et).bytes:=bI _ I;simp only[maxLen];omega
      obtain⟨v',w',e1,hr,X,L,bC,aA,aB⟩:=VC hT y J hz an ao (by rw[aw,d]) (by omega) (World.ownsRow_nil c.w c.w.heap.size et (T.at et).size) (a:=a2) (cp:=m2) (by rw[d];exact ay) az (ag.imp (fun h=>h) fun⟨b,aS,q1,_,q3⟩=>⟨b,aS,q1,q3⟩) aQ
       (by simp_all) (ae _) O
      rw[d,aH,Nat.zero_add]at X;obtain⟨id,n',f1,f2,f3,f4⟩:=jC h;have bd:Below c.w.heap.size c.w w':=⟨L.os,L.tape,L.output,L.size,fun k hk=>L.block k hk (by simp[Value.ownBlock])⟩;obtain⟨M,A,d2,N⟩:=uh D E U f1 f2 f3 G bd e1 ak X l aA (fun q=>(aB.elim (fun q=>q) fun q=>q).trans (hT.byte hk (by rw[he,q])));exact⟨_,_,M,_,f4,A,N,.inl (by simp_all)⟩
     .
      rename_i V
      rw[V]at f;simp only[dn]at f;obtain⟨Y,f⟩:=f;replace h:=gX h;obtain⟨p,h⟩:=h;simp only[af]at p;obtain⟨y,hk,d,G,I⟩:=su hT ad p.1;have W:=Dj p.2;obtain⟨i,z,J,an,ao,hz,au,aZ⟩:=hT.info hk;have aw:z.cells.size=e.size:=by
       have:=congrArg List.length au;rw[hT.zlen hk,d]at this;simpa using this
      have ay:=gW.length _ _ l;have az:=gW.one _ _ l;have aQ:0+j.length<=maxLen:=by
       have h2:j.length<=j.length*(T.at et).bytes:=bI _ I;simp only[maxLen];omega
      cases hlt:TS 0 j.length with
      |false=>
       rw[hlt]at h;simp only[ac]at h;have h0:j.length=0:=by simpa [TS] using hlt
       refine⟨.emp,.slice Y 0 0,c,st,h,Gg.refl D E U,by simp only[dn];exact⟨Y,rfl⟩,.inl ?_⟩;rw[aK,f,aP,h0];cases a2<;>cases Y<;>simp[Builtin.append_,run_underlying y,sizeOf,typeInfo,J,Builtin.lenOf,Builtin.firstCells,loadCells,loadCellsFrom,storeCells]
      |true=>
       rw[hlt]at h;simp only[aa]at h;have bf:0<j.length:=by simpa [TS] using hlt
       have bg:ak≠[]:=by
        grind [Nat.mul_pos]
       obtain⟨b,aS,rfl,_,hc⟩:=ag.resolve_left bg;obtain⟨v',w',e1,hr,X,L,aA,aB⟩:=aja hT y J hz an ao (by rw[aw,d]) (by omega) (w:=c.w) (av:=Y) (cp:=m2) (by rw[d];exact ay) az hc bf (by omega) W O;rw[d]at X;obtain⟨id,n',f1,f2,f3,f4⟩:=jC h;obtain⟨M,A,d2,N⟩:=uh D E U f1 f2 f3 G L e1 ak X l aA (fun q=>aB.trans (hT.byte hk (by rw[he,q])));exact⟨_,_,M,_,f4,A,N,.inl (by simp_all)⟩
     .
      rename_i id bi vw V
      rw[V]at f;split at h
      .rename_i e' u xs Z
       rw[<-E]at Z;replace h:=dN h;obtain⟨aF,h⟩:=h;have aF:u=bi:=by simpa using aF
       subst aF;split at h
       .rename_i bD aG
        have bn:=iV aG;cases bn;rw[ik]at aG;cases aG;simp only[dn]at f;have S:=(f.2.2 _ _ _ Z).2 rfl;obtain⟨_,e0,zs,bt,hL,bF⟩:=D.obj id _ Z;obtain⟨g,cp,hv,p,_⟩:=ut bt;split at h
        .replace h:=gX h;obtain⟨B,h⟩:=h;simp only[af]at B;obtain⟨y,hk,d,G,I⟩:=su hT ad B.1;have W:=Dj B.2;simp only[jv]at S;rw[hv]at S;obtain⟨M,v',A,d2,N⟩:=VB hT D E U y hk d G I Z hv (ae _) S (m:=m2) l ag (by simp_all) O (fun q=>hT.byte hk (by rw[he,q]));rw[List.take_length]at A;exact⟨_,_,M,_,h,A,N,.inl (by simp_all)⟩
        .rename_i lo J
         replace h:=gX h;obtain⟨B,h⟩:=h;simp only[af,bZ,beq_iff_eq]at B;obtain⟨B,rfl,bu⟩:=B;obtain⟨y,hk,d,G,I⟩:=su hT ad B;have W:=Dj bu;simp only[jv]at S;obtain⟨g',m',bG,aU,p1,p2,p3,S⟩:=S;rw[hv]at aU;cases aU;have bz:a.eval s0=.slice g J.toNat cp:=by
          simp_all [Addr.add]
         obtain⟨M,v',A,d2,N⟩:=VB hT D E U y hk d G I Z hv (k:=J.toNat) (by omega) bz (m:=m2) l ag W O (fun q=>hT.byte hk (by rw[he,q]));exact⟨_,_,M,_,h,A,N,.inl (by rw[aK,aP,d2];rfl)⟩
       .cases h
      .cases h
     .cases h
   .cases h
  .cases h
end
end
section
open Option renaming some → a6, none → a7
open Bool renaming and_eq_true → af
open List renaming append_assoc → ah, length_append → ai, map_cons → ax, drop_of_length_le → aB, nil_append → aH, length_take → aZ
open Nat renaming le_refl → ae, eq_of_beq_eq_true → aj, le_trans → aQ
open Go.RowKit
section
variable {P:Program} {T:TT} {W0:World} {c:Cx} {R:Type} {r:R} {t:TypeId}
theorem Kz {cs vs d:List di} {off:Nat} (h:putCells cs off vs=a6 d):off+vs.length<=cs.length/\d=cs.take off++vs++cs.drop (off+vs.length):=by
 unfold putCells at h;replace h:=dN h;simp_all
theorem Tn (hT:TOk P T) (hk:(T.at t).known=true) {w:World} {g o:Nat} {d:Array Value} {e:TypeId} (f:w.heap[g]? =a6 (.cells d e (0,0))) {v:Value} (hl:v.cells.size=(T.at t).size) (h:o+v.cells.size<=d.size)
  (i: ∀u∈v.cells.toList,u.oneCell'=true):
  (Instr.storeAt t (.pointer (a6 ⟨g,o,a7⟩)) v).run P w=.ok () (w.setRow g (d.toList.take o++v.cells.toList++d.toList.drop (o+v.cells.size)).toArray):=by
 have j:=run_storeCells_at P g o e v.cells.toList 0 d w f (by simpa using h) i;simp only[Nat.add_zero,Array.length_toList]at j;simp only[Instr.storeAt,Instr.sureAddr,Sem.run_bind,Sem.run_pure,Result.andThen_ok,storeVar,hT.sizeOf hk w,Sem.run_ite];simp_all
theorem ayj (hT:TOk P T) (s:c.Ok W0) {dst:Option Nat} {ty:TypeId} {pos} {after} {guard} {st:St} {a:Act} {K:St->Option R} {x y:Operand} (W:c.hp=st.hp) (ao:c.nxt=st.nxt) (au:bT c st.fr a.tmps.toList)
  (h:NG T st t (iF st.fr x) (iF st.fr y) K=a6 r): ∃c' av,K av=a6 r/\Gg W0 c st c' av/\(execOp a.eval ⟨dst,.store t x y,ty,pos,after,guard⟩).run P c.w=.ok .skip c'.w:=by
 simp only[NG]at h;split at h
 .cases h
 rename_i m aF
 replace h:=dN h;obtain⟨hk,h⟩:=h;simp only[af,beq_iff_eq]at hk;obtain⟨hk,aw⟩:=hk;obtain⟨r1,r2⟩:=PV aF (eF au y);have hl:m.length=(a.eval y).cells.size:=by simpa using bT.length _ _ r1
 have D:=eF au x;have ay: ∀w w',(Instr.storeAt t (a.eval x) (a.eval y)).run P w=.ok () w'->(execOp a.eval ⟨dst,.store t x y,ty,pos,after,guard⟩).run P w=.ok .skip w':=fun w w' hw=>by
  simp_all [execOp]
 split at h
 .rename_i id f ab
  rw[ab]at D;split at h
  .rename_i E cs z
   split at h
   .rename_i bd X
    obtain⟨p1,rfl⟩:=Kz X;rw[<-W]at z;simp only[dn]at D;have hv:=D.2.2 _ _ z;obtain⟨hB,us,h3,h4,h5⟩:=s.obj id _ z;have bf:cs.length=us.size:=by simpa using bT.length _ _ h4
    have G:=Tn (o:=f) hT hk h3 (v:=a.eval y) (by rw[<-hl,aw]) (by omega) r2;rw[<-hv]at G;have J:(eu.box E cs).like (c.mu id) (.box E (cs.take f++m++cs.drop (f+m.length))) (c.mu id):=rfl;have M:c.w.heap.size<=(c.w.setRow (c.mu id).blk (us.toList.take f++(a.eval y).cells.toList++us.toList.drop (f+(a.eval y).cells.size)).toArray).heap.size:=by simp
    have N: ∀b,b<c.w.heap.size->(eu.box E cs).blk (c.mu id)≠a6 b->(c.w.setRow (c.mu id).blk (us.toList.take f++(a.eval y).cells.toList++us.toList.drop (f+(a.eval y).cells.size)).toArray).heap[b]? =c.w.heap[b]? :=
     fun b _ ad=>setRow_other _ _ _ _ (fun e=>ad (by simp[eu.blk,e]))
    have O: ∀b,(eu.box E (cs.take f++m++cs.drop (f+m.length))).blk (c.mu id)=a6 b->(eu.box E cs).blk (c.mu id)=a6 b\/c.w.heap.size<=b:=fun b A=>.inl A;have S: ∀(b:Nat) (L:Loop),(eu.box E cs).blk (c.mu id)=a6 b->c.w.heap[b]? =a6 (Obj.loop L)-> ∃L':Loop,(c.w.setRow (c.mu id).blk (us.toList.take f++(a.eval y).cells.toList++us.toList.drop (f+(a.eval y).cells.size)).toArray).heap[b]? =a6 (Obj.loop L'):=fun b L A U=>absurd U ((s.obj id _ z).no_loop (by simp) A);have Y:=Cx.Le.put (w:=c.w.setRow (c.mu id).blk (us.toList.take f++(a.eval y).cells.toList++us.toList.drop (f+(a.eval y).cells.size)).toArray) s z J M N O S;have ag:Below W0.heap.size W0 (c.w.setRow (c.mu id).blk (us.toList.take f++(a.eval y).cells.toList++us.toList.drop (f+(a.eval y).cells.size)).toArray):=
     s.bel.trans ⟨rfl,rfl,rfl,by simp,fun k hk=>setRow_other _ _ _ _ (by omega)⟩
    refine⟨c.put id _ (c.mu id) _,_,h,⟨by simp[Cx.put,W],ao,rfl,rfl,s.put z J ag M N O S ?_,Y⟩,ay _ _ G⟩;refine⟨by simp only[Cx.put,upd_same];exact hB,(us.toList.take f++(a.eval y).cells.toList++us.toList.drop (f+(a.eval y).cells.size)).toArray, ?_, ?_, ?_⟩
    .simp only[Cx.put,upd_same]
     grind [setRow_heap]
    .grind [bT.append,bT.take,bT.drop,bT.le]
    grind
   .cases h
  .cases h
 .rename_i id aG i f ab
  rw[ab]at D;split at h
  .rename_i e u j I
   rw[<-W]at I;replace h:=dN h;obtain⟨ak,h⟩:=h;have ak:u=aG:=by simpa using ak
   subst ak;replace h:=dN h;obtain⟨V,h⟩:=h;have V:i<j.length:=by simpa [TS] using V
   split at h
   .rename_i cs X
    split at h
    .rename_i x' aI
     simp only[dn]at D;obtain⟨B,n',aJ,q1,q2⟩:=(D.2.2 _ _ _ I).2 rfl;obtain⟨aK,e0,zs,al,U,aO⟩:=s.obj id _ I;rcases al.2 with ⟨Z,e2⟩|⟨g,bg,l,Z,e2,e3,e4,e5,e6,e7⟩
     .omega
     rw[q1]at Z;simp only[Value.slice.injEq,Option.some.injEq,Addr.mk.injEq,and_true]at Z;obtain⟨rfl,rfl,rfl⟩:=Z;obtain⟨d,d1,d2,p,q,d3,d4⟩:=gW.at_ i j zs V U;have aP:j.getD i e.dflt=j[i]:=by simp[List.getD,V]
     rw[aP]at X;obtain⟨p1,rfl⟩:=Kz X;have hf:=Gy (c:=c) e _ _ d2;have bi:=bT.length _ _ hf;have bn:f+m.length<=d.length:=by omega
     have aS:=bT.append _ _ _ _ (bT.append _ _ _ _ (bT.take f _ _ hf) r1) (bT.drop (f+m.length) _ _ hf);have az:=qm aI aS;have aU:=fZ.length _ _ _ az;have an:l.toList=p++d++q++l.toList.drop (j.length*e.size):=by
      grind [List.take_append_drop]
     have z:l.size=j.length*e.size+(l.toList.drop (j.length*e.size)).length:=by
      have h1:=congrArg List.length an;have h2:=congrArg List.length d3;rw[al.1]at h2
      grind
     have aA:=congrArg List.length d3;rw[al.1]at aA;simp only[ai]at aA;have G:=Tn (o:=i*e.size+f) hT hk e3 (v:=a.eval y) (by rw[<-hl,aw]) (by omega) r2;rw[<-q2]at G;have aV:l.toList.take (i*e.size+f)++(a.eval y).cells.toList++l.toList.drop (i*e.size+f+(a.eval y).cells.size)=p++(d.take f++(a.eval y).cells.toList++d.drop (f+m.length))++q++l.toList.drop (j.length*e.size):=by
      have t1:l.toList.take (i*e.size+f)=p++d.take f:=by
       rw[an,ah,ah,List.take_append,List.take_of_length_le (by omega),d4,Nat.add_sub_cancel_left,List.take_append_of_le_length (by omega)]
      have t2:l.toList.drop (i*e.size+f+(a.eval y).cells.size)=d.drop (f+m.length)++q++l.toList.drop (j.length*e.size):=by
       conv=>lhs;rw[an]
       rw[ah,ah,List.drop_append,aB (by omega),aH,d4,List.drop_append,List.drop_append];have z1:i*e.size+f+(a.eval y).cells.size-i*e.size=f+m.length:=by omega
       have z2:f+m.length-d.length=0:=by omega
       rw[z1,z2];simp
      rw[t1,t2];simp
     rw[aV]at G;have aW:=gW.set x' (d.take f++(a.eval y).cells.toList++d.drop (f+m.length)) aU az i j p d q V (by grind) d4 d1;generalize d.take f++(a.eval y).cells.toList++d.drop (f+m.length)=d' at*;have J:(eu.arr e u j).like (c.mu id) (.arr e u (iL j i x')) (c.mu id):=⟨ae _,fun _=>⟨rfl,rfl⟩⟩;have aX:(eu.arr e u j).blk (c.mu id)=a6 B:=by simp[eu.blk,q1,Value.ownBlock]
     have M:c.w.heap.size<=(c.w.setRow B (p++d'++q++l.toList.drop (j.length*e.size)).toArray).heap.size:=by simp
     have N: ∀b,b<c.w.heap.size->(eu.arr e u j).blk (c.mu id)≠a6 b->(c.w.setRow B (p++d'++q++l.toList.drop (j.length*e.size)).toArray).heap[b]? =c.w.heap[b]? :=
      fun b _ ad=>setRow_other _ _ _ _ (fun e=>ad (by rw[aX,e]))
     have O: ∀b,(eu.arr e u (iL j i x')).blk (c.mu id)=a6 b->(eu.arr e u j).blk (c.mu id)=a6 b\/c.w.heap.size<=b:=fun b A=>.inl A;have S: ∀(b:Nat) (L:Loop),(eu.arr e u j).blk (c.mu id)=a6 b->c.w.heap[b]? =a6 (Obj.loop L)-> ∃L':Loop,(c.w.setRow B (p++d'++q++l.toList.drop (j.length*e.size)).toArray).heap[b]? =a6 (Obj.loop L'):=fun b L A U=>absurd U ((s.obj id _ I).no_loop (by simp) A);have Y:=Cx.Le.put (w:=c.w.setRow B (p++d'++q++l.toList.drop (j.length*e.size)).toArray) s I J M N O S;have ag:Below W0.heap.size W0 (c.w.setRow B (p++d'++q++l.toList.drop (j.length*e.size)).toArray):=
      s.bel.trans ⟨rfl,rfl,rfl,by simp,fun k hk=>setRow_other _ _ _ _ (by omega)⟩
     refine⟨c.put id _ (c.mu id) _,_,h,⟨by simp[Cx.put,W],ao,rfl,rfl,s.put I J ag M N O S ?_,Y⟩,ay _ _ G⟩;refine⟨aK,e0,p++d'++q, ?_,gW.mono (fZ.mono Y.free e) _ _ aW,aO⟩;have aY:(p++d'++q).length=j.length*e.size:=by
      grind
     simp only[Cx.put,upd_same,iL,List.length_set];refine⟨aY,.inr ⟨B,aJ,_,q1,e2,setRow_heap c.w _ l _ e0 _ e3,e4,e5, ?_, ?_⟩⟩
     all_goals grind
    .cases h
   .cases h
  .cases h
 .cases h
theorem Ky {w:World} {B:Nat} {e:TypeId} {size n:Nat} {v d:Value} {i:List Value} (h:w.ownsRow B e size v n i) {hi:Int} (D:0<=hi) (E:hi<=n) (s:jv size v (a6 (0,hi)) d):
  w.ownsRow B e size d hi.toNat (i.take (hi.toNat*size))/\ ∀b,d.ownBlock=a6 b->v.ownBlock=a6 b:=by
 obtain⟨a,m,cp,j,_,_,G,u⟩:=s;have hk:hi.toNat<=n:=by omega
 have q:(i.take (hi.toNat*size)).length=hi.toNat*size:=by
  rw[aZ,h.1];simp_all
 rcases h.2 with ⟨f,l⟩|⟨g,I,x,f,l,y,J,z,A,K⟩
 .rw[j]at f;cases f;subst l;have:hi.toNat=0:=by omega
  have o:d=.slice a7 0 0:=by rw[u,this];rfl
  subst o;refine⟨⟨q,.inl ⟨rfl,this⟩⟩,fun b p=>by cases p⟩
 .rw[j]at f;cases f;have o:d=.slice (a6 ⟨g,0,a7⟩) hi.toNat cp:=by
   grind [Addr.add]
  subst o;subst j;refine⟨⟨q,.inr ⟨g,cp,x,rfl,l,y,by omega,z,A, ?_⟩⟩,fun b p=>p⟩
  grind
theorem aCF {st:St} {c':Cx} {j:St} (hd:Gg W0 c st c' j) {id off i:Nat} {l:TypeId} {cs:List di} {e:Ty} {w:Nat} {xs:List e.den} {hi:Int} (ak:id≠i)
  (s:eG j.hp id=a6 (.box l cs)) (g:eG j.hp i=a6 (.arr e w xs)) (al:cs.getD off .undef=.slc i w (a6 (0,hi))):
  ∃u,Gg W0 c st u {j with hp:=jB (jB j.hp i (.arr e (w+1) (xs.take hi.toNat))) id (.box l (cs.set off (.slc i (w+1) a7)))}/\u.w=c'.w:=by
 have m:=hd.ok;rw[<-hd.hp]at s g;obtain⟨hB,us,h3,v,G⟩:=m.obj id _ s;have an:cs.length=us.toList.length:=bT.length _ _ v;have ao:off<cs.length:=by
  grind
 have au:off<us.toList.length:=by omega
 have I:dn c' (.slc i w (a6 (0,hi))) us.toList[off]:=by
  have:=bT.getD v off;simp_all
 obtain⟨J,K,M,x,d,N⟩:=m.obj i _ g;have o:=I;simp only[dn]at o;have y:=(o.2.2 _ _ _ g).2 rfl;have⟨O,S⟩:0<=hi/\hi<=bM xs:=by
  obtain⟨a1,n1,f,z,_,U,V,_⟩:=y;obtain⟨a2,c2,W,_⟩:=ut x;rw[W]at z;cases z;exact⟨U,V⟩
 obtain⟨av,A⟩:=Ky x O S y;have hk:(eu.arr e w xs).like (c'.mu i) (.arr e (w+1) (xs.take hi.toNat)) ⟨(c'.mu i).blk,us.toList[off]⟩:=⟨by omega,fun e=>by omega⟩;have B:=Cx.Le.put (w:=c'.w) m g hk (ae _) (fun _ _ _=>rfl) (fun b h=>.inl (A b h)) (fun b L _ d=>⟨L,d⟩);have p:=Cx.Ok.put (w:=c'.w) m g hk m.bel (ae _) (fun _ _ _=>rfl) (fun b h=>.inl (A b h)) (fun b L _ d=>⟨L,d⟩) (by
  refine⟨J,K,M.take (hi.toNat*e.size), ?_,gW.take _ _ _ (gW.mono (fZ.mono B.free e) _ _ d),N⟩;simp_all [bM,Cx.put,upd_same])
 have aw:dn (c'.put i (eu.arr e (w+1) (List.take hi.toNat xs)) ⟨(c'.mu i).blk,us.toList[off]⟩ c'.w) (.slc i (w+1) a7) us.toList[off]:=by
  simp only[dn];refine⟨o.1,.inl ⟨_,Cx.put_get g⟩,fun t' u' ay X=> ?_⟩;rw[Cx.put_get g]at X;simp_all [jv,Cx.put,upd_same]
 have D:eG (c'.put i (eu.arr e (w+1) (List.take hi.toNat xs)) ⟨(c'.mu i).blk,us.toList[off]⟩ c'.w).hp id=a6 (.box l cs):=by
  simp only[Cx.put,jR]
  grind
 have az:(c'.put i (eu.arr e (w+1) (List.take hi.toNat xs)) ⟨(c'.mu i).blk,us.toList[off]⟩ c'.w).mu id=c'.mu id:=by
  simp_all [Cx.put,upd_ne]
 generalize q:c'.put i (eu.arr e (w+1) (List.take hi.toNat xs)) ⟨(c'.mu i).blk,us.toList[off]⟩ c'.w=f at*;have Y:f.w=c'.w:=by rw[<-q];rfl
 have Z:f.hp=jB c'.hp i (.arr e (w+1) (xs.take hi.toNat)):=by rw[<-q];rfl
 have ab:f.nxt=c'.nxt:=by rw[<-q];rfl
 have E:(eu.box l cs).like (f.mu id) (.box l (cs.set off (.slc i (w+1) a7))) (f.mu id):=rfl;have ad:=Cx.Le.put (w:=f.w) p D E (ae _) (fun _ _ _=>rfl) (fun b h=>.inl h) (fun b L _ d=>⟨L,d⟩);have ag:=Cx.Ok.put (w:=f.w) p D E p.bel (ae _) (fun _ _ _=>rfl) (fun b h=>.inl h) (fun b L _ d=>⟨L,d⟩) (by
  refine⟨by simp_all [Cx.put,upd_same],us,by simp_all [Cx.put,upd_same], ?_,G⟩
  grind [bT.le,bT.setL])
 refine⟨_,⟨?_, ?_,hd.fr,hd.stk,ag,(hd.le.trans B).trans ad⟩,Y⟩
 .simp only[Cx.put];rw[Z,hd.hp]
 .show f.nxt=j.nxt;rw[ab,hd.nxt]
theorem arM {g:iw} {st:St} {x y:di} {K:St->Option R} {c':Cx} {f:St} (hd:Gg W0 c st c' f) (h:agF g f x y K=a6 r): ∃d e,K e=a6 r/\Gg W0 c st d e/\d.w=c'.w:=by
 have same:K f=a6 r-> ∃d e,K e=a6 r/\Gg W0 c st d e/\d.w=c'.w:=fun h=>⟨c',f,h,hd,rfl⟩;unfold agF at h;split at h
 .split at h
  .split at h
   .rw[cond_eq_ite]at h;split at h
    .rename_i i
     simp only[af,Bool.not_eq_true']at i;split at h
     .rename_i l m
      split at h
      .rename_i o
       rw[cond_eq_ite]at h;split at h
       .rename_i j
        simp only[af,beq_iff_eq]at j
        grind [aj,aCF]
       .exact same h
      .exact same h
     .exact same h
    .exact same h
   .exact same h
  .exact same h
 .exact same h
theorem aDI (hT:TOk P T) (l:c.Ok W0) {cl:Bool} {call:gY R} {o:Oper} {st:St} {a:Act} {K:di->St->Option R} {x y:Operand} (m:c.hp=st.hp) (p:c.nxt=st.nxt) (q:bT c st.fr a.tmps.toList)
  (d:o.op=.store t x y) (h:fE T cl call o st K=a6 r):KQ P W0 c st o a K r:=by
 obtain⟨e,E,f,g,i,j⟩:=o;simp only at d;subst d;simp only[fE]at h;obtain⟨G,I,s,hd,u⟩:=ayj (dst:=e) (ty:=f) (pos:=g) (after:=i) (guard:=j) hT l m p q h;obtain⟨v,z,A,B,D⟩:=arM hd s;exact⟨_,undef,v,z,A,B,by simp[dn],.inr ⟨by rw[D];exact u,rfl⟩⟩
theorem Zu (w:World) (t d ty:TypeId) (B size n:Nat) (v:Value) (f:List Value) (e:TypeId) (h:w.ownsRow B e size v n f) (i:P.underlying ty=a6 (.pointer d)):
  ∃u w',(Builtin.unsafeSliceData_ #[t] ty #[v]).run P w=.ok u w'/\Below w.heap.size w w'/\u.oneCell'=true/\(∃p,u=.pointer p)/\ ∀a m cp,v=.slice a m cp->m≠0->u=.pointer a:=by
 rcases h.2 with ⟨rfl,rfl⟩|⟨g,j,l,rfl,_,o,s,_⟩
 .exact⟨_,w,Lib.run_unsafeSliceData_nil w _ _ 0 0,Below.refl _ _,rfl,⟨_,rfl⟩,fun a m cp h q=>by simp_all⟩
 .by_cases hc:j=0
  .subst hc;refine⟨_,_,Lib.run_unsafeSliceData_zero w _ _ d i ⟨g,0,a7⟩ n (e,l.size) (by simp[World.shape?,o]),oZ _ _,rfl,⟨_,rfl⟩,fun a m cp h q=> ?_⟩;cases h;omega
  .exact⟨_,w,Lib.run_unsafeSliceData_row w _ _ _ _ _ hc,Below.refl _ _,rfl,⟨_,rfl⟩,fun a m cp h _=>by cases h;rfl⟩
theorem ahz (hT:TOk P T) (q:c.Ok W0) {cl:Bool} {call:gY R} {o:Oper} {st:St} {a:Act} {K:di->St->Option R} {args:Array Operand} {i:Array TypeId} (s:c.hp=st.hp) (E:c.nxt=st.nxt) (G:bT c st.fr a.tmps.toList)
  (x:o.op=.call {callee:=.builtin .unsafeSliceData,args:=args,argTypes:=i}) (h:fE T cl call o st K=a6 r):KQ P W0 c st o a K r:=by
 obtain⟨I,op,j,J,L,M⟩:=o;simp only at x;subst x;simp only[fE,kV]at h;split at h<;>try (cases h;done)
 all_goals try (rename_i y _;cases y;done)
 rename_i id ak y f
 split at h<;>try (cases h;done)
 rename_i t z
 split at h<;>try (cases h;done)
 rename_i e v N d
 rw[cond_eq_ite]at h;split at h
 .rename_i A
  simp only[af,beq_iff_eq]at A;obtain⟨rfl,an,O⟩:=A;obtain⟨i⟩:=i;simp only at z;subst z;obtain⟨S⟩:=args
  match S with
  |[]=>simp at f
  |_::_::_=>simp at f
  |[l]=>
   simp only[ax,List.map_nil,List.cons.injEq,and_true]at f;have m:=eF G l;rw[f]at m;simp only[dn]at m;rw[<-s]at d;have B:=(m.2.2 _ _ _ d).2 rfl;simp only[jv]at B;obtain⟨_,U,V,W,hL,ao⟩:=q.obj id _ d;obtain⟨X,Y⟩:=hT.isPtr O;obtain⟨u,p,Z,D,ab,hp,ad⟩:=Zu c.w t X j W0.heap.size e.size N.length (c.mu id).v V U W Y;refine⟨_,u,c.at_ p,st,h,⟨s,E,rfl,rfl,q.ext D,Cx.Le.ext D⟩, ?_,.inl ?_⟩
   .simp only[dn];refine⟨ab,.inl ⟨_,d⟩,fun t' u' ag g=> ?_⟩;have g:eG c.hp id=a6 (.arr t' u' ag):=g;rw[d]at g;cases g;exact⟨ae _,fun _=>⟨hp,ad⟩⟩
   .have:(execOp a.eval ⟨I,.call {callee:=.builtin .unsafeSliceData,args:=[l].toArray,argTypes:=[t].toArray},j,J,L,M⟩).run P c.w=
      ((Builtin.unsafeSliceData_ #[t] j #[a.eval l]).run P c.w).andThen fun v p=>.ok (.value v) p:=by
     simp[execOp,resolve,invoke,builtin,Sem.run_bind]
    rw[this,B,Z];rfl
 .cases h
theorem O9 (w:World): ∀(xs:List Int) (a:Addr) (d:ByteArray),(∀j x,xs[j]? =a6 x->w.cell? (a.add j)=a6 (.int .u8 x))->(loadBytes a d xs.length).run P w=.ok (xs.foldl (fun r n=>r.push (UInt8.ofNat n.toNat)) d) w
 |[],a,d,_=>by simp[loadBytes]
 |x::xs,a,d,h=>by
  have f:w.cell? a=a6 (.int .u8 x):=by
   have:=h 0 x rfl
   assumption
  have g:=O9 w xs (a.add 1) (d.push (UInt8.ofNat x.toNat)) fun j y e=>by
   have:=h (j+1) y (by simpa using e)
   grind [Addr.add]
  simp_all [loadBytes]
theorem X8 {d it ty e:TypeId} (hp:P.underlying d=a6 (.pointer e)) (h:P.cellsOf e=1) (w:World) (g cells:Nat) (i:w.shape? g=a6 (e,cells)) (xs:List Int) (l:xs≠[]) (B:xs.length<=cells) (D:xs.length<=9223372036854775807)
  (m: ∀j x,xs[j]? =a6 x->w.cell? ((⟨g,0,a7⟩:Addr).add j)=a6 (.int .u8 x)):
  (Builtin.unsafeString_ #[d,it] ty #[.pointer (a6 ⟨g,0,a7⟩),.int .i64 xs.length]).run P w=.ok (.string ⟨(ofBytes xs).toArray⟩) (w.freeze ⟨g,0,a7⟩ xs.length):=by
 have o:xs.length≠0:=by simpa using l
 have p:=O9 (P:=P) w xs ⟨g,0,a7⟩ .empty m;have q:=Lib.liesAt_bytes (P:=P) h (cells/P.cellsOf e) xs.length (by simp_all);have u: ¬(9223372036854775807:Int)<(xs.length:Int):=by omega
 have v:Builtin.unsafeString_ #[d,it] ty #[.pointer (a6 ⟨g,0,a7⟩),.int .i64 xs.length]=
   (do
    let n<-asInt (.int .i64 xs.length)
    if n<0 then runtimePanic (.error "unsafe.String: len out of range")
    if n>IntKind.i64.max then unsupported (.unsafePointer "String: a length above the largest int")
    if n=0 then pure (.string .empty)
    else if<-variablesAt ⟨g,0,a7⟩ (<-elemOf d) n.toNat then do
     let s<-loadBytes ⟨g,0,a7⟩ .empty n.toNat
     freeze ⟨g,0,a7⟩ n.toNat
     pure (.string s)
    else unsupported (.unsafePointer "String: not so many bytes at ptr")):=rfl
 rw[v];have y:IntKind.i64.max=9223372036854775807:=rfl;have z: ¬(xs.length:Int)<0:=by omega
 have f:=Ql xs [];have A:(⟨([]:List UInt8).toArray⟩:ByteArray)=.empty:=rfl;rw[A]at f;simp[asInt,asIntOf,y,u,z,o,variablesAt,i,elemOf,run_underlying hp,q,p];exact f
theorem ahw (d:c.Ok W0) {st:St} (u:c.hp=st.hp) (x:c.nxt=st.nxt) {id f:Nat} {e:Ty} {xs:List e.den} (i:eG c.hp id=a6 (.arr e f xs)) {w':World} (j:c.w.heap.size<=w'.heap.size)
  (m: ∀b,(c.mu id).v.ownBlock≠a6 b->w'.heap[b]? =c.w.heap[b]?) (l:w'.os=c.w.os/\w'.tape=c.w.tape/\w'.output=c.w.output):
  ∃c',Gg W0 c st c' {st with hp:=jB st.hp id .dead}/\c'.w=w':=by
 have o:(eu.arr e f xs).like (c.mu id) .dead (c.mu id):=trivial;have p: ∀(b:Nat) (L:Loop),(eu.arr e f xs).blk (c.mu id)=a6 b->c.w.heap[b]? =a6 (Obj.loop L)-> ∃y:Loop,w'.heap[b]? =a6 (Obj.loop y):=fun b L g z=>absurd z ((d.obj id _ i).no_loop (by simp) g);have q: ∀b,eu.dead.blk (c.mu id)=a6 b->(eu.arr e f xs).blk (c.mu id)=a6 b\/c.w.heap.size<=b:=fun b g=>by cases g
 have s: ∀b,b<c.w.heap.size->(eu.arr e f xs).blk (c.mu id)≠a6 b->w'.heap[b]? =c.w.heap[b]? :=fun b _ A=>m b A;have B:Below W0.heap.size W0 w':=by
  refine⟨l.1.trans d.bel.os,l.2.1.trans d.bel.tape,l.2.2.trans d.bel.output,aQ d.bel.size j,fun b g=>(m b fun h=> ?_).trans (d.bel.block b g)⟩;have:=((d.obj id _ i).lt (b:=b) h).1;omega
 have D:=Cx.Le.put (w:=w') d i o j s q p;exact⟨c.put id .dead (c.mu id) w',⟨by simp[Cx.put,u],x,rfl,rfl,d.put i o B j s q p trivial,D⟩,rfl⟩
theorem WY (hT:TOk P T) (y:c.Ok W0) {cl:Bool} {call:gY R} {o:Oper} {st:St} {a:Act} {K:di->St->Option R} {args:Array Operand} {z:Array TypeId} (A:c.hp=st.hp) (U:c.nxt=st.nxt) (V:bT c st.fr a.tmps.toList)
  (W:o.op=.call {callee:=.builtin .unsafeString,args:=args,argTypes:=z}) (h:fE T cl call o st K=a6 r):KQ P W0 c st o a K r:=by
 obtain⟨an,op,l,ao,au,av⟩:=o;simp only at W;subst W;simp only[fE,kV]at h;split at h<;>try (cases h;done)
 all_goals try (rename_i u _;cases u;done)
 rename_i id aU n u f
 split at h<;>try (cases h;done)
 rename_i B m X
 split at h<;>try (cases h;done)
 rename_i v d q
 rw[cond_eq_ite]at h;split at h
 .rename_i Y
  simp only[af,beq_iff_eq]at Y;obtain⟨rfl,aw⟩:=Y;replace h:=gX h;obtain⟨D,h⟩:=h;have D:n=(d.length:Int):=by simpa [bZ,bM] using D
  subst D;obtain⟨z⟩:=z;simp only at X;subst X;obtain⟨al⟩:=args
  match al with
  |[]=>simp at f
  |[_]=>simp at f
  |_::_::_::_=>simp at f
  |[E,G]=>
   simp only[ax,List.map_nil,List.cons.injEq,and_true]at f;have I:=eF V E;have i:=eF V G;rw[f.1]at I;rw[f.2]at i;simp only[dn]at I i;have i:=i.int_inv;rw[<-A]at q;obtain⟨hp,ay⟩:=(I.2.2 _ _ _ q).2 rfl;obtain⟨_,e0,Z,ab,hL,J⟩:=y.obj id _ q;have J:=J rfl;obtain⟨az,aA⟩:=hT.isBytes aw;have ad:(execOp a.eval ⟨an,.call {callee:=.builtin .unsafeString,args:=[E,G].toArray,argTypes:=[B,m].toArray},l,ao,au,av⟩).run P c.w=
     ((Builtin.unsafeString_ #[B,m] l #[a.eval E,a.eval G]).run P c.w).andThen fun v L=>.ok (.value v) L:=by
    simp[execOp,resolve,invoke,builtin,Sem.run_bind]
   have aF:Z=d.map (.int .u8):=Ls d Z hL;by_cases hx:d=[]
   .subst hx;obtain⟨p,hp⟩:=hp;obtain⟨M,N,O⟩:=ahw y A U q (w':=c.w) (ae _) (fun _ _=>rfl) ⟨rfl,rfl,rfl⟩;refine⟨_,.string .empty,M,_,h,N, ?_,.inl ?_⟩
    .simp only[dn];exact VD.str_mk
    .rw[ad,hp,i];have:=Lib.run_unsafeString_none (P:=P) c.w B m l p;simp only[List.length_nil,Int.natCast_zero]at this ⊢;rw[this,O];rfl
   .have s:d.length≠0:=by simpa using hx
    rcases ab.2 with ⟨_,h0⟩|⟨g,aG,ag,S,aV,hg,aW,aI,ak,aX⟩
    .exact absurd h0 s
    .have hp:=ay _ _ _ S s;have aJ: ∀b,(c.mu id).v.ownBlock≠a6 b->(c.w.freeze ⟨g,0,a7⟩ d.length).heap[b]? =c.w.heap[b]? :=fun b u=>by
      have aK:g≠b:=fun e=>u (by rw[S,<-e];rfl);unfold World.freeze;rw[aq s];simp only[Array.getElem?_modify];rw[aq aK]
     have aO:(c.w.freeze ⟨g,0,a7⟩ d.length).heap.size=c.w.heap.size:=by
      unfold World.freeze;rw[aq s];simp
     have aP:(c.w.freeze ⟨g,0,a7⟩ d.length).os=c.w.os/\(c.w.freeze ⟨g,0,a7⟩ d.length).tape=c.w.tape/\(c.w.freeze ⟨g,0,a7⟩ d.length).output=c.w.output:=by
      unfold World.freeze;rw[aq s];exact⟨rfl,rfl,rfl⟩
     obtain⟨M,N,O⟩:=ahw y A U q (w':=c.w.freeze ⟨g,0,a7⟩ d.length) (Nat.le_of_eq aO.symm) aJ aP;refine⟨_,.string ⟨(ofBytes d).toArray⟩,M,_,h,N, ?_,.inl ?_⟩
     .simp only[dn];exact VD.str_mk
     .rw[ad,hp,i];have aS: ∀j x,d[j]? =a6 x->c.w.cell? ((⟨g,0,a7⟩:Addr).add j)=a6 (.int .u8 x):=fun j x hj=>by
       have:=ab.cells (g:=g) (by rw[S];rfl) j (.int .u8 x) (by rw[aF];simp[hj]);exact this
      have ak:ag.size=aG:=by simpa [Ty.size] using ak
      rw[X8 (ty:=l) (it:=m) az aA c.w g ag.size (by rw[<-J];simp[World.shape?,hg]) d hx (by omega) (by unfold maxLen at aI;omega) aS,O];rfl
 .cases h
end
end
section
open Option renaming some → a6, none → a7
open Bool renaming and_eq_true → af
open List renaming map_cons → ax
open Go.RowKit
theorem Wu {d l:IntKind} {a:Int}: ∀(f:List MapEntry) (g:List (Int×Int)) (i:Nat),f.map (fun e=>(e.key,e.val))=g.map (fun p=>(Value.int d p.1,Value.int l p.2))->
  (GZ g a=a7/\Instr.findNow (.int d) (.int d a) f i=a6 a7/\ ∀b cl,(f++[(⟨.int d a,.int l b,cl⟩:MapEntry)]).map (fun e=>(e.key,e.val))=(wX g a b).map (fun p=>(Value.int d p.1,Value.int l p.2)))\/
  ∃v j,GZ g a=a6 v/\Instr.findNow (.int d) (.int d a) f i=a6 (a6 (i+j,.int l v))/\(∃o,f[j]? =a6 o/\o.key=.int d a)/\
   ∀b,(f.modify j (fun e=>{e with key:=.int d a,val:=.int l b})).map (fun e=>(e.key,e.val))=(wX g a b).map (fun p=>(Value.int d p.1,Value.int l p.2))
 |[],[],i,_=>.inl ⟨rfl,rfl,fun b cl=>rfl⟩
 |[],_::_,_,h=>by simp at h
 |_::_,[],_,h=>by simp at h
 |e::f,(k,v)::g,i,h=>by
  simp only[ax,List.cons.injEq,Prod.mk.injEq]at h;obtain⟨⟨s,x⟩,u⟩:=h;have q:Instr.sameNow (.int d) (.int d a) e.key=a6 (a==k):=by rw[s];simp[Instr.sameNow]
  by_cases hak:a=k
  .subst hak;refine .inr ⟨v,0,by simp[GZ,bZ], ?_,⟨e,rfl,s⟩,fun b=> ?_⟩
   .simp[Instr.findNow,q,x]
   .simp[wX,bZ,u]
  .have m:(a==k)=false:=by simpa using hak
   rw[m]at q;rcases Wu (a:=a) f g (i+1) u with ⟨g1,g2,g3⟩|⟨y,j,g1,g2,⟨o,g3,g4⟩,g5⟩
   .refine .inl ⟨by simp[GZ,bZ,m,g1],by simp[Instr.findNow,q,g2],fun b cl=> ?_⟩;have:=g3 b cl;simp only[wX,bZ,m,ac,List.cons_append,ax,List.cons.injEq,Prod.mk.injEq];simp_all
   .refine .inr ⟨y,j+1,by simp[GZ,bZ,m,g1], ?_,⟨o,by simpa using g3,g4⟩,fun b=> ?_⟩
    .grind [Instr.findNow]
    .have:=g5 b;simp only[wX,bZ,m,ac,List.modify_succ_cons,ax,List.cons.injEq,Prod.mk.injEq];simp_all
section
variable {P:Program} {T:TT} {W0:World} {c:Cx} {R:Type} {r:R} {t:TypeId}
theorem Xw (hT:TOk P T) {a b:IntKind} (h:T.mapOf t=a6 (a,b)): ∃k e,P.underlying t=a6 (.map k e)/\P.underlying k=a6 (.int a)/\ ∃i,P.info? e=a6 i/\i.zero=a6 (.int b 0):=by
 unfold TT.mapOf at h;replace h:=dN h;obtain⟨hk,h⟩:=h;split at h
 .rename_i k e g
  replace h:=dN h;obtain⟨d,h⟩:=h;simp only[af]at d;split at h
  .rename_i m o j l
   cases h;obtain⟨i,z,f,_⟩:=hT.info d.2;exact⟨k,e,hT.map hk g,hT.int d.1 j,i,f,hT.zero_int d.2 l f⟩
  .cases h
 .cases h
theorem aKu (g:c.Ok W0) {st:St} (h:c.hp=st.hp) (h2:c.nxt=st.nxt) {id n':Nat} (j:eG st.hp id=a7) (m:st.nxt<=id) (s:st.nxt<=n') (d e:IntKind):
  ∃c',Gg W0 c st c' {st with hp:=(id,.mp d e [])::st.hp,nxt:=n'}/\c'.w=c.w.alloc (.map #[] 0)/\dn c' (.mpv id) (.map (a6 c.w.heap.size)):=by
 have hk:=DC h h2 j m;have f:=oZ c.w (.map #[] 0);have i: ∀b,eu.blk (.mp d e []) ⟨c.w.heap.size,undef⟩=a6 b->c.w.heap.size<=b:=fun b f=>by
  simp_all [eu.blk]
 have p:=Cx.Le.push (o:=.mp d e []) (l:=⟨c.w.heap.size,undef⟩) (nxt:=n') (w:=c.w.alloc (.map #[] 0)) hk (by omega) f.size f.block i;have q:(c.push id (.mp d e []) ⟨c.w.heap.size,undef⟩ n' (c.w.alloc (.map #[] 0))).ORel W0.heap.size id (.mp d e []):=by
  refine⟨by simp[Cx.push,upd_same];exact g.size,#[],0, ?_,rfl⟩;simp only[Cx.push,upd_same];exact heap_alloc_new c.w _
 refine⟨_,⟨?_,rfl,rfl,rfl,g.push hk (by omega) f i q,p⟩,rfl, ?_⟩
 .simp[Cx.push,h]
 .simp only[dn];refine⟨rfl,.inl ⟨.mp d e [],by simp[Cx.push,fB]⟩,fun _ _ _ _=>by simp[Cx.push,upd_same]⟩
theorem asa (hT:TOk P T) (e:c.Ok W0) {cl:Bool} {call:gY R} {o:Oper} {st:St} {a:Act} {K:di->St->Option R} {f:Option Operand} (g:c.hp=st.hp) (i:c.nxt=st.nxt) (d:o.op=.makeMap t f)
  (h:fE T cl call o st K=a6 r):KQ P W0 c st o a K r:=by
 obtain⟨y,z,A,B,D,E⟩:=o;simp only at d;subst d;simp only[fE]at h;split at h
 .rename_i j l G
  obtain⟨id,I,m,p,q,u⟩:=jC h;obtain⟨J,v,L,x⟩:=aKu e g i m p q j l;refine uf (s:=Instr.makeMap t a7) rfl u v x (by simp_all [Instr.makeMap])
 .cases h
theorem ayi (hT:TOk P T) (f:c.Ok W0) {cl:Bool} {call:gY R} {o:Oper} {st:St} {a:Act} {K:di->St->Option R} {x y:Operand} {ok:Bool} (g:c.hp=st.hp) (q:c.nxt=st.nxt) (z:bT c st.fr a.tmps.toList) (A:o.op=.lookup t x y ok)
  (h:fE T cl call o st K=a6 r):KQ P W0 c st o a K r:=by
 obtain⟨Z,op,ty,ab,ad,ae⟩:=o;simp only at A;subst A;simp only[fE]at h;split at h
 .rename_i kk vk id L M
  split at h
  .rename_i ag d N B n l O
   replace h:=dN h;obtain⟨hk,h⟩:=h;simp only[af,decide_eq_true_eq]at hk;obtain⟨rfl,rfl,rfl⟩:=hk;obtain⟨kt,S,D,e,i,U,V⟩:=Xw hT L;have m:=eF z x;rw[M]at m;simp only[dn]at m;rw[<-g]at l;have E:=m.2.2 _ _ _ l;obtain⟨hB,W,ah,G,X⟩:=f.obj id _ l;have p:=eF z y;rw[O]at p;simp only[dn]at p;have I:=p.int_inv;have Y:(zeroValue S).run P c.w=.ok (.int d 0) c.w:=by simp[zeroValue,typeInfo,U,V]
   have J:MapKept.IsKey (.int B) (.int B n):=rfl;rcases Wu (a:=n) W.toList N 0 X with ⟨g1,g2,_⟩|⟨v,j,g1,g2,_,_⟩
   .simp only[nN,ay8,g1]at h;refine uf (s:=Instr.lookup t (a.eval x) (a.eval y) ok) (u:=if ok then .tuple #[.int d 0,.bool false]else .int d 0) rfl h (Gg.refl f g q) ?_ ?_
    .cases ok
     .simp_all [dn,VD.int_mk]
     .simp only[aa,dn,if_true];exact⟨_,rfl,by simp_all [bT,dn,VD.int_mk,VD.bool_mk]⟩
    .rw[E,I];simp[Instr.lookup,run_underlying D,MapKept.run_getObj_map G,MapKept.run_checkKey e J,MapKept.run_findKey e g2,Y,Result.andThen]
   .simp only[nN,ay8,g1]at h;refine uf (s:=Instr.lookup t (a.eval x) (a.eval y) ok) (u:=if ok then .tuple #[.int d v,.bool true]else .int d v) rfl h (Gg.refl f g q) ?_ ?_
    .cases ok
     .simp_all [dn,VD.int_mk]
     .simp only[aa,dn,if_true];exact⟨_,rfl,by simp_all [bT,dn,VD.int_mk,VD.bool_mk]⟩
    .rw[E,I];simp[Instr.lookup,run_underlying D,MapKept.run_getObj_map G,MapKept.run_checkKey e J,MapKept.run_findKey e g2,Result.andThen]
  .cases h
 .cases h
theorem ahy (hT:TOk P T) (u:c.Ok W0) {cl:Bool} {call:gY R} {o:Oper} {st:St} {a:Act} {K:di->St->Option R} {x y z:Operand} (S:c.hp=st.hp) (ae:c.nxt=st.nxt) (G:bT c st.fr a.tmps.toList) (U:o.op=.mapUpdate t x y z)
  (h:fE T cl call o st K=a6 r):KQ P W0 c st o a K r:=by
 obtain⟨ag,op,ty,ah,ai,aj⟩:=o;simp only at U;subst U;simp only[fE]at h;split at h
 .rename_i kk vk id hm ak
  split at h
  .rename_i az aA q f n m b s hn A
   replace h:=dN h;obtain⟨hk,h⟩:=h;simp only[af,decide_eq_true_eq]at hk;obtain⟨rfl,rfl,rfl,rfl⟩:=hk;obtain⟨kt,et,V,D,i,u3,u4⟩:=Xw hT hm;have I:=eF G x;rw[ak]at I;simp only[dn]at I;rw[<-S]at s;have hv:=I.2.2 _ _ _ s;obtain⟨hB,E,J,B,h4⟩:=u.obj id _ s;have M:=eF G y;rw[hn]at M;simp only[dn]at M;have al:=M.int_inv;have N:=eF G z;rw[A]at N;simp only[dn]at N;have an:=N.int_inv;have O:MapKept.IsKey (.int f) (.int f n):=rfl;have W: ∃g l,(Instr.mapUpdate t (a.eval x) (a.eval y) (a.eval z)).run P c.w=.ok () {c.w with heap:=c.w.heap.setIfInBounds (c.mu id).blk (.map g l)}/\g.toList.map (fun e=>(e.key,e.val))=(wX q n b).map (fun p=>(Value.int f p.1,Value.int m p.2)):=by
    rw[hv,al,an];rcases Wu (a:=n) E.toList q 0 h4 with ⟨g1,g2,g3⟩|⟨v,j,g1,g2,⟨e0,g3,g4⟩,g5⟩
    .exact⟨E.push ⟨.int f n,.int m b,J⟩,J+1,by
      simp[Instr.mapUpdate,run_underlying V,MapKept.run_getObj_map B,MapKept.run_checkKey D O,MapKept.run_findKey D g2,MapKept.run_setObj_map _ B,Result.andThen],by
      simp_all⟩
    .have hj:E[j]? =a6 e0:=by simpa using g3
     exact⟨E.modify j (fun e'=>{e' with key:=.int f n,val:=.int m b}),J,by
      simp[Instr.mapUpdate,run_underlying V,MapKept.run_getObj_map B,MapKept.run_checkKey D O,MapKept.run_findKey D g2,hj,g4,MapKept.run_keyThatStays O,MapKept.run_setObj_map _ B,Result.andThen],by
      simp_all⟩
   obtain⟨g,l,W,ao⟩:=W;have au:(execOp a.eval ⟨ag,.mapUpdate t x y z,ty,ah,ai,aj⟩).run P c.w=.ok .skip {c.w with heap:=c.w.heap.setIfInBounds (c.mu id).blk (.map g l)}:=by
    simp_all [execOp]
   have jB:=MapKept.heap_set (o':=Obj.map g l) B;have X:(eu.mp f m q).like (c.mu id) (.mp f m (wX q n b)) (c.mu id):=rfl;have Y:c.w.heap.size<=({c.w with heap:=c.w.heap.setIfInBounds (c.mu id).blk (.map g l)}:World).heap.size:=by simp
   have Z: ∀d,d<c.w.heap.size->(eu.mp f m q).blk (c.mu id)≠a6 d->({c.w with heap:=c.w.heap.setIfInBounds (c.mu id).blk (.map g l)}:World).heap[d]? =c.w.heap[d]? :=
    fun d _ av=>jB.2 d (fun e=>av (by simp[eu.blk,e]))
   have ab: ∀d,(eu.mp f m (wX q n b)).blk (c.mu id)=a6 d->(eu.mp f m q).blk (c.mu id)=a6 d\/c.w.heap.size<=d:=fun d A=>.inl A;have ad: ∀(d:Nat) (L:Loop),(eu.mp f m q).blk (c.mu id)=a6 d->c.w.heap[d]? =a6 (Obj.loop L)-> ∃L':Loop,({c.w with heap:=c.w.heap.setIfInBounds (c.mu id).blk (.map g l)}:World).heap[d]? =a6 (Obj.loop L'):=fun d L A hL=>absurd hL ((u.obj id _ s).no_loop (by simp) A);have aw:=Cx.Le.put (w:={c.w with heap:=c.w.heap.setIfInBounds (c.mu id).blk (.map g l)}) u s X Y Z ab ad;have ay:Below W0.heap.size W0 {c.w with heap:=c.w.heap.setIfInBounds (c.mu id).blk (.map g l)}:=
    u.bel.trans ⟨rfl,rfl,rfl,by simp,fun k hk=>jB.2 k (by omega)⟩
   refine⟨_,undef,c.put id _ (c.mu id) _,_,h,⟨by simp[Cx.put,S],ae,rfl,rfl,u.put s X ay Y Z ab ad ?_,aw⟩,by simp[dn],.inr ⟨au,rfl⟩⟩;refine⟨by simp only[Cx.put,upd_same];exact hB,g,l, ?_,ao⟩;simp_all [Cx.put,upd_same]
  .cases h
 .cases h
end
end
section
open Option renaming some → a6, none → a7
open Nat renaming le_refl → ae, le_trans → aQ
open Go.RowKit
def FW (rd:Option Nat):Fence:={Fence.wide with round:=rd}
theorem wC (rd:Option Nat) {n:Nat}:(FW rd).depth.isSome=true->1<=n:=fun h=>by simp[FW,Fence.wide]at h
def mkD (r:Nat):Deferred:={target:=.collected r,args:= #[]}
def FU (c:Cx):List (List di)->List (Array Value)->Prop
 |[],[]=>True
 |f::d,t::e=>bT c f t.toList/\FU c d e
 |_,_=>False
theorem FU.le {c c':Cx} (h:c.Le c'): ∀(e:List (List di)) (g:List (Array Value)),FU c e g->FU c' e g
 |[],[],_=>trivial
 |f::e,t::g,d=>⟨bT.le h _ _ d.1,FU.le h e g d.2⟩
 |[],_::_,d=>d.elim
 |_::_,[],d=>d.elim
structure Cx.Mono (c c':Cx):Prop where
 mks: ∀r,r∈c.mks->r∈c'.mks
 lp: ∀(b:Nat) (L:Loop),c.w.heap[b]? =a6 (Obj.loop L)-> ∃L':Loop,c'.w.heap[b]? =a6 (Obj.loop L')
 size:c.w.heap.size<=c'.w.heap.size
 bar:c'.bar=c.bar
 out: ∀b,c.out b->c'.out b/\c'.w.heap[b]? =c.w.heap[b]?
theorem Cx.Le.mono {c c':Cx} (h:c.Le c'):c.Mono c':=⟨h.mks,h.lp,h.size,h.bar,h.out⟩
theorem Cx.Mono.refl (c:Cx):c.Mono c:=⟨fun _ h=>h,fun b L h=>⟨L,h⟩,ae _,rfl,fun _ h=>⟨h,rfl⟩⟩
theorem Cx.Mono.trans {a b c:Cx} (h:a.Mono b) (k:b.Mono c):a.Mono c:=
 ⟨fun r e=>k.mks r (h.mks r e),fun b L f=>let⟨g,i⟩:=h.lp b L f;k.lp b g i,aQ h.size k.size,k.bar.trans h.bar,fun x d=>⟨(k.out x (h.out x d).1).1,(k.out x (h.out x d).1).2.trans (h.out x d).2⟩⟩
structure je (W0:World) (b0:Nat) (rd:Option Nat) (c:Cx) (st:St) (a:Act) (ats:List (Array Value)):Prop where
 hp:c.hp=st.hp
 nxt:c.nxt=st.nxt
 ok:c.Ok W0
 fr:bT c st.fr a.tmps.toList
 stk:FU c st.stk ats
 df: ∃ds:List Nat,a.defers=ds.map mkD/\ds.Nodup/\ ∀r∈ds,r∈c.mks/\b0<=r
 rd: ∀l,rd=a6 l-> ∃L:Loop,c.w.heap[l]? =a6 (Obj.loop L)
section
variable {P:Program} {T:TT} {W0:World} {b0 n:Nat} {rd:Option Nat} {c:Cx} {R:Type} {r:R} {st:St} {a:Act} {ats:List (Array Value)}
theorem azw (a:Act) (dst:Option Nat) (v:Value) (fr:List di) (z:di) (h:bT c fr a.tmps.toList) (e:dn c z v):bT c (match dst with|some d=>fr.set d z|none=>fr) (a.put dst v).tmps.toList:=by
 grind [Act.put,bT.set]
theorem aLf (st:St) (dst:Option Nat) (z:di):(st.put dst z).fr=(match dst with|some d=>st.fr.set d z|none=>st.fr)/\(st.put dst z).hp=st.hp/\(st.put dst z).nxt=st.nxt/\(st.put dst z).stk=st.stk:=by
 cases dst<;>exact⟨rfl,rfl,rfl,rfl⟩
theorem put_defers (a:Act) (dst:Option Nat) (v:Value):(a.put dst v).defers=a.defers:=by cases dst<;>rfl
theorem je.put (h:je W0 b0 rd c st a ats) {dst:Option Nat} {z:di} {v:Value} (d:dn c z v):je W0 b0 rd c (st.put dst z) (a.put dst v) ats:=by
 obtain⟨e,f,g,i⟩:=aLf st dst z;exact⟨h.hp.trans f.symm,h.nxt.trans g.symm,h.ok,by rw[e];exact azw a dst v _ z h.fr d,by rw[i];exact h.stk,by rw[put_defers];exact h.df,h.rd⟩
theorem je.did (h:je W0 b0 rd c st a ats) {c':Cx} {d:St} (hd:Gg W0 c st c' d):je W0 b0 rd c' d a ats:=
 ⟨hd.hp,hd.nxt,hd.ok,by rw[hd.fr];exact bT.le hd.le _ _ h.fr,by rw[hd.stk];exact FU.le hd.le _ _ h.stk,
  let⟨g,i,j,e⟩:=h.df;⟨g,i,j,fun r f=>⟨hd.le.mks r (e r f).1,(e r f).2⟩⟩,fun l m=>let⟨L,o⟩:=h.rd l m;hd.le.lp l L o⟩
def nO (P:Program) (W0:World) (n:Nat) (call:gY R):Prop:=
 ∀(b0:Nat) (rd:Option Nat) (f:di) (g:List di) (l:Option Nat) (st:St) (K:di->St->Option R) (r:R),call f g l st K=a6 r->
  ∀(c:Cx) (a:Act) (ats:List (Array Value)) (h:Value) (i:Array Value),je W0 b0 rd c st a ats->dn c f h->bT c g i.toList->
   ∀(o:Oper) (next:Act->World->Prop) (Q:Exit->Act->World->Prop),(∀e z u j,K z j=a6 r->je W0 b0 rd e j a ats->dn e z u->c.Mono e->next (a.put o.dst u) e.w)->
    o.uponIn (FW rd) n P a next Q ((do let d<-Deferred.ofValue h i;invoke d.target d.args:Sem Next).run P c.w)
def tY:Op->Bool
 |.defer _=>true
 |_=>false
theorem zF {o:Oper} (h:tY o.op=false) (rd:Option Nat) (d:Operand->Value):Oper.semAt rd d o=execOp d o:=
 Oper.semAt_eq rd d o fun c e=>by rw[e]at h;cases h
theorem tq (o:Oper) (w:World) (d:Operand->Value): ∀f,o.about P w d=a6 f->(FW rd).fn f:=fun _ _=>trivial
theorem oQ {o:Oper} {K:di->St->Option R} (hd:tY o.op=false) (h:KQ P W0 c st o a K r) (g:je W0 b0 rd c st a ats) {next:Act->World->Prop} {Q:Exit->Act->World->Prop}
  (i: ∀c' z u e,K z e=a6 r->je W0 b0 rd c' e a ats->dn c' z u->c.Mono c'->next (a.put o.dst u) c'.w):o.wpIn (FW rd) n P a c.w next Q:=by
 obtain⟨z,u,c',e,j,f,l,d⟩:=h;refine⟨tq o c.w _, ?_⟩;rw[zF hd];have:=i c' z u e j (g.did f) l f.le.mono;rcases d with d|⟨d,rfl⟩
 .rw[d];exact this
 .rw[d];exact this
theorem XI (hT:TOk P T) {cl:Bool} {call:gY R} (I:nO P W0 n call) {o:Oper} {K:di->St->Option R} (h:fE T cl call o st K=a6 r) (d:je W0 b0 rd c st a ats) {next:Act->World->Prop} {Q:Exit->Act->World->Prop}
  (e: ∀c' z u B,K z B=a6 r->je W0 b0 rd c' B a ats->dn c' z u->c.Mono c'->next (a.put o.dst u) c'.w):o.wpIn (FW rd) n P a c.w next Q:=by
 by_cases hq:iO o.op=true
 .obtain⟨z,u,J,s,L⟩:=DF hT d.ok hq d.hp d.fr h;have hd:tY o.op=false:=by cases ho:o.op<;>simp_all [iO,kD,tY]
  exact oQ hd ⟨z,u,c,st,J,Gg.refl d.ok d.hp d.nxt,s,.inl (L c.w (Below.refl _ _))⟩ d e
 .cases ho:o.op with
  |alloc t=>exact oQ (by rw[ho];rfl) (aDH hT d.ok d.hp d.nxt ho h) d e
  |box t x=>exact oQ (by rw[ho];rfl) (aM4 hT d.ok d.hp d.nxt d.fr ho h) d e
  |buildSlice t k O=>exact oQ (by rw[ho];rfl) (acJ hT d.ok d.hp d.nxt d.fr ho h) d e
  |makeSlice t l cp=>exact oQ (by rw[ho];rfl) (ahx hT d.ok d.hp d.nxt d.fr ho h) d e
  |store t x y=>exact oQ (by rw[ho];rfl) (aDI hT d.ok d.hp d.nxt d.fr ho h) d e
  |makeFunc fn first v=>
   obtain⟨dst,A,g,i,j,p⟩:=o;simp only at ho;subst ho;simp only[fE]at h;split at h
   .rename_i f D
    obtain⟨S⟩:=first
    simp only at D;subst D;refine oQ rfl ⟨_,.func (.func f) #[] (v.map a.eval),c,st,h,Gg.refl d.ok d.hp d.nxt, ?_,.inl ?_⟩ d e
    .simp only[dn];refine⟨_,rfl, ?_⟩;have:=bT.map_eval (c:=c) d.fr v.toList;simpa using this
    simp_all [execOp,Instr.makeFunc]
   .rename_i l f U
    replace h:=dN h;obtain⟨V,h⟩:=h;have M:v= #[]:=by
     simp_all
    subst M;refine oQ rfl ⟨_,.func (.func f) (first.map a.eval) #[],c,st,h,Gg.refl d.ok d.hp d.nxt, ?_,.inl ?_⟩ d e
    .simp only[dn];refine⟨_,rfl, ?_⟩;have:=bT.map_eval (c:=c) d.fr first.toList;simpa using this
    simp_all [execOp,Instr.makeFunc]
   .cases h
  |makeMap t W=>exact oQ (by rw[ho];rfl) (asa hT d.ok d.hp d.nxt ho h) d e
  |lookup t x y k=>exact oQ (by rw[ho];rfl) (ayi hT d.ok d.hp d.nxt d.fr ho h) d e
  |mapUpdate t x y z=>exact oQ (by rw[ho];rfl) (ahy hT d.ok d.hp d.nxt d.fr ho h) d e
  |call N=>
   obtain⟨E,q,G⟩:=N;cases E with
   |builtin b=>
    cases b with
    |append=>exact oQ (by rw[ho];rfl) (ayh hT d.ok d.hp d.nxt d.fr ho h) d e
    |unsafeSliceData=>exact oQ (by rw[ho];rfl) (ahz hT d.ok d.hp d.nxt d.fr ho h) d e
    |unsafeString=>exact oQ (by rw[ho];rfl) (WY hT d.ok d.hp d.nxt d.fr ho h) d e
    |len=>rw[ho]at hq;exact absurd rfl hq
    |min=>rw[ho]at hq;exact absurd rfl hq
    |max=>rw[ho]at hq;exact absurd rfl hq
    |_=>
     obtain⟨dst,A,g,i,j,p⟩:=o;simp only at ho;subst ho;simp[fE,kV]at h
   |invoke x m=>
    simp_all [fE]
   |value f=>
    obtain⟨dst,A,g,i,j,p⟩:=o;simp only at ho;subst ho;simp only[fE]at h;refine⟨tq _ c.w _, ?_⟩;rw[zF rfl];have s:=I b0 rd _ _ dst st K r h c a ats (a.eval f) (q.map a.eval) d (eF d.fr f) (by
     have:=bT.map_eval (c:=c) d.fr q.toList;simpa using this) ⟨dst,.call {callee:=.value f,args:=q,argTypes:=G},g,i,j,p⟩ next Q e
    exact s
  |_=>
   obtain⟨dst,A,g,i,j,p⟩:=o;simp only at ho;subst ho
   first
    |(simp[iO,kD]at hq;done)
    |(simp[fE]at h;done)
theorem MQ (ops:Array Oper) (j d:Nat) (h:(ops[j]?).bind (·.dst)=a6 d) (tmps:Array Value):yielded ops tmps j=(match tmps[d]? with|some (.bool b)=>a6 b|_=>a7):=by
 grind [yielded]
theorem QO (hT:TOk P T) {cl:Bool} {call:gY R} (s:nO P W0 n call) (ops:Array Oper) {K:St->Option R} {Q:Exit->Act->World->Prop}: ∀(l:List Oper) (c:Cx) (st:St) (a:Act),iK T cl call ops K l st=a6 r->je W0 b0 rd c st a ats->
  (∀c' g p,K g=a6 r->je W0 b0 rd c' g p ats->c.Mono c'->Q .normal p c'.w)->wpListIn (FW rd) n P ops Q l a c.w
 |[],c,st,a,h,e,q=>by
  simp only[iK]at h;exact q c st a h e (Cx.Mono.refl c)
 |o::l,c,st,a,h,e,q=>by
  simp only[iK]at h;have Y: ∀(c:Cx) (st:St) (a:Act),je W0 b0 rd c st a ats->(∀c' g p,K g=a6 r->je W0 b0 rd c' g p ats->c.Mono c'->Q .normal p c'.w)->fE T cl call o st (fun v st=>iK T cl call ops K l (st.put o.dst v))=a6 r->
    o.wpIn (FW rd) n P a c.w (wpListIn (FW rd) n P ops Q l) Q:=fun c st a e q h=>
   XI hT s h e fun c' z u g E G I J=>QO hT s ops l c' (g.put o.dst z) (a.put o.dst u) E (G.put I) fun L M N k1 k2 k3=>q L M N k1 k2 (J.trans k3)
  have y: ∀(st:St),je W0 b0 rd c st a ats->iK T cl call ops K l (st.put o.dst (.tup []))=a6 r->(∀f,o.about P c.w a.eval=a6 f->(FW rd).fn f)/\wpListIn (FW rd) n P ops Q l (a.put o.dst undef) c.w:=fun st e h=>
   ⟨tq o c.w _,QO hT s ops l c (st.put o.dst (.tup [])) (a.put o.dst undef) h (e.put (by simp only[dn];exact⟨#[],rfl,by simp[bT]⟩)) q⟩
  simp only[wpListIn];cases hg:o.guard with
  |none=>
   rw[hg]at h;rw[am (by simp[Region.wanted,hg])]
   grind
  |some O=>
   obtain⟨j,S⟩:=O;rw[hg]at h;simp only at h;split at h
   .cases h
   .rename_i d hd
    have i:=MQ ops j d hd a.tmps;have m:=e.fr.getD d;have U:=bT.length _ _ e.fr;rw[Array.length_toList]at U;split at h
    .rename_i b A
     rw[A]at m;simp only[dn]at m;have V:=m.bool_inv;have Z:d<a.tmps.size:=by
      grind
     have B:a.tmps[d]? =a6 (.bool b):=by
      simp_all
     rw[B]at i;simp only at i;have W:a.put (a6 d) (.bool b)=a:=by
      simp only[Act.put];obtain⟨ab,ad⟩:=Array.getElem?_eq_some_iff.1 B;have:a.tmps.setIfInBounds d (.bool b)=a.tmps:=by
       grind
      rw[this]
     have D:je W0 b0 rd c (st.put (a6 d) (.val .bool b)) a ats:=by
      have:=e.put (dst:=a6 d) (z:=.val .bool b) (v:=.bool b) (by simp_all [dn]);rwa [W]at this
     cases b<;>cases S<;>(try simp only[aa,ac]at h)
     .rw[am (by simp[Region.wanted,hg,i])]
      grind
     .rw[aq (by simp[Region.wanted,hg,i])];exact y _ D h
     .rw[aq (by simp[Region.wanted,hg,i])];exact y _ D h
     .rw[am (by simp[Region.wanted,hg,i])]
      grind
    .rename_i A
     rw[A]at m;simp only[dn]at m;obtain⟨vs,V,_⟩:=m;have X:yielded ops a.tmps j=a7:=by
      rw[i];cases he:a.tmps[d]? with
      |none=>rfl
      |some x=>
       simp_all
     rw[aq (by simp[Region.wanted,hg,X])];exact y st e h
    .cases h
end
end
section
open List renaming mem_cons_of_mem → au, map_cons → ax, mem_append_right → bH
open Nat renaming le_refl → ae
open Go.RowKit
structure Cx.Keeps (c c':Cx) (l:List Nat):Prop where
 free: ∀b,c.free b->c'.free b/\c'.w.heap[b]? =c.w.heap[b]?
 ref: ∀id∈l,c.known id->c'.known id
 obj: ∀id∈l,∀o',eG c'.hp id=some o'-> ∃o,eG c.hp id=some o/\o.like (c.mu id) o' (c'.mu id)
theorem Cx.Keeps.sub {c c':Cx} {l m:List Nat} (h:c.Keeps c' l) (e: ∀i∈m,i∈l):c.Keeps c' m:=⟨h.free,fun i d=>h.ref i (e i d),fun i d=>h.obj i (e i d)⟩
theorem Cx.Keeps.left {c c':Cx} {l m:List Nat} (h:c.Keeps c' (l++m)):c.Keeps c' l:=h.sub fun i d=>List.mem_append_left _ d
theorem Cx.Keeps.right {c c':Cx} {l m:List Nat} (h:c.Keeps c' (l++m)):c.Keeps c' m:=h.sub fun i d=>bH _ d
mutual
theorem dn.keeps {c c':Cx}: ∀(v:di) (x:Value),c.Keeps c' (refs v)->dn c v x->dn c' v x
 |.undef,_,_,_=>by simp[dn]
 |.val t x,v,h,d=>by
  simp only[dn]at d ⊢;exact⟨fun e=>let⟨cs,j,g⟩:=d.1 e;⟨cs,j,fZ.mono h.free t x _ g⟩,fun e=>fZ.mono h.free t x _ (d.2 e)⟩
 |.nils,_,_,d=>by assumption
 |.emp,_,_,d=>by assumption
 |.lst t x b,v,h,d=>by
  simp only[dn]at d ⊢;exact⟨⟨fun e=>let⟨cs,j,g⟩:=d.1.1 e;⟨cs,j,fZ.mono h.free (.list t) x _ g⟩,fun e=>fZ.mono h.free (.list t) x _ (d.1.2 e)⟩,d.2⟩
 |.nilp,_,_,d=>by assumption
 |.nilfn,_,_,d=>by assumption
 |.tup l,v,h,d=>by simp only[dn]at d ⊢;obtain⟨s,j,g⟩:=d;exact⟨s,j,bT.keeps l _ (by simpa [refs] using h) g⟩
 |.agg l,v,h,d=>by simp only[dn]at d ⊢;obtain⟨s,j,g,y⟩:=d;exact⟨s,j,bT.keeps l _ (by simpa [refs] using h) g,y⟩
 |.cellp t x,v,h,d=>by
  simp only[dn]at d ⊢;obtain⟨b,o,D,j,g,y,E⟩:=d;exact⟨b,o,D,j,(h.free b g).1,y.of_block (h.free b g).2,fZ.mono h.free t x _ E⟩
 |.ptr id G,v,h,d=>by
  simp only[dn]at d ⊢;obtain⟨m,d⟩:=d;refine⟨m,h.ref id (by simp[refs]) d.1,fun t cs q=> ?_⟩;obtain⟨o,j,g⟩:=h.obj id (by simp[refs]) _ q;cases o<;>simp only[eu.like]at g;simp_all
 |.slf id,v,h,d=>by
  simp only[dn]at d ⊢;obtain⟨m,d⟩:=d;refine⟨m,h.ref id (by simp[refs]) d.1,fun t cs q=> ?_⟩;obtain⟨o,j,g⟩:=h.obj id (by simp[refs]) _ q;cases o<;>simp only[eu.like]at g;simp_all
 |.sd id z,v,h,d=>by
  simp only[dn]at d ⊢;obtain⟨m,d⟩:=d;refine⟨m,h.ref id (by simp[refs]) d.1,fun t u A q=> ?_⟩;obtain⟨o,j,g⟩:=h.obj id (by simp[refs]) _ q;cases o with
  |arr t' v' B=>
   grind [eu.like]
  |box _ _=>simp[eu.like]at g
  |lp _ _ _ _ _ _ _ _=>simp[eu.like]at g
  |dead=>simp[eu.like]at g
  |mp _ _ _=>simp[eu.like]at g
 |.slc id z I,v,h,d=>by
  simp only[dn]at d ⊢;obtain⟨m,d⟩:=d;refine⟨m,h.ref id (by simp[refs]) d.1,fun t u A q=> ?_⟩;obtain⟨o,j,g⟩:=h.obj id (by simp[refs]) _ q;cases o with
  |arr t' v' B=>
   grind [eu.like]
  |box _ _=>simp[eu.like]at g
  |lp _ _ _ _ _ _ _ _=>simp[eu.like]at g
  |dead=>simp[eu.like]at g
  |mp _ _ _=>simp[eu.like]at g
 |.ep id z i G,v,h,d=>by
  simp only[dn]at d ⊢;obtain⟨m,d⟩:=d;refine⟨m,h.ref id (by simp[refs]) d.1,fun t u A q=> ?_⟩;obtain⟨o,j,g⟩:=h.obj id (by simp[refs]) _ q;cases o with
  |arr t' v' B=>
   grind [eu.like]
  |box _ _=>simp[eu.like]at g
  |lp _ _ _ _ _ _ _ _=>simp[eu.like]at g
  |dead=>simp[eu.like]at g
  |mp _ _ _=>simp[eu.like]at g
 |.fn f l,v,h,d=>by simp only[dn]at d ⊢;obtain⟨s,j,g⟩:=d;exact⟨s,j,bT.keeps l _ (by simpa [refs] using h) g⟩
 |.mfn f l,v,h,d=>by simp only[dn]at d ⊢;obtain⟨s,j,g⟩:=d;exact⟨s,j,bT.keeps l _ (by simpa [refs] using h) g⟩
 |.mpv id,v,h,d=>by
  simp only[dn]at d ⊢;obtain⟨m,d⟩:=d;refine⟨m,h.ref id (by simp[refs]) d.1,fun J K L q=> ?_⟩;obtain⟨o,j,g⟩:=h.obj id (by simp[refs]) _ q;cases o<;>simp only[eu.like]at g;simp_all
 |.yld id,v,h,d=>by
  simp only[dn]at d ⊢;obtain⟨m,d⟩:=d;refine⟨m,h.ref id (by simp[refs]) d.1,fun f M N jr O S n p q=> ?_⟩;obtain⟨o,j,g⟩:=h.obj id (by simp[refs]) _ q;cases o<;>simp only[eu.like]at g;simp_all
theorem bT.keeps {c c':Cx}: ∀(l:List di) (xs:List Value),c.Keeps c' (mr l)->bT c l xs->bT c' l xs
 |[],[],_,_=>by simp[bT]
 |v::l,x::xs,h,d=>by
  simp only[mr]at h;simp only[bT]at d ⊢;exact⟨dn.keeps v x h.left d.1,bT.keeps l xs h.right d.2⟩
 |[],_::_,_,d=>by simp[bT]at d
 |_::_,[],_,d=>by simp[bT]at d
end
theorem FU.keeps {c c':Cx}: ∀(e:List (List di)) (g:List (Array Value)),c.Keeps c' (uZ e)->FU c e g->FU c' e g
 |[],[],_,_=>trivial
 |f::e,t::g,h,d=>by
  simp only[uZ]at h;exact⟨bT.keeps _ _ h.left d.1,FU.keeps e g h.right d.2⟩
 |[],_::_,_,d=>d.elim
 |_::_,[],_,d=>d.elim
theorem kN (p:Nat->Bool): ∀(h:iw) (i:Nat),eG (h.filter fun e=>p e.1) i=if p i=true then eG h i else none
 |[],i=>by simp[eG]
 |(k,o)::h,i=>by
  rw[List.filter_cons];by_cases hk:p k=true
  .simp only[hk,if_true,fB,kN p h i]
   grind
  .rw[aq hk,kN p h i,fB]
   grind
theorem zn: ∀(h:iw) (i:Nat) (o:eu),eG h i=some o->(i,o)∈h
 |[],i,o,d=>by simp[eG]at d
 |(k,e)::h,i,o,d=>by
  rw[fB]at d;split at d
  .simp_all
  .exact au _ (zn h i o d)
theorem DI: ∀(h:iw) (e:Nat×eu),e∈h-> ∀i∈e.2.refs,i∈zD h
 |[],e,d,i,f=>by simp at d
 |(k,o)::h,e,d,i,f=>by
  simp only[zD,List.mem_append];rcases List.mem_cons.1 d with g|g
  .simp_all
  .right;exact DI h e g i f
theorem wY {d l:List Nat} (h:G7 d l=true): ∀i∈l,i∉d:=by
 intro i e hd;have:=List.all_eq_true.1 h i e;simp only[Bool.not_eq_true',acO]at this;have f:d.any (Nat.beq i)=true:=List.any_eq_true.2 ⟨i,hd,by simp⟩;simp_all
theorem Cx.keeps_filter {c:Cx} {p:Nat->Bool} {l:List Nat} (m: ∀i∈l,i∉((c.hp.filter fun e=> !p e.1).map (·.1))):c.Keeps {c with hp:=c.hp.filter fun e=>p e.1} l:=by
 refine⟨fun b g=>⟨⟨g.1, ?_,g.2.2⟩,rfl⟩,fun i h hk=> ?_,fun i h j d=> ?_⟩
 .rintro ⟨i,o,f,q⟩;rw[kN]at f;split at f
  .exact g.2.1 ⟨i,o,f,q⟩
  .cases f
 .rcases hk with ⟨o,d⟩|hk
  .left;refine⟨o, ?_⟩;rw[kN];split
   .exact d
   .rename_i hp
    exfalso;refine m i h (List.mem_map.2 ⟨(i,o),List.mem_filter.2 ⟨zn _ _ _ d,by simp[hp]⟩,rfl⟩)
  .exact .inr hk
 .rw[kN]at d;split at d
  .exact⟨j,d,j.like_refl _⟩
  .cases d
section
variable {P:Program} {T:TT} {W0:World} {b0 n:Nat} {rd:Option Nat} {c:Cx} {R:Type} {r:R} {st:St} {a:Act} {ats:List (Array Value)}
theorem XK (c:Cx) (p:Nat->Bool): ∀b,c.out b->({c with hp:=c.hp.filter fun e=>p e.1}:Cx).out b/\({c with hp:=c.hp.filter fun e=>p e.1}:Cx).w.heap[b]? =c.w.heap[b]? :=fun b f=>⟨⟨f.1,(by
 rintro ⟨i,o,d,g⟩;simp only at d g;rw[kN]at d;split at d
 .exact f.2.1 ⟨i,o,d,g⟩
 .cases d),f.2.2⟩,rfl⟩
theorem Cx.Ok.filter (l:c.Ok W0) {p:Nat->Bool} (hk:c.Keeps {c with hp:=c.hp.filter fun e=>p e.1} (zD (c.hp.filter fun e=>p e.1))):({c with hp:=c.hp.filter fun e=>p e.1}:Cx).Ok W0:=by
 have sub: ∀i o,eG (c.hp.filter fun e=>p e.1) i=some o->eG c.hp i=some o:=fun i o h=>by
  simp_all [kN]
 refine⟨l.bel,fun i o y=> ?_,fun i j o q b d g=>l.inj i j o q b (sub i o d) (sub j q g),l.mks,fun b u=>⟨(l.bar b u).1,(fun⟨i,o,d,g⟩=>(l.bar b u).2.1 ⟨i,o,sub i o d,g⟩),(l.bar b u).2.2⟩,l.phi⟩;have m:=l.obj i o (sub i o y);have z:=zn _ _ _ y;cases o with
 |box e cs=>
  obtain⟨d,A,g,s,v⟩:=m;exact⟨d,A,g,bT.keeps _ _ (hk.sub fun j x=>DI _ _ z j x) s,v⟩
 |arr t ver D=>
  obtain⟨m,e,B,d,g,s⟩:=m;exact⟨m,e,B,d,gW.mono (fZ.mono hk.free t) _ _ g,s⟩
 |lp f fr ps jr bd ky n p=>
  obtain⟨m,d,L,g,s,v⟩:=m;exact⟨m,d,L,g,bT.keeps _ _ (hk.sub fun j x=>DI _ _ z j x) s,v⟩
 |dead=>trivial
 |mp kk vk E=>exact m
theorem je.gc (d:je W0 b0 rd c st a ats) {f:Nat} {v:di} {u:Value} (m:dn c v u) {g:St} (h:gc f v st=some g):
  ∃c',je W0 b0 rd c' g a ats/\dn c' v u/\c.Mono c'/\c'.w=c.w/\g.stk=st.stk/\g.fr=st.fr:=by
 obtain⟨fr,stk,o,q⟩:=st;simp only[Go.Proofs.YtdfhjhkcjecmlaaGreatDoor.gc]at h;rw[cond_eq_ite]at h;split at h
 .rename_i j
  cases h;have l:=d.hp;simp only at l;subst l;have s: ∀p:Nat->Bool,G7 ((c.hp.filter fun e=> !p e.1).map (·.1)) (refs v++mr fr++uZ stk++zD (c.hp.filter fun e=>p e.1))=true->
    ∃c',je W0 b0 rd c' ⟨fr,stk,c.hp.filter fun e=>p e.1,q⟩ a ats/\dn c' v u/\c.Mono c'/\c'.w=c.w/\stk=stk/\fr=fr:=fun p j=>by
   have x:=wY j;have hk:=Cx.keeps_filter (c:=c) (p:=p) x;exact⟨{c with hp:=c.hp.filter fun e=>p e.1},⟨rfl,d.nxt,d.ok.filter (p:=p) hk.right,bT.keeps _ _ hk.left.left.right d.fr,FU.keeps _ _ hk.left.right d.stk,d.df,d.rd⟩,dn.keeps _ _ hk.left.left.left m,⟨fun _ h=>h,fun b L h=>⟨L,h⟩,ae _,rfl,XK c p⟩,rfl,rfl,rfl⟩
  exact s (fun i=>Nat.blt i f||acO (azz (c.hp.filter fun e=> !Nat.blt e.1 f) 3 (refs v++mr fr++uZ stk++zD (c.hp.filter fun e=>Nat.blt e.1 f))) i) j
 .cases h
theorem ahe (f:eu->eu): ∀(h:iw) (i:Nat),eG (h.map fun e=>(e.1,f e.2)) i=(eG h i).map f
 |[],i=>rfl
 |(k,o)::h,i=>by
  simp only[ax,fB,ahe f h i];split<;>rfl
def Cx.anew (c:Cx):Cx:={c with hp:=c.hp.map fun e=>(e.1,e.2.anew c.hp)}
theorem eu.anew_blk (h:iw) (o:eu) (l:Loc):(o.anew h).blk l=o.blk l:=by cases o<;>rfl
theorem Cx.anew_get (c:Cx) (i:Nat):eG c.anew.hp i=(eG c.hp i).map (eu.anew c.hp):=ahe _ _ _
theorem Cx.anew_free (c:Cx): ∀b,c.free b->c.anew.free b/\c.anew.w.heap[b]? =c.w.heap[b]? :=fun b d=>⟨⟨d.1,by
 rintro ⟨i,o,e,f⟩;rw[Cx.anew_get]at e;obtain⟨g,h,rfl⟩:=Option.map_eq_some_iff.1 e;rw[eu.anew_blk]at f;exact d.2.1 ⟨i,g,h,f⟩,d.2.2⟩,rfl⟩
theorem Cx.anew_out (c:Cx): ∀b,c.out b->c.anew.out b/\c.anew.w.heap[b]? =c.w.heap[b]? :=fun b d=>⟨⟨d.1,(by
 rintro ⟨i,o,e,f⟩;rw[Cx.anew_get]at e;obtain⟨g,h,rfl⟩:=Option.map_eq_some_iff.1 e;rw[eu.anew_blk]at f;exact d.2.1 ⟨i,g,h,f⟩),d.2.2⟩,rfl⟩
theorem Cx.anew_known (c:Cx) {i:Nat} (h:c.known i):c.anew.known i:=by
 rcases h with ⟨o,d⟩|h
 .exact .inl ⟨_,by rw[Cx.anew_get,d];rfl⟩
 .exact .inr h
theorem GG {h:iw} {id d:Nat} (hf:WJ h id d=true): ∃t xs,eG h id=some (.arr t d xs):=by
 simp only[WJ,aHZ]at hf
 grind
mutual
theorem dn.anew {c:Cx}: ∀(v:di) (x:Value),dn c v x->dn c.anew (Go.Proofs.YtdfhjhkcjecmlaaGreatDoor.anew c.hp v) x
 |.undef,_,_=>by simp[dn,Go.Proofs.YtdfhjhkcjecmlaaGreatDoor.anew]
 |.val t x,v,d=>by
  simp only[dn,Go.Proofs.YtdfhjhkcjecmlaaGreatDoor.anew]at d ⊢;exact⟨fun e=>let⟨cs,h,g⟩:=d.1 e;⟨cs,h,fZ.mono c.anew_free t x _ g⟩,fun e=>fZ.mono c.anew_free t x _ (d.2 e)⟩
 |.nils,_,d=>by simpa only[dn,Go.Proofs.YtdfhjhkcjecmlaaGreatDoor.anew] using d
 |.emp,_,d=>by simpa only[dn,Go.Proofs.YtdfhjhkcjecmlaaGreatDoor.anew] using d
 |.lst t x b,v,d=>by
  simp only[dn,Go.Proofs.YtdfhjhkcjecmlaaGreatDoor.anew]at d ⊢;exact⟨⟨fun e=>let⟨cs,h,g⟩:=d.1.1 e;⟨cs,h,fZ.mono c.anew_free (.list t) x _ g⟩,fun e=>fZ.mono c.anew_free (.list t) x _ (d.1.2 e)⟩,d.2⟩
 |.nilp,_,d=>by simpa only[dn,Go.Proofs.YtdfhjhkcjecmlaaGreatDoor.anew] using d
 |.nilfn,_,d=>by simpa only[dn,Go.Proofs.YtdfhjhkcjecmlaaGreatDoor.anew] using d
 |.tup l,v,d=>by simp only[dn,Go.Proofs.YtdfhjhkcjecmlaaGreatDoor.anew]at d ⊢;obtain⟨q,h,g⟩:=d;exact⟨q,h,bT.anew l _ g⟩
 |.agg l,v,d=>by simp only[dn,Go.Proofs.YtdfhjhkcjecmlaaGreatDoor.anew]at d ⊢;obtain⟨q,h,g,z⟩:=d;exact⟨q,h,bT.anew l _ g,z⟩
 |.cellp t x,v,d=>by
  simp only[dn,Go.Proofs.YtdfhjhkcjecmlaaGreatDoor.anew]at d ⊢;obtain⟨b,o,J,h,g,z,K⟩:=d;exact⟨b,o,J,h,(c.anew_free b g).1,z.of_block (c.anew_free b g).2,fZ.mono c.anew_free t x _ K⟩
 |.ptr id L,v,d=>by
  simp only[dn,Go.Proofs.YtdfhjhkcjecmlaaGreatDoor.anew]at d ⊢;obtain⟨m,d⟩:=d;refine⟨m,c.anew_known d.1,fun t cs j=> ?_⟩;rw[Cx.anew_get]at j;obtain⟨o,h,g⟩:=Option.map_eq_some_iff.1 j;cases o<;>simp only[eu.anew,reduceCtorEq]at g;exact d.2 _ _ h
 |.slf id,v,d=>by
  simp only[dn,Go.Proofs.YtdfhjhkcjecmlaaGreatDoor.anew]at d ⊢;obtain⟨m,d⟩:=d;refine⟨m,c.anew_known d.1,fun t cs j=> ?_⟩;rw[Cx.anew_get]at j;obtain⟨o,h,g⟩:=Option.map_eq_some_iff.1 j;cases o<;>simp only[eu.anew,reduceCtorEq]at g;exact d.2 _ _ h
 |.sd id B,v,d=>by
  simp only[dn,Go.Proofs.YtdfhjhkcjecmlaaGreatDoor.anew]at d ⊢;rw[cond_eq_ite];split
  .rename_i y
   obtain⟨D,E,s⟩:=GG y;simp only[dn];obtain⟨m,d⟩:=d;refine⟨m,c.anew_known d.1,fun t u G j=>⟨Nat.zero_le _,fun I=> ?_⟩⟩;exact(d.2 _ _ _ s).2 rfl
  .simp[dn]
 |.slc id B M,v,d=>by
  simp only[dn,Go.Proofs.YtdfhjhkcjecmlaaGreatDoor.anew]at d ⊢;rw[cond_eq_ite];split
  .rename_i y
   obtain⟨D,E,s⟩:=GG y;simp only[dn];obtain⟨m,d⟩:=d;refine⟨m,c.anew_known d.1,fun t u G j=>⟨Nat.zero_le _,fun I=> ?_⟩⟩;rw[Cx.anew_get,s]at j;simp only[Option.map_some,eu.anew,Option.some.injEq,eu.arr.injEq]at j;obtain⟨A,_,_⟩:=j;rw[<-A];exact(d.2 _ _ _ s).2 rfl
  .simp[dn]
 |.ep id B i L,v,d=>by
  simp only[dn,Go.Proofs.YtdfhjhkcjecmlaaGreatDoor.anew]at d ⊢;rw[cond_eq_ite];split
  .rename_i y
   obtain⟨D,E,s⟩:=GG y;simp only[dn];obtain⟨m,d⟩:=d;refine⟨m,c.anew_known d.1,fun t u G j=>⟨Nat.zero_le _,fun I=> ?_⟩⟩;rw[Cx.anew_get,s]at j;simp only[Option.map_some,eu.anew,Option.some.injEq,eu.arr.injEq]at j;obtain⟨A,_,_⟩:=j;rw[<-A];exact(d.2 _ _ _ s).2 rfl
  .simp[dn]
 |.fn f l,v,d=>by simp only[dn,Go.Proofs.YtdfhjhkcjecmlaaGreatDoor.anew]at d ⊢;obtain⟨q,h,g⟩:=d;exact⟨q,h,bT.anew l _ g⟩
 |.mfn f l,v,d=>by simp only[dn,Go.Proofs.YtdfhjhkcjecmlaaGreatDoor.anew]at d ⊢;obtain⟨q,h,g⟩:=d;exact⟨q,h,bT.anew l _ g⟩
 |.mpv id,v,d=>by
  simp only[dn,Go.Proofs.YtdfhjhkcjecmlaaGreatDoor.anew]at d ⊢;obtain⟨m,d⟩:=d;refine⟨m,c.anew_known d.1,fun N O S j=> ?_⟩;rw[Cx.anew_get]at j;obtain⟨o,h,g⟩:=Option.map_eq_some_iff.1 j;cases o<;>simp only[eu.anew,reduceCtorEq]at g;exact d.2 _ _ _ h
 |.yld id,v,d=>by
  simp only[dn,Go.Proofs.YtdfhjhkcjecmlaaGreatDoor.anew]at d ⊢;obtain⟨m,d⟩:=d;refine⟨m,c.anew_known d.1,fun f U V jr W X n p j=> ?_⟩;rw[Cx.anew_get]at j;obtain⟨o,h,g⟩:=Option.map_eq_some_iff.1 j;cases o<;>simp only[eu.anew,reduceCtorEq]at g;exact d.2 _ _ _ _ _ _ _ _ h
theorem bT.anew {c:Cx}: ∀(l:List di) (xs:List Value),bT c l xs->bT c.anew (CS c.hp l) xs
 |[],[],_=>by simp[bT,CS]
 |v::l,x::xs,d=>by
  simp only[bT,CS]at d ⊢;exact⟨dn.anew v x d.1,bT.anew l xs d.2⟩
 |[],_::_,d=>by simp[bT]at d
 |_::_,[],d=>by simp[bT]at d
end
theorem FU.anew {c:Cx}: ∀(e:List (List di)) (g:List (Array Value)),FU c e g->FU c.anew (e.map (CS c.hp)) g
 |[],[],_=>trivial
 |f::e,t::g,d=>⟨bT.anew _ _ d.1,FU.anew e g d.2⟩
 |[],_::_,d=>d.elim
 |_::_,[],d=>d.elim
theorem je.anew (d:je W0 b0 rd c st a ats): ∃c',je W0 b0 rd c' (aby st) a ats/\c.Mono c'/\c'.w=c.w:=by
 obtain⟨z,K,M,N⟩:=st;have v:=d.hp;simp only at v;subst v;refine⟨c.anew,⟨rfl,d.nxt,⟨d.ok.bel,fun i o x=> ?_,fun i j o q b g l m u=> ?_,d.ok.mks,fun b A=>(Cx.anew_out c b (d.ok.bar b A)).1,d.ok.phi⟩,bT.anew _ _ d.fr,FU.anew _ _ d.stk,d.df,d.rd⟩,⟨fun _ h=>h,fun b L h=>⟨L,h⟩,ae _,rfl,Cx.anew_out c⟩,rfl⟩
 .rw[Cx.anew_get]at x;obtain⟨y,g,rfl⟩:=Option.map_eq_some_iff.1 x;have s:=d.ok.obj i y g;cases y with
  |box e cs=>
   obtain⟨g,B,l,m,u⟩:=s;exact⟨g,B,l,bT.anew _ _ m,u⟩
  |arr t ver O=>
   obtain⟨s,e,D,g,l,m⟩:=s;exact⟨s,e,D,g,gW.mono (fZ.mono c.anew_free t) _ _ l,m⟩
  |lp f z ps jr bd ky n p=>
   obtain⟨s,g,L,l,m,u⟩:=s;exact⟨s,g,L,l,bT.anew _ _ m,u⟩
  |dead=>trivial
  |mp kk vk S=>exact s
 .rw[Cx.anew_get]at g l;obtain⟨E,G,rfl⟩:=Option.map_eq_some_iff.1 g;obtain⟨I,J,rfl⟩:=Option.map_eq_some_iff.1 l;rw[eu.anew_blk]at m u;exact d.ok.inj i j E I b G J m u
theorem Dq {l:List Nat}: ∀(i:Nat) (fr:List di) (xs:List Value),bT c fr xs->bT c (Kt l i fr) xs
 |i,[],[],_=>by simp[bT,Kt]
 |i,v::fr,x::xs,h=>by
  simp only[bT,Kt]at h ⊢;refine⟨?_,Dq (i+1) fr xs h.2⟩;rw[cond_eq_ite]
  grind [dn]
 |i,[],_::_,h=>by simp[bT]at h
 |i,_::_,[],h=>by simp[bT]at h
end
end
end Go.Proofs.YtdfhjhkcjecmlaaGreatDoor
