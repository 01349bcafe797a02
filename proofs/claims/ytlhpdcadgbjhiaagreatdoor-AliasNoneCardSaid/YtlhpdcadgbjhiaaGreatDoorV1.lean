/- Parts of the proof, joined and shortened by a program: the plain machine, the functions as it prints them, and the mathematics over them. -/
import Derived.Calls
import Derived.Still
import Derived.Orders
import Derived.Laws.Sem
import Derived.Test.YtlhpdcadgbjhiaaGreatDoorProg
import Derived.WalkKit
import Derived.WalkSmall
import Derived.Below
import Derived.Laws.AppendOwn
import Derived.Lib.LaidTab
import Derived.Lib.ItoaNum
import Derived.KernelRfl
import Derived.Laws.StructEq
import Derived.Laws.Slices
import Derived.Laws.Cells
import Derived.Laws.Strings
import Derived.Laws.MakeOwn
import Derived.Laws.BytesString
import Derived.Maps.AppendAt
import Derived.Lib.AppendStr
import Derived.Lib.UnsafeStr
import Derived.MapKept
import Derived.TacticsIn
import Derived.RangeFuncIn
import Derived.RangeFuncLeaves
import Derived.Sort.QuietThIn
set_option linter.unusedVariables false
set_option linter.unusedSimpArgs false
set_option maxRecDepth 100000
set_option maxHeartbeats 4000000
namespace Go.Proofs.YtlhpdcadgbjhiaaGreatDoor
section
open Option renaming some → a6, none → a7
theorem aa.{u} {d:Sort u} (a b:d):cond true a b=a:=rfl
theorem ac.{u} {d:Sort u} (a b:d):cond false a b=b:=rfl
theorem am.{u} {c:Prop} {h:Decidable c} (d:c) {f:Sort u} {t e:f}:ite c t e=t:=if_pos d
theorem aq.{u} {c:Prop} {h:Decidable c} (d:¬c) {f:Sort u} {t e:f}:ite c t e=e:=if_neg d
inductive Ty where
 |unit
 |bool
 |int (k:IntKind)
 |str
 |list (t:Ty)
 |pair (a b:Ty)
 deriving DecidableEq
@[reducible] def Ty.den:Ty->Type
 |.unit=>Unit
 |.bool=>Bool
 |.int _=>Int
 |.str=>List UInt8
 |.list t=>List t.den
 |.pair a b=>a.den×b.den
def Ty.dflt:(t:Ty)->t.den
 |.unit=>()
 |.bool=>false
 |.int _=>0
 |.str=>[]
 |.list _=>[]
 |.pair a b=>(a.dflt,b.dflt)
def Ty.size:Ty->Nat
 |.unit=>0
 |.pair a b=>a.size+b.size
 |_=>1
def Ty.isAgg:Ty->Bool
 |.unit=>true
 |.pair _ _=>true
 |_=>false
def iR {t':Ty} (t:Ty) (x:t'.den):Option t.den:=if h:t'=t then a6 (cast (congrArg Ty.den h) x)else a7
def Ty.same:(t:Ty)->t.den->t.den->Bool
 |.unit,_,_=>true
 |.bool,x,y=>x==y
 |.int _,x,y=>x==y
 |.str,x,y=>x==y
 |.list _,_,_=>false
 |.pair a b,x,y=>a.same x.1 y.1&&b.same x.2 y.2
def sub {d:Type} (l:List d) (lo hi:Int):List d:=(l.take hi.toNat).drop lo.toNat
inductive bn where
 |undef
 |val (t:Ty) (x:t.den)
 |nils
 |nilp
 |nilfn
 |tup (l:List bn)
 |agg (l:List bn)
 |cellp (t:Ty) (x:t.den)
 |ptr (id off:Nat)
 |slc (id ver:Nat) (view:Option (Int×Int))
 |ep (id ver:Nat) (i:Nat) (off:Nat)
 |fn (f:FuncId) (caps:List bn)
 |mfn (f:FuncId) (fst:List bn)
 |mpv (id:Nat)
 |yld (id:Nat)
 |emp
 |lst (t:Ty) (x:List t.den) (nil:Bool)
 |slf (id:Nat)
 |sd (id ver:Nat)
inductive Ex where
 |normal
 |exit (id:Nat)
 |goto (l:Nat)
 |ret
inductive bY where
 |box (t:TypeId) (cells:List bn)
 |arr (t:Ty) (ver:Nat) (xs:List t.den)
 |lp (f:FuncId) (fr:List bn) (ps:List Nat) (iK bd:Code) (key:Option Nat) (state:Nat) (pend:Option Ex)
 |dead
 |mp (kk vk:IntKind) (es:List (Int×Int))
abbrev fD:=List (Nat×bY)
def cZ:fD->Nat->Option bY
 |[],_=>a7
 |(k,o)::h,i=>bif k==i then a6 o else cZ h i
def gX:fD->Nat->bY->fD
 |[],_,_=>[]
 |(k,o)::h,i,d=>bif k==i then(k,d)::h else(k,o)::gX h i d
structure St where
 fr:List bn
 stk:List (List bn)
 hp:fD
 nxt:Nat
inductive TK where
 |bool|str|other
 |int (k:IntKind)
 |slice (e:TypeId)
 |struct (fs:List (Nat×TypeId))
 |fn
 |ptr (e:TypeId)
 |map (k e:TypeId)
structure TI where
 known:Bool
 k:TK
 size:Nat
 bytes:Nat
 ty:Option Ty
 zero:List bn
 eq:Bool
 bld:Bool:=false
 keep:Bool:=false
instance:Inhabited TI:=⟨⟨false,.other,0,0,a7,[],false,false,false⟩⟩
inductive TT where
 |nil
 |node (k:Nat) (i:TI) (l r:TT)
def TT.at:TT->TypeId->TI
 |.nil,_=>default
 |.node k i l r,t=>bif Nat.beq k t then i else bif Nat.blt t k then l.at t else r.at t
def TI.isAgg (i:TI):Bool:=match i.k with|.struct _=>true|_=>false
def flat:(t:Ty)->t.den->List bn
 |.unit,_=>[]
 |.pair a b,x=>flat a x.1++flat b x.2
 |.bool,x=>[.val .bool x]
 |.int k,x=>[.val (.int k) x]
 |.str,x=>[.val .str x]
 |.list t,x=>[.val (.list t) x]
def bn.cells:bn->Option (List bn)
 |.val t x=>a6 (flat t x)
 |.agg l=>a6 l
 |.undef=>a7
 |.tup _=>a7
 |v=>a6 [v]
def leaf (t:Ty):bn->Option t.den
 |.val t' x=>iR t x
 |.nils=>match t with|.list _=>a6 []|_=>a7
 |_=>a7
def mk:(t:Ty)->List bn->Option (t.den×List bn)
 |.unit,l=>a6 ((),l)
 |.pair a b,l=>
  match mk a l with
  |some (x,d)=>match mk b d with
   |some (y,e)=>a6 ((x,y),e)
   |none=>a7
  |none=>a7
 |.bool,c::l=>match leaf .bool c with|some x=>a6 (x,l)|none=>a7
 |.int k,c::l=>match leaf (.int k) c with|some x=>a6 (x,l)|none=>a7
 |.str,c::l=>match leaf .str c with|some x=>a6 (x,l)|none=>a7
 |.list t,c::l=>match leaf (.list t) c with|some x=>a6 (x,l)|none=>a7
 |_,[]=>a7
def Dy (t:Ty) (l:List bn):Option t.den:=
 match mk t l with
 |some (x,[])=>a6 x
 |_=>a7
def bn.isNils:bn->Bool
 |.nils=>true
 |_=>false
def norm (i:TI) (l:List bn):bn:=
 match i.k with
 |.struct _=>match i.ty with
  |some t=>match Dy t l with
   |some x=>bif i.keep&&l.any bn.isNils then .agg l else .val t x
   |none=>.agg l
  |none=>.agg l
 |_=>match l with
  |[v]=>v
  |_=>.undef
def V9 {d:Type} (xs:List d):Option (Int×Int)->List d
 |none=>xs
 |some (lo,e)=>sub xs lo e
def yC (hp:fD) (t:Ty) (id d:Nat) (e:Option (Int×Int)):Option (List t.den):=
 match cZ hp id with
 |some (.arr t' v xs)=>bif v==d then(match iR (.list t) (t':=.list t') xs with|some ys=>a6 (V9 ys e)|none=>a7)else a7
 |_=>a7
def bn.as (hp:fD) (t:Ty):bn->Option t.den
 |.val t' x=>iR t x
 |.nils=>match t with|.list _=>a6 []|_=>a7
 |.emp=>match t with|.list _=>a6 []|_=>a7
 |.lst e xs _=>iR (t':=.list e) t xs
 |.slc id ver d=>match t with|.list e=>yC hp e id ver d|_=>a7
 |.agg l=>bif t.isAgg then Dy t l else a7
 |_=>a7
def Tn:(t:Ty)->t.den->Nat->bn
 |.pair a _,x,0=>.val a x.1
 |.pair _ b,x,n+1=>Tn b x.2 n
 |_,_,_=>.undef
def MV:(t:Ty)->t.den->Nat->bn
 |.pair a _,x,0=>.cellp a x.1
 |.pair _ b,x,n+1=>MV b x.2 n
 |_,_,_=>.undef
def uk:Value->bn
 |.bool b=>.val .bool b
 |.int k n=>.val (.int k) n
 |.string s=>.val .str s.data.toList
 |.slice a7 0 0=>.nils
 |.pointer a7=>.nilp
 |.nilFunc=>.nilfn
 |_=>.undef
def SY:Value->bn
 |.agg cs=>bif cs.toList.all Value.oneCell' then .agg (cs.toList.map uk)else .undef
 |.tuple _=>.undef
 |v=>uk v
def fG (fr:List bn):Operand->bn
 |.tmp t=>fr.getD t .undef
 |.const v=>SY v
 |.global _=>.undef
 |.func f=>.fn f []
def mW:Nat:=140737488355328
def bV (k:IntKind) (a b:Int):Int:=k.wrap (a+b)
def eY (k:IntKind) (a b:Int):Int:=k.wrap (a-b)
def afq (k:IntKind) (a b:Int):Int:=k.wrap (a*b)
def asy (k:IntKind) (a b:Int):Int:=k.wrap (a.tdiv b)
def agS (d:BinOp) (k:IntKind) (a b:Int):Int:=
 let x:=BitVec.ofInt k.bits a
 let y:=BitVec.ofInt k.bits b
 match d with
 |.and=>k.wrap (x&&& y).toNat
 |.or=>k.wrap (x|||y).toNat
 |.xor=>k.wrap (x^^^y).toNat
 |_=>k.wrap (x&&& ~~~y).toNat
def anZ (k:IntKind) (a b:Int):Int:=k.wrap (a*2^(min b.toNat k.bits))
def OJ (k:IntKind) (a b:Int):Int:=a.fdiv (2^(min b.toNat k.bits))
def gY (a b:Int):Bool:=decide (a<b)
def leI (a b:Int):Bool:=decide (a<=b)
def bC (a b:Int):Bool:=a==b
def bi {d:Type} (l:List d):Int:=(l.length:Int)
def Ky (a b:Nat):Bool:=decide (a<b)
def eqN (a b:Nat):Bool:=Nat.beq a b
def leN (a b:Nat):Bool:=decide (a<=b)
def Ej (a b:Int):Int:=if b<a then b else a
def yV (a b:Int):Int:=if b>a then b else a
def bU (s:List UInt8) (i:Int):Int:=((s.getD i.toNat 0).toNat:Int)
def bT {e:Type} (l:List e) (d:e) (i:Int):e:=l.getD i.toNat d
def iG (a b:List UInt8):Bool:=a==b
def Gx (a b:List UInt8):Bool:=Op.bytesLess a b
def bF (l:List UInt8):List Int:=l.map fun b=>(b.toNat:Int)
def ofBytes (l:List Int):List UInt8:=l.map fun n=>UInt8.ofNat n.toNat
def auM (l:List UInt8):Bool:=decide (l.length<=mW)
def dZ {d:Type} (l:List d) (e:Nat):Bool:=decide (l.length*e<=mW)
def gm {d:Type} (l:List d) (i:Int):Bool:=decide (0<=i)&&decide (i<(l.length:Int))
def gy (n lo hi:Int):Bool:=decide (0<=lo)&&(decide (lo<=hi)&&decide (hi<=n))
def gp {d:Type} (l:List d) (i:Nat) (x:d):List d:=l.set i x
def wz (d:BinOp) (k:IntKind) (a b:Int):bn:=
 match d with
 |.add=>.val (.int k) (bV k a b)
 |.sub=>.val (.int k) (eY k a b)
 |.mul=>.val (.int k) (afq k a b)
 |.eql=>.val .bool (bC a b)
 |.neq=>.val .bool (!bC a b)
 |.lss=>.val .bool (gY a b)
 |.leq=>.val .bool (leI a b)
 |.gtr=>.val .bool (gY b a)
 |.geq=>.val .bool (leI b a)
 |_=>.undef
def SA (d:BinOp) (a b:List UInt8):bn:=
 match d with
 |.eql=>.val .bool (iG a b)
 |.neq=>.val .bool (!iG a b)
 |.lss=>.val .bool (Gx a b)
 |.leq=>.val .bool (Gx a b||iG a b)
 |.gtr=>.val .bool (!(Gx a b||iG a b))
 |.geq=>.val .bool (!Gx a b)
 |_=>.undef
def TT.eqOk (T:TT):Nat->TypeId->Bool
 |0,_=>false
 |n+1,t=>(T.at t).known&&(match(T.at t).k with
  |.bool|.int _|.str=>true
  |.struct d=>(T.at t).eq&&d.all fun f=>T.eqOk n f.2
  |_=>false)
section
variable {R:Type}
def kT (b:Bool) (k:Option R):Option R:=cond b k a7
def WR (T:TT) (d:BinOp) (t:TypeId) (x y:bn) (K:bn->Option R):Option R:=
 match x,y with
 |.val (.int k) a,.val (.int f) b=>
  if k=f then
   match d with
   |.quo=>kT (!bC b 0) (K (.val (.int k) (asy k a b)))
   |.rem=>kT (!bC b 0) (K (.val (.int k) (a.tmod b)))
   |.add|.sub|.mul|.eql|.neq|.lss|.leq|.gtr|.geq=>K (wz d k a b)
   |.and|.or|.xor|.andNot=>K (.val (.int k) (agS d k a b))
   |.shl=>kT (leI 0 b) (K (.val (.int k) (anZ k a b)))
   |.shr=>kT (leI 0 b) (K (.val (.int k) (OJ k a b)))
  else
   match d with
   |.shl=>kT (leI 0 b) (K (.val (.int k) (anZ k a b)))
   |.shr=>kT (leI 0 b) (K (.val (.int k) (OJ k a b)))
   |_=>a7
 |.val .bool a,.val .bool b=>
  bif(T.at t).known then
   match(T.at t).k,d with
   |.bool,.eql=>K (.val .bool (a==b))
   |.bool,.neq=>K (.val .bool (!(a==b)))
   |_,_=>a7
  else a7
 |.val .str a,.val .str b=>
  match d with
  |.add=>kT (decide (a.length+b.length<=mW)) (K (.val .str (a++b)))
  |.eql|.neq|.lss|.leq|.gtr|.geq=>K (SA d a b)
  |_=>a7
 |.lst _ _ b,.nils=>bif(T.at t).known then(match(T.at t).k,d with
  |.slice _,.eql=>K (.val .bool b)
  |.slice _,.neq=>K (.val .bool (!b))
  |_,_=>a7)else a7
 |x,y=>
  bif !T.eqOk 6 t then a7 else
  match(T.at t).k,(T.at t).ty with
  |.struct _,a6 e=>
   match x.as [] e,y.as [] e,d with
   |some a,a6 b,.eql=>K (.val .bool (e.same a b))
   |some a,a6 b,.neq=>K (.val .bool (!e.same a b))
   |_,_,_=>a7
  |_,_=>a7
def AO:List (Int×Int)->Int->Option Int
 |[],_=>a7
 |(k,v)::l,a=>bif bC a k then a6 v else AO l a
def kw (l:List (Int×Int)) (a:Int):Int:=match AO l a with
 |some v=>v
 |none=>0
def ajz (l:List (Int×Int)) (a:Int):Bool:=match AO l a with
 |some _=>true
 |none=>false
def kN:List (Int×Int)->Int->Int->List (Int×Int)
 |[],a,b=>[(a,b)]
 |(k,v)::l,a,b=>bif bC a k then(k,b)::l else(k,v)::kN l a b
def TT.mapOf (T:TT) (t:TypeId):Option (IntKind×IntKind):=bif(T.at t).known then(match(T.at t).k with
 |.map k e=>bif(T.at k).known&&(T.at e).known then(match(T.at k).k,(T.at e).k with
  |.int a,.int b=>a6 (a,b)
  |_,_=>a7)else a7
 |_=>a7)else a7
def akx (hp:fD) (x y:bn):Bool:=match x with
 |.slc id ver _=>(match y with
  |.nils=>(match cZ hp id with
   |some (.arr _ v d)=>v==ver&&Ky 0 d.length
   |_=>false)
  |_=>false)
 |_=>false
def aj3 (hp:fD) (x y:bn):Bool:=match x with
 |.ptr id _=>(match y with
  |.nilp=>(match cZ hp id with
   |some (.box _ _)=>true
   |_=>false)
  |_=>false)
 |_=>false
def ajB (x y:bn):Bool:=match x with
 |.nilp=>(match y with
  |.nilp=>true
  |_=>false)
 |_=>false
def MQ (T:TT) (hp:fD) (d:BinOp) (t:TypeId) (x y:bn) (K:bn->Option R):Option R:=
 bif akx hp x y then(bif(T.at t).known then(match(T.at t).k,d with
  |.slice _,.eql=>K (.val .bool false)
  |.slice _,.neq=>K (.val .bool true)
  |_,_=>a7)else a7)else bif aj3 hp x y then(bif(T.at t).known then(match(T.at t).k,d with
  |.ptr _,.eql=>K (.val .bool false)
  |.ptr _,.neq=>K (.val .bool true)
  |_,_=>a7)else a7)else bif ajB x y then(bif(T.at t).known then(match(T.at t).k,d with
  |.ptr _,.eql=>K (.val .bool true)
  |.ptr _,.neq=>K (.val .bool false)
  |_,_=>a7)else a7)else WR T d t x y K
def ahS (d:UnOp) (x:bn) (K:bn->Option R):Option R:=
 match d,x with
 |.not,.val .bool b=>K (.val .bool (!b))
 |.neg,.val (.int k) a=>K (.val (.int k) (eY k 0 a))
 |_,_=>a7
def AP (cl:Bool) (st:St) (dst:Option Nat):Nat:=cond cl st.nxt<|1000000*st.stk.length+dst.getD 0
def alloc (cl:Bool) (dst:Option Nat) (o:bY) (st:St) (K:Nat->St->Option R):Option R:=
 match cZ st.hp (AP cl st dst)with
 |some _=>a7
 |none=>bif st.nxt.ble (AP cl st dst)then K (AP cl st dst) {st with hp:=(AP cl st dst,o)::st.hp,nxt:=bif cl then AP cl st dst+1 else st.nxt}else a7
def Fe (cs:List bn) (off k:Nat):Option (List bn):=cond ((off+k).ble cs.length) (a6 ((cs.drop off).take k)) a7
def putCells (cs:List bn) (off:Nat) (vs:List bn):Option (List bn):=cond ((off+vs.length).ble cs.length) (a6 (cs.take off++vs++cs.drop (off+vs.length))) a7
def H7 (T:TT) (hp:fD) (t:TypeId) (a:bn) (K:bn->Option R):Option R:=
 bif !(T.at t).known then a7 else
 match a with
 |.cellp u x=>match(T.at t).ty with
  |some e=>match iR e x with
   |some y=>K (.val e y)
   |none=>a7
  |none=>a7
 |.ptr id d=>match cZ hp id with
  |some (.box _ cs)=>match Fe cs d (T.at t).size with
   |some l=>K (norm (T.at t) l)
   |none=>a7
  |_=>a7
 |.ep id ver i d=>match cZ hp id with
  |some (.arr u v xs)=>bif v==ver then
    (bif Ky i xs.length then
     (match Fe (flat u (xs.getD i u.dflt)) d (T.at t).size with
     |some l=>K (norm (T.at t) l)
     |none=>a7)else a7)else a7
  |_=>a7
 |_=>a7
def FM (T:TT) (st:St) (t:TypeId) (a v:bn) (K:St->Option R):Option R:=
 match v.cells with
 |none=>a7
 |some d=>
  bif(T.at t).known&&d.length==(T.at t).size then
   match a with
   |.ptr id e=>match cZ st.hp id with
    |some (.box bt cs)=>match putCells cs e d with
     |some f=>K {st with hp:=gX st.hp id (.box bt f)}
     |none=>a7
    |_=>a7
   |.ep id ver i e=>match cZ st.hp id with
    |some (.arr u w xs)=>bif w==ver then
      (bif Ky i xs.length then
       (match putCells (flat u (xs.getD i u.dflt)) e d with
       |some cs=>match Dy u cs with
        |some x=>K {st with hp:=gX st.hp id (.arr u w (gp xs i x))}
        |none=>a7
       |none=>a7)else a7)else a7
    |_=>a7
   |_=>a7
  else a7
def WS (f:fD) (st:St) (a v:bn) (K:St->Option R):Option R:=
 match a,v with
 |.ptr id d,.slc i _ (a6 _)=>match cZ f id with
  |some (.box _ g)=>match g.getD d .undef with
   |.slc i0 _ a7=>bif Nat.beq i0 i&& !Nat.beq i id then
     (match cZ st.hp id,cZ st.hp i with
     |some (.box bt cs),a6 (.arr e w xs)=>match cs.getD d .undef with
      |.slc i1 w1 (a6 (lo,h))=>bif Nat.beq i1 i&&(w1==w&&lo==0)then
        K {st with hp:=gX (gX st.hp i (.arr e (w+1) (xs.take h.toNat))) id (.box bt (cs.set d (.slc i (w+1) a7)))}else K st
      |_=>K st
     |_,_=>K st)else K st
   |_=>K st
  |_=>K st
 |_,_=>K st
def FC (T:TT) (d:List (Nat×TypeId)) (cs:List bn):List (Nat×bn)->Option (List bn)
 |[]=>a6 cs
 |(i,v)::g=>match d[i]?,v.cells with
  |some (h,e),a6 f=>bif(T.at e).known&&f.length==(T.at e).size then
    (match putCells cs h f with
    |some j=>FC T d j g
    |none=>a7)else a7
  |_,_=>a7
def FH (e:Ty) (xs:List e.den):List (Nat×bn)->Option (List e.den)
 |[]=>a6 xs
 |(i,v)::d=>match v.as [] e with
  |some x=>bif Ky i xs.length then FH e (xs.set i x) d else a7
  |none=>a7
def intOf:bn->Option Int
 |.val (.int _) n=>a6 n
 |_=>a7
def bound (d:Int):Option bn->Option Int
 |none=>a6 d
 |some v=>intOf v
def TT.rowOf (T:TT) (t:TypeId) (size:Nat):Bool:=
 match(T.at t).k with
 |.slice e=>(T.at t).known&&((T.at e).known&&((T.at e).size==size&&(Ky 0 size&&Ky 0 (T.at e).bytes)))
 |_=>false
def TT.isPtr (T:TT) (t:TypeId):Bool:=
 match(T.at t).k with
 |.ptr _=>(T.at t).known
 |_=>false
def TT.isBytes (T:TT) (t:TypeId):Bool:=
 match(T.at t).k with
 |.ptr e=>(T.at t).known&&((T.at e).known&&(match(T.at e).ty with|some (.int .u8)=>Nat.beq (T.at e).size 1|_=>false))
 |_=>false
def TT.isStr (T:TT) (t:TypeId):Bool:=
 match(T.at t).k with
 |.str=>(T.at t).known
 |_=>false
def FI (T:TT) (hp:fD) (t:TypeId) (x:bn) (lo hi d:Option bn) (K:bn->Option R):Option R:=
 match x,d with
 |.val .str s,a7=>match bound 0 lo,bound (bi s) hi with
  |some l,a6 h=>kT (T.isStr t&&gy (bi s) l h) (K (.val .str (sub s l h)))
  |_,_=>a7
 |.val (.list e) xs,a7=>match bound 0 lo,bound (bi xs) hi with
  |some l,a6 h=>kT (T.rowOf t e.size&&gy (bi xs) l h) (K (.val (.list e) (sub xs l h)))
  |_,_=>a7
 |.val (.list e) xs,a6 m=>match bound 0 lo,hi.bind intOf,intOf m with
  |some l,a6 h,a6 k=>kT (T.rowOf t e.size&&(l==0&&(h==0&&k==0))) (K .emp)
  |_,_,_=>a7
 |.nils,a7=>match bound 0 lo,bound 0 hi with
  |some l,a6 h=>kT (T.rowOf t (T.at (match(T.at t).k with|.slice e=>e|_=>0)).size&&(bC l 0&&bC h 0)) (K .nils)
  |_,_=>a7
 |.slc id ver a7,a7=>match cZ hp id with
  |some (.arr e v xs)=>bif v==ver then
    (match bound 0 lo,bound (bi xs) hi with
    |some l,a6 h=>kT (T.rowOf t e.size&&gy (bi xs) l h) (K (.slc id ver (a6 (l,h))))
    |_,_=>a7)else a7
  |_=>a7
 |_,_=>a7
def TT.fieldAt (T:TT) (t:TypeId) (f:Nat):Option (Nat×TypeId):=
 match(T.at t).k with
 |.struct e=>bif(T.at t).known then
   (match e[f]? with
   |some (g,d)=>bif(T.at d).known&&Ky 0 (T.at d).size then a6 (g,d)else a7
   |none=>a7)else a7
 |_=>a7
def qR (T:TT) (hp:fD) (t:TypeId) (x:bn) (f:Nat) (K:bn->Option R):Option R:=
 match T.fieldAt t f with
 |some (d,_)=>match x with
  |.cellp u x=>match(T.at t).ty with
   |some e=>match iR e x with
    |some y=>K (MV e y f)
    |none=>a7
   |none=>a7
  |.ptr id o=>match cZ hp id with
   |some (.box _ _)=>K (.ptr id (o+d))
   |_=>a7
  |.ep id ver i o=>match cZ hp id with
   |some (.arr _ v _)=>bif v==ver then K (.ep id ver i (o+d))else a7
   |_=>a7
  |_=>a7
 |none=>a7
def FD (T:TT) (t:TypeId) (x:bn) (f:Nat) (K:bn->Option R):Option R:=
 match T.fieldAt t f with
 |some (g,d)=>match x with
  |.val u x=>match(T.at t).ty with
   |some e=>match iR e x with
    |some y=>K (Tn e y f)
    |none=>a7
   |none=>a7
  |.agg l=>match Fe l g (T.at d).size with
   |some cs=>K (norm (T.at d) cs)
   |none=>a7
  |_=>a7
 |none=>a7
def qU (T:TT) (hp:fD) (t:TypeId) (x i:bn) (K:bn->Option R):Option R:=
 match intOf i with
 |none=>a7
 |some i=>match x with
  |.val (.list e) xs=>kT (T.rowOf t e.size&&gm xs i) (K (.cellp e (bT xs e.dflt i)))
  |.slc id ver d=>match cZ hp id with
   |some (.arr e v xs)=>bif v==ver then
     (match d with
     |none=>kT (T.rowOf t e.size&&gm xs i) (K (.ep id ver i.toNat 0))
     |some (lo,f)=>kT (T.rowOf t e.size&&(decide (0<=i)&&gY (lo+i) f)) (K (.ep id ver (lo+i).toNat 0)))else a7
   |_=>a7
  |_=>a7
def WT (T:TT) (hp:fD) (t:TypeId) (x:bn) (K:bn->Option R):Option R:=
 match x with
 |.val .str s=>kT (T.isStr t) (K (.val (.int .i64) (bi s)))
 |.val (.list e) xs=>kT (T.rowOf t e.size) (K (.val (.int .i64) (bi xs)))
 |.nils=>kT (T.rowOf t (T.at (match(T.at t).k with|.slice e=>e|_=>0)).size) (K (.val (.int .i64) 0))
 |.slc id ver d=>match cZ hp id with
  |some (.arr e v xs)=>bif v==ver then
    kT (T.rowOf t e.size) (match d with
    |none=>K (.val (.int .i64) (bi xs))
    |some (lo,f)=>K (.val (.int .i64) (f-lo)))else a7
  |_=>a7
 |_=>a7
def FB (T:TT) (cl:Bool) (dst:Option Nat) (t:TypeId) (s x:bn) (st:St) (K:bn->St->Option R):Option R:=
 match(T.at t).k with
 |.slice f=>match(T.at f).ty with
  |some e=>match x.as st.hp (.list e)with
   |none=>a7
   |some d=>match s with
    |.nils=>kT (T.rowOf t e.size&&dZ d (T.at f).bytes) (alloc cl dst (.arr e 0 d) st fun id st=>K (.slc id 0 a7) st)
    |.emp=>kT (T.rowOf t e.size&&dZ d (T.at f).bytes) (bif Ky 0 d.length then alloc cl dst (.arr e 0 d) st fun id st=>K (.slc id 0 a7) st else K .emp st)
    |.slc id ver h=>match cZ st.hp id with
     |some (.arr e' v xs)=>bif v==ver then
       (match iR (t':=.list e') (.list e) xs with
       |some xs=>match h with
        |none=>kT (T.rowOf t e.size&&dZ (xs++d) (T.at f).bytes) (K (.slc id (ver+1) a7) {st with hp:=gX st.hp id (.arr e (ver+1) (xs++d))})
        |some (lo,g)=>kT (T.rowOf t e.size&&(bC lo 0&&dZ (xs.take g.toNat++d) (T.at f).bytes))
          (K (.slc id (ver+1) a7) {st with hp:=gX st.hp id (.arr e (ver+1) (xs.take g.toNat++d))})
       |none=>a7)else a7
     |_=>a7
    |_=>a7
  |none=>a7
 |_=>a7
def xu (T:TT) (cl:Bool) (dst:Option Nat) (t t':TypeId) (s x:bn) (st:St) (K:bn->St->Option R):Option R:=
 match(T.at t).k,x with
 |.slice d,.val .str y=>match(T.at d).ty with
  |some (.int .u8)=>bif T.isStr t'&&T.rowOf t 1&&Nat.beq (T.at d).bytes 1 then
    (match s with
    |.nils=>kT (auM y) (alloc cl dst (.arr (.int .u8) 0 (bF y)) st fun id st=>K (.slc id 0 a7) st)
    |.slc id ver e=>match cZ st.hp id with
     |some (.arr (.int .u8) v xs)=>bif v==ver then
       (match e with
       |none=>kT (dZ (xs++bF y) 1) (K (.slc id (ver+1) a7) {st with hp:=gX st.hp id (.arr (.int .u8) (ver+1) (xs++bF y))})
       |some _=>a7)else a7
     |_=>a7
    |_=>a7)else a7
  |_=>a7
 |_,_=>a7
def xw (T:TT) (s d:TypeId) (x:bn) (hp:fD) (K:bn->Option R):Option R:=
 bif !((T.at s).known&&(T.at d).known)then a7 else
 match(T.at s).k,(T.at d).k,x with
 |.int _,.int k,.val (.int _) n=>K (.val (.int k) (k.wrap n))
 |.str,.str,.val .str s=>K (.val .str s)
 |.slice e,.str,x=>match(T.at e).k with
  |.int .u8=>match x.as hp (.list (.int .u8))with
   |some xs=>kT (T.at e).known (K (.val .str (ofBytes xs)))
   |none=>a7
  |_=>a7
 |_,_,_=>a7
abbrev eF (R:Type):=bn->List bn->Option Nat->St->(bn->St->Option R)->Option R
def yh (k:IntKind):List bn->Option (List Int)
 |[]=>a6 []
 |.val (.int d) a::l=>if k=d then match yh k l with
   |some l=>a6 (a::l)
   |none=>a7
  else a7
 |_=>a7
def jo (T:TT) (cl:Bool) (o:Oper) (b:Builtin) (d:List TypeId) (args:List bn) (st:St) (K:bn->St->Option R):Option R:=
 match b,args with
 |.len,[x]=>match d with
  |[t]=>WT T st.hp t x fun v=>K v st
  |_=>a7
 |.min,.val (.int k) a::l=>match yh k l with
  |some l=>K (.val (.int k) (l.foldl Ej a)) st
  |none=>a7
 |.max,.val (.int k) a::l=>match yh k l with
  |some l=>K (.val (.int k) (l.foldl yV a)) st
  |none=>a7
 |.append,[s,x]=>match d with
  |[t,g]=>bif t==g then FB T cl o.dst t s x st K else xu T cl o.dst t g s x st K
  |_=>a7
 |.unsafeSliceData,[.slc id f a7]=>match d with
  |[t]=>match cZ st.hp id with
   |some (.arr e v _)=>bif v==f&&(T.rowOf t e.size&&T.isPtr o.type)then K (.sd id f) st else a7
   |_=>a7
  |_=>a7
 |.unsafeString,[.sd id f,.val (.int .i64) n]=>match d with
  |[h,_]=>match cZ st.hp id with
   |some (.arr (.int .u8) v xs)=>bif v==f&&T.isBytes h then kT (bC n (bi xs)) (K (.val .str (ofBytes xs)) {st with hp:=gX st.hp id .dead})else a7
   |_=>a7
  |_=>a7
 |_,_=>a7
def dH (T:TT) (cl:Bool) (call:eF R) (o:Oper) (st:St) (K:bn->St->Option R):Option R:=
 match o.op with
 |.move x|.assign x=>K (fG st.fr x) st
 |.pick c a b=>match fG st.fr c with
  |.val .bool t=>bif t then K (fG st.fr a) st else K (fG st.fr b) st
  |_=>a7
 |.alloc t=>bif(T.at t).known then
   (match(T.at t).k,(T.at t).zero with
   |.slice h,[.nils]=>match(T.at h).ty with
    |some e=>bif Ky 0 e.size then alloc cl (a6 (o.dst.getD 0+500000)) (.arr e 0 []) st fun i st=>alloc cl o.dst (.box t [.slc i 0 a7]) st fun id st=>K (.ptr id 0) st
     else a7
    |none=>alloc cl o.dst (.box t (T.at t).zero) st fun id st=>K (.ptr id 0) st
   |.struct _,[.nilp,.nils]=>bif(T.at t).bld then
     alloc cl (a6 (o.dst.getD 0+500000)) (.arr (.int .u8) 0 []) st fun i st=>alloc cl o.dst (.box t [.slf (AP cl st o.dst),.slc i 0 a7]) st fun id st=>K (.ptr id 0) st
    else alloc cl o.dst (.box t (T.at t).zero) st fun id st=>K (.ptr id 0) st
   |_,z=>alloc cl o.dst (.box t z) st fun id st=>K (.ptr id 0) st)else a7
 |.box t x=>match(fG st.fr x).cells with
  |some D=>bif(T.at t).known&&D.length==(T.at t).size then alloc cl o.dst (.box t D) st fun id st=>K (.ptr id 0) st else a7
  |none=>a7
 |.build t u=>bif !(T.at t).known then a7 else
  match(T.at t).k with
  |.struct G=>match FC T G (T.at t).zero (u.toList.map fun p=>(p.1,fG st.fr p.2))with
   |some cs=>K (norm (T.at t) cs) st
   |none=>a7
  |_=>a7
 |.buildSlice t n u=>match(T.at t).k with
  |.slice h=>match(T.at h).ty with
   |some e=>match Dy e (T.at h).zero with
    |some d=>bif T.rowOf t e.size&&leN (n*e.size) 1000000 then
      (match FH e (List.replicate n d) (u.toList.map fun p=>(p.1,fG st.fr p.2))with
      |some xs=>alloc cl o.dst (.arr e 0 xs) st fun id st=>K (.slc id 0 a7) st
      |none=>a7)else a7
    |none=>a7
   |none=>a7
  |_=>a7
 |.load t a=>H7 T st.hp t (fG st.fr a) fun v=>K v st
 |.store t a v=>FM T st t (fG st.fr a) (fG st.fr v) fun I=>WS st.hp I (fG st.fr a) (fG st.fr v) fun st=>K .undef st
 |.nilCheck x=>match fG st.fr x with
  |.ptr id A=>match cZ st.hp id with
   |some (.box _ _)=>K (.ptr id A) st
   |_=>a7
  |.cellp t x=>K (.cellp t x) st
  |.ep id ver i A=>match cZ st.hp id with
   |some (.arr _ v _)=>bif v==ver then K (.ep id ver i A) st else a7
   |_=>a7
  |_=>a7
 |.binOp op t x y _=>MQ T st.hp op t (fG st.fr x) (fG st.fr y) fun v=>K v st
 |.unOp op _ x=>ahS op (fG st.fr x) fun v=>K v st
 |.makeMap t r=>match r,T.mapOf t with
  |none,a6 (j,g)=>alloc cl o.dst (.mp j g []) st fun id st=>K (.mpv id) st
  |_,_=>a7
 |.mapUpdate t m k x=>match T.mapOf t,fG st.fr m with
  |some (j,g),.mpv id=>match cZ st.hp id,fG st.fr k,fG st.fr x with
   |some (.mp kk' vk' q),.val (.int B) a,.val (.int J) b=>
    bif decide (kk'=j)&&(decide (B=j)&&(decide (vk'=g)&&decide (J=g)))then K .undef {st with hp:=gX st.hp id (.mp j g (kN q a b))}else a7
   |_,_,_=>a7
  |_,_=>a7
 |.lookup t m k ok=>match T.mapOf t,fG st.fr m with
  |some (j,g),.mpv id=>match cZ st.hp id,fG st.fr k with
   |some (.mp kk' vk' q),.val (.int B) a=>
    bif decide (kk'=j)&&(decide (B=j)&&decide (vk'=g))then
     K (bif ok then .tup [.val (.int g) (kw q a),.val .bool (ajz q a)]else .val (.int g) (kw q a)) st else a7
   |_,_=>a7
  |_,_=>a7
 |.convert s d x=>xw T s d (fG st.fr x) st.hp fun v=>K v st
 |.makeFunc f first E=>match f,first.toList with
  |.func f,[]=>K (.fn f (E.toList.map (fG st.fr))) st
  |.func f,l=>bif E.toList.isEmpty then K (.mfn f (l.map (fG st.fr))) st else a7
  |_,_=>a7
 |.makeSlice t l c=>match(T.at t).k with
  |.slice h=>match(T.at h).ty,intOf (fG st.fr l),intOf (fG st.fr c)with
   |some e,a6 l,a6 c=>match Dy e (T.at h).zero with
    |some d=>kT (T.rowOf t e.size&&(decide (0<=l)&&(decide (l<=c)&&decide (c.toNat*(T.at h).bytes<=mW))))
      (alloc cl o.dst (.arr e 0 (List.replicate l.toNat d)) st fun id st=>K (.slc id 0 a7) st)
    |none=>a7
   |_,_,_=>a7
  |_=>a7
 |.slice t x lo hi L=>FI T st.hp t (fG st.fr x) (lo.map (fG st.fr)) (hi.map (fG st.fr)) (L.map (fG st.fr)) fun v=>K v st
 |.fieldAddr t x f=>qR T st.hp t (fG st.fr x) f fun v=>K v st
 |.field t x f=>FD T t (fG st.fr x) f fun v=>K v st
 |.indexAddr t x i=>qU T st.hp t (fG st.fr x) (fG st.fr i) fun v=>K v st
 |.index t x i=>match fG st.fr x,intOf (fG st.fr i)with
  |.val .str s,a6 i=>kT (T.isStr t&&gm s i) (K (.val (.int .u8) (bU s i)) st)
  |_,_=>a7
 |.extract x n=>match fG st.fr x with
  |.tup l=>match l[n]? with
   |some v=>K v st
   |none=>a7
  |_=>a7
 |.call c=>match c.callee with
  |.builtin b=>jo T cl o b c.argTypes.toList (c.args.toList.map (fG st.fr)) st K
  |.value f=>call (fG st.fr f) (c.args.toList.map (fG st.fr)) o.dst st K
  |_=>a7
 |_=>a7
def St.put (st:St) (dst:Option Nat) (v:bn):St:=
 match dst with
 |some d=>{st with fr:=st.fr.set d v}
 |none=>st
def fU (T:TT) (cl:Bool) (call:eF R) (ops:Array Oper) (K:St->Option R):List Oper->St->Option R
 |[],st=>K st
 |o::e,st=>
  match o.guard with
  |none=>dH T cl call o st fun v st=>fU T cl call ops K e (st.put o.dst v)
  |some (j,f)=>match(ops[j]?).bind (·.dst)with
   |none=>a7
   |some d=>match st.fr.getD d .undef with
    |.val .bool b=>
     bif b then
      (bif f then dH T cl call o (st.put (a6 d) (.val .bool true)) fun v st=>fU T cl call ops K e (st.put o.dst v)
      else fU T cl call ops K e ((st.put (a6 d) (.val .bool true)).put o.dst (.tup [])))
     else
      (bif f then fU T cl call ops K e ((st.put (a6 d) (.val .bool false)).put o.dst (.tup []))
      else dH T cl call o (st.put (a6 d) (.val .bool false)) fun v st=>fU T cl call ops K e (st.put o.dst v))
    |.tup []=>fU T cl call ops K e (st.put o.dst (.tup []))
    |_=>a7
mutual
def refs:bn->List Nat
 |.ptr id _=>[id]
 |.slc id _ _=>[id]
 |.ep id _ _ _=>[id]
 |.slf id=>[id]
 |.sd id _=>[id]
 |.yld id=>[id]
 |.tup l=>jS l
 |.agg l=>jS l
 |.fn _ l=>jS l
 |.mfn _ l=>jS l
 |.mpv id=>[id]
 |_=>[]
def jS:List bn->List Nat
 |[]=>[]
 |v::l=>refs v++jS l
end
def pU:List (List bn)->List Nat
 |[]=>[]
 |l::d=>jS l++pU d
def bY.refs:bY->List Nat
 |.box _ cs=>jS cs
 |.lp _ fr _ _ _ _ _ _=>jS fr
 |_=>[]
def uC:fD->List Nat
 |[]=>[]
 |(_,o)::h=>o.refs++uC h
def Uk (l:List Nat) (i:Nat):Bool:=l.any (Nat.beq i)
def aj9 (h:fD):Nat->List Nat->List Nat
 |0,l=>l
 |n+1,l=>aj9 h n (l++uC (h.filter fun e=>Uk l e.1))
def AU (d l:List Nat):Bool:=l.all fun i=> !Uk d i
def gc (d:Nat) (v:bn) (st:St):Option St:=
 let h:=st.hp.filter fun e=>Nat.blt e.1 d
 let new:=st.hp.filter fun e=> !Nat.blt e.1 d
 let f:=aj9 new 3 (refs v++jS st.fr++pU st.stk++uC h)
 let g:=st.hp.filter fun e=>Nat.blt e.1 d||Uk f e.1
 let i:=((st.hp.filter fun e=> !(Nat.blt e.1 d||Uk f e.1)).map (·.1))
 bif AU i (refs v++jS st.fr++pU st.stk++uC g)then a6 {st with hp:=g}else a7
def ao6 (h:fD) (id:Nat):Option Nat:=
 match cZ h id with
 |some (.arr _ v _)=>a6 v
 |_=>a7
def Nq (h:fD) (id d:Nat):Bool:=match ao6 h id with
 |some v=>v==d
 |none=>false
mutual
def anew (h:fD):bn->bn
 |.slc id d e=>bif Nq h id d then .slc id 0 e else .undef
 |.ep id d i g=>bif Nq h id d then .ep id 0 i g else .undef
 |.sd id d=>bif Nq h id d then .sd id 0 else .undef
 |.tup l=>.tup (xf h l)
 |.agg l=>.agg (xf h l)
 |.fn f l=>.fn f (xf h l)
 |.mfn f l=>.mfn f (xf h l)
 |v=>v
def xf (h:fD):List bn->List bn
 |[]=>[]
 |v::l=>anew h v::xf h l
end
def bY.anew (h:fD):bY->bY
 |.box t cs=>.box t (xf h cs)
 |.lp f fr ps a b k n p=>.lp f (xf h fr) ps a b k n p
 |.arr t _ xs=>.arr t 0 xs
 |o=>o
def Sm (st:St):St:=
 {st with fr:=xf st.hp st.fr,stk:=st.stk.map (xf st.hp),hp:=st.hp.map fun e=>(e.1,e.2.anew st.hp)}
structure dW where
 slots:List Nat
 owns:List (Nat×Ty)
 after:List Nat
 aowns:List (Nat×Ty)
 rets:List Nat
 give:List (Nat×Ty)
def Dv (l:List Nat):Nat->List bn->List bn
 |_,[]=>[]
 |i,v::r=>(bif Uk l i then v else .undef)::Dv l (i+1) r
def vC (s:Nat) (t:Ty) (st:St):Option St:=
 match st.fr.getD s .undef with
 |.nils=>match cZ st.hp (1000000*st.stk.length+800000+s)with
  |some _=>a7
  |none=>bif st.nxt.ble (1000000*st.stk.length+800000+s)&&Nat.blt 0 t.size then
    a6 {st with fr:=st.fr.set s (.slc (1000000*st.stk.length+800000+s) 0 a7),hp:=(1000000*st.stk.length+800000+s,.arr t 0 [])::st.hp}else a7
 |.slc id ver d=>match cZ st.hp id with
  |some (.arr u w xs)=>bif w==ver then
    (match d with
    |none=>a6 st
    |some (lo,e)=>bif lo==0 then
      a6 {st with fr:=st.fr.set s (.slc id (ver+1) a7),hp:=gX st.hp id (.arr u (ver+1) (xs.take e.toNat))}else a7)else a7
  |_=>a7
 |_=>a7
def aix (k:Nat) (o:bY):fD->fD
 |[]=>[(k,o)]
 |(j,p)::h=>bif Nat.ble j k then(k,o)::(j,p)::h else(j,p)::aix k o h
def jT:fD->fD
 |[]=>[]
 |(k,o)::h=>aix k o (jT h)
def Oi (id off:Nat) (t:Ty) (st:St):Option St:=
 match cZ st.hp id with
 |some (.box bt cs)=>match cs.getD off .undef with
  |.nils=>match t with
   |.pair .unit d=>a6 {st with hp:=gX st.hp id (.box bt (cs.set off (.val (.list d) [])))}
   |t=>match cZ st.hp (id+500000+2000*off)with
    |some _=>a7
    |none=>bif st.nxt.ble (id+500000+2000*off)&&Nat.blt 0 t.size then
      a6 {st with hp:=gX ((id+500000+2000*off,.arr t 0 [])::st.hp) id (.box bt (cs.set off (.slc (id+500000+2000*off) 0 a7)))}else a7
  |_=>a6 st
 |_=>a6 st
def KH (id off:Nat) (t:Ty) (st:St):Option St:=
 match Oi id off t st with
 |some st=>a6 {st with hp:=jT st.hp}
 |none=>a7
def Aj (s:Nat) (t:Ty) (st:St):Option St:=
 match st.fr.getD s .undef with
 |.nils=>a6 {st with fr:=st.fr.set s (.val (.list t) [])}
 |.emp=>a6 {st with fr:=st.fr.set s (.val (.list t) [])}
 |.slc id ver a7=>match cZ st.hp id with
  |some (.arr u w xs)=>bif w==ver&&AU ((st.hp.filter fun e=> !(!Nat.beq e.1 id)).map (·.1)) (jS (st.fr.set s .undef)++pU st.stk++uC (st.hp.filter fun e=> !Nat.beq e.1 id))then
    a6 {st with fr:=st.fr.set s (.val (.list u) xs),hp:=st.hp.filter fun e=> !Nat.beq e.1 id}else a7
  |_=>a7
 |.slc _ _ (a6 _)=>a7
 |_=>a6 st
def KQ (s:Nat) (t:Ty) (st:St):Option St:=
 match st.fr.getD s .undef with
 |.slc id ver a7=>bif Nat.beq id (1000000*st.stk.length+800000+s)then a6 {st with hp:=jT st.hp}else
  match cZ st.hp id with
  |some (.arr u w xs)=>bif st.nxt.ble (1000000*st.stk.length+800000+s)&&AU [id,1000000*st.stk.length+800000+s] (jS (st.fr.set s .undef)++pU st.stk++uC (st.hp.filter fun e=> !(Nat.beq e.1 id||Nat.beq e.1 (1000000*st.stk.length+800000+s))))then
    a6 {st with fr:=st.fr.set s (.slc (1000000*st.stk.length+800000+s) ver a7),hp:=jT ((1000000*st.stk.length+800000+s,.arr u w xs)::st.hp.filter fun e=> !(Nat.beq e.1 id||Nat.beq e.1 (1000000*st.stk.length+800000+s)))}else a7
  |_=>a7
 |.ptr id 0=>bif Nat.beq id (1000000*st.stk.length+800000+s)then a6 {st with hp:=jT st.hp}else
  match cZ st.hp id with
  |some (.box u xs)=>bif st.nxt.ble (1000000*st.stk.length+800000+s)&&AU [id,1000000*st.stk.length+800000+s] (jS (st.fr.set s .undef)++pU st.stk++(jS xs++uC (st.hp.filter fun e=> !(Nat.beq e.1 id||Nat.beq e.1 (1000000*st.stk.length+800000+s)))))then
    a6 {st with fr:=st.fr.set s (.ptr (1000000*st.stk.length+800000+s) 0),hp:=jT ((1000000*st.stk.length+800000+s,.box u xs)::st.hp.filter fun e=> !(Nat.beq e.1 id||Nat.beq e.1 (1000000*st.stk.length+800000+s)))}else a7
  |_=>a7
 |_=>match vC s t st with
  |some st=>a6 {st with hp:=jT st.hp}
  |none=>a7
def xE:List (Nat×Ty)->St->Option St
 |[],st=>a6 st
 |(s,t)::l,st=>match Aj s t st with
  |some st=>xE l st
  |none=>a7
def iT:List (Nat×Ty)->St->Option St
 |[],st=>a6 st
 |(s,.pair .unit t)::l,st=>match Aj s t st with
  |some st=>iT l st
  |none=>a7
 |(s,.pair (.list .unit) t)::l,st=>match KH (s/100) (s %100) t st with
  |some st=>iT l st
  |none=>a7
 |(s,.pair (.list .bool) t)::l,st=>match KQ s t st with
  |some st=>iT l st
  |none=>a7
 |(s,t)::l,st=>match vC s t st with
  |some st=>iT l st
  |none=>a7
def Hm (d:List Nat) (e:List (Nat×Ty)) (st:St):Option St:=
 match(match e with
  |[]=>a6 {st with fr:=Dv d 0 st.fr}
  |_=>gc (1000000*st.stk.length) .undef {st with fr:=Dv d 0 st.fr})with
 |some st=>match iT e st with
  |some st=>match gc (1000000*st.stk.length) .undef st with
   |some st=>a6 (Sm st)
   |none=>a7
  |none=>a7
 |none=>a7
def alz (k:dW) (st:St):Option St:=
 match xE k.give {st with fr:=Dv k.rets 0 st.fr}with
 |some st=>match gc (1000000*st.stk.length) .undef st with
  |some st=>a6 (Sm st)
  |none=>a7
 |none=>a7
def iter (kp:Option dW) (F:St->(Ex->St->Option R)->Option R):Nat->St->(Ex->St->Option R)->Option R
 |0,_,_=>a7
 |n+1,st,K=>F st fun d st=>match d with
  |.normal=>match kp with
   |none=>iter kp F n st K
   |some k=>match Hm k.slots k.owns st with
    |some st=>iter kp F n st K
    |none=>a7
  |.ret=>match kp with
   |none=>K .ret st
   |some k=>match alz k st with
    |some st=>K .ret st
    |none=>a7
  |d=>match kp with
   |none=>K d st
   |some k=>match Hm k.after k.aowns st with
    |some st=>K d st
    |none=>a7
def bM:Code->Nat
 |.region id _ _=>id
 |.seq a _=>bM a
 |.block _ c=>bM c
 |.loop c=>bM c
 |.scope c=>bM c
 |.cond _ a _=>bM a
 |_=>0
def bD:Nat:=10000000000000000000000000000000000000000
def Ty.rigid:Ty->Bool
 |.list _=>false
 |.pair a b=>a.rigid&&b.rigid
 |_=>true
structure Sum where
 ps:List Ty
 rs:List (Ty×Bool)
 f:(ps.foldr Ty.pair Ty.unit).den->Option ((rs.map (·.1)).foldr Ty.pair Ty.unit).den
def xg (hp:fD):(ps:List Ty)->List bn->Option (ps.foldr Ty.pair Ty.unit).den
 |[],[]=>a6 ()
 |t::d,v::e=>match v.as hp t with
  |some x=>match xg hp d e with
   |some y=>a6 (x,y)
   |none=>a7
  |none=>a7
 |_,_=>a7
def Ty.elem:Ty->Ty
 |.list t=>t
 |t=>t
def mr (id:Nat):(rs:List (Ty×Bool))->((rs.map (·.1)).foldr Ty.pair Ty.unit).den->List bn
 |[],_=>[]
 |(t,false)::rs,y=>.val t y.1::mr id rs y.2
 |(_,true)::rs,y=>.slc id 0 a7::mr id rs y.2
def vz:(rs:List (Ty×Bool))->((rs.map (·.1)).foldr Ty.pair Ty.unit).den->Option (Σ e:Ty,List e.den)
 |[],_=>a7
 |(_,false)::rs,y=>vz rs y.2
 |(.list e,true)::_,y=>a6 ⟨e,y.1⟩
 |(_,true)::_,_=>a7
def kV:bn->Bool
 |.slc _ _ _=>true
 |.agg _=>true
 |_=>false
def IQ:List bn->bn
 |[v]=>v
 |vs=>.tup vs
def news:List (Ty×Bool)->Nat
 |[]=>0
 |(_,false)::d=>news d
 |(_,true)::d=>news d+1
def aZ {d e:Type} (o:Option d) (k:d->Option e):Option e:=
 match o with
 |some x=>k x
 |none=>a7
def Sum.call (s:Sum) (cl:Bool) (args:List bn) (dst:Option Nat) (st:St) (K:bn->St->Option R):Option R:=
 bif s.rs.all (fun r=>r.1.rigid||(r.2&&r.1.elem.rigid))|| !args.any kV then
  match xg st.hp s.ps args with
  |some x=>aZ (s.f x) fun y=>match vz s.rs y with
   |none=>bif Nat.beq (news s.rs) 0 then K (IQ (mr 0 s.rs y)) st else a7
   |some ⟨e,xs⟩=>bif Nat.beq (news s.rs) 1 then alloc cl (a6 (dst.getD 0+100000)) (.arr e 0 xs) st fun id st=>K (IQ (mr id s.rs y)) st else a7
  |none=>a7
 else a7
structure fF where
 bt:TypeId
 cs:List (Ty×Bool)
 ps:List Ty
 rs:List Ty
 f:((cs.map (·.1)).foldr Ty.pair Ty.unit).den->(ps.foldr Ty.pair Ty.unit).den->Option (((cs.map (·.1)).foldr Ty.pair Ty.unit).den×(rs.foldr Ty.pair Ty.unit).den)
def Fv:(d:List Ty)->(d.foldr Ty.pair Ty.unit).den->List bn
 |[],_=>[]
 |t::d,x=>.val t x.1::Fv d x.2
def mf:List (Ty×Bool)->List bn->List (Nat×Nat)
 |(_,true)::cs,.slc id ver _::d=>(id,ver)::mf cs d
 |_::cs,_::d=>mf cs d
 |_,_=>[]
def qN:List (Ty×Bool)->List bn->List Nat
 |(_,false)::cs,v::d=>refs v++qN cs d
 |_::cs,_::d=>qN cs d
 |_,_=>[]
def iZ (hp:fD) (d:Bool):(cs:List (Ty×Bool))->List bn->Option ((cs.map (·.1)).foldr Ty.pair Ty.unit).den
 |[],[]=>a6 ()
 |(t,false)::cs,v::f=>bif d&&(kV v&& !t.rigid)then a7 else match v.as hp t with
  |some x=>match iZ hp d cs f with
   |some y=>a6 (x,y)
   |none=>a7
  |none=>a7
 |(.list e,true)::cs,.slc id ver a7::f=>match cZ hp id with
  |some (.arr t v xs)=>bif v==ver then(match iR (.list e) (t':=.list t) xs with
   |some x=>match iZ hp d cs f with
    |some y=>a6 (x,y)
    |none=>a7
   |none=>a7)else a7
  |_=>a7
 |_,_=>a7
def Di:(cs:List (Ty×Bool))->List (Nat×Nat)->((cs.map (·.1)).foldr Ty.pair Ty.unit).den->List bn
 |[],_,_=>[]
 |(t,false)::cs,l,y=>.val t y.1::Di cs l y.2
 |(_,true)::cs,(i,v)::l,y=>.slc i v a7::Di cs l y.2
 |(_,true)::cs,[],y=>.undef::Di cs [] y.2
def qJ:(cs:List (Ty×Bool))->List (Nat×Nat)->((cs.map (·.1)).foldr Ty.pair Ty.unit).den->fD
 |[],_,_=>[]
 |(_,false)::cs,l,y=>qJ cs l y.2
 |(.list e,true)::cs,(i,v)::l,y=>(i,.arr e v y.1)::qJ cs l y.2
 |(_,true)::cs,l,y=>qJ cs l y.2
def Jz:fD->fD->fD
 |[],h=>h
 |(i,o)::l,h=>Jz l (gX h i o)
def iw:List (Ty×Bool)->Nat->List (Nat×Nat)
 |[],_=>[]
 |(_,true)::cs,n=>(n,0)::iw cs (n+1)
 |(_,false)::cs,n=>iw cs n
def Oa:List Nat->Bool
 |[]=>true
 |i::l=> !Uk l i&&Oa l
def fF.rigid (s:fF):Bool:=s.cs.all (fun c=>c.1.rigid||(c.2&&c.1.elem.rigid))&&s.rs.all Ty.rigid
def qg (cl:Bool):Nat->List (Ty×Bool)->List bn->St->(List bn->St->Option R)->Option R
 |n,(.list e,true)::cs,.nils::d,st,K=>bif Ky 0 e.size then alloc cl (a6 n) (.arr e 0 []) st fun id st=>qg cl (n+1) cs d st fun l st=>K (.slc id 0 a7::l) st else a7
 |n,_::cs,v::d,st,K=>qg cl (n+1) cs d st fun l st=>K (v::l) st
 |_,_,l,st,K=>K l st
def fF.go (s:fF) (id:Nat) (d:List bn) (st:St) (K:bn->St->Option R):Option R:=
 match cZ st.hp id with
 |some (.box t cells)=>
  bif Nat.beq t s.bt&&((Oa ((mf s.cs cells).map (·.1))&&AU (id::(mf s.cs cells).map (·.1)) (jS d++qN s.cs cells))&&(s.rigid|| !d.any kV))then
   match iZ st.hp (!s.rigid) s.cs cells with
   |some x=>match xg st.hp s.ps d with
    |some y=>aZ (s.f x y) fun z=>K (IQ (Fv s.rs z.2))
      {st with hp:=gX (Jz (qJ s.cs ((mf s.cs cells).map fun p=>(p.1,p.2+1)) z.1) st.hp) id (.box t (Di s.cs ((mf s.cs cells).map fun p=>(p.1,p.2+1)) z.1))}
    |none=>a7
   |none=>a7
  else a7
 |_=>a7
def fF.call (s:fF) (cl:Bool) (args:List bn) (st:St) (K:bn->St->Option R):Option R:=
 match args with
 |.ptr id 0::d=>match cZ st.hp id with
  |some (.box t cells)=>bif cells.any (fun v=>match v with|.nils=>true|_=>false)then
    qg cl (200000+20*(id %5000)) s.cs cells st fun cells st=>s.go id d {st with hp:=gX st.hp id (.box t cells)} K
   else s.go id d st K
  |_=>a7
 |_=>a7
inductive Job where
 |call (f:FuncId) (args:List bn)
 |yield (id:Nat) (args:List bn)
structure dA where
 V:Type
 A:V->Type
 B:V->Type
 get:St->Option V
 spec:(v:V)->Option (A v⊕B v)
 exA:V->Ex
 stA:St->(v:V)->A v->St
 stB:St->(v:V)->B v->St
 dep:Nat:=0
 exB:V->Ex:=fun _=>.ret
def dB {e h d:Type} (o:e⊕h) (f:e->d) (g:h->d):d:=
 match o with
 |.inl a=>f a
 |.inr b=>g b
structure Env where
 P:Program
 T:TT
 cl:Bool
 kp:FuncId->Nat->Option dW
 sg:FuncId->Option Sum
 lp:FuncId->Nat->Option dA
 rf:FuncId->Nat->Bool:=fun _ _=>false
 bf:FuncId->Bool:=fun _=>false
 em:TypeId->Nat->Nat->Bool:=fun _ _ _=>false
 il:FuncId->Bool:=fun _=>false
 sl:FuncId->Bool:=fun _=>false
 sc:FuncId:=0
 np:FuncId->Bool:=fun _=>false
 dp:Nat:=0
 sb:FuncId->Option fF:=fun _=>a7
def Env.at (E:Env) (n:Nat):Env:={E with dp:=n}
def L9 (em:TypeId->Nat->Nat->Bool) (T:TT) (args:List bn) (st:St) (K:bn->St->Option R):Option R:=
 match args with
 |[.ptr id d]=>match cZ st.hp id with
  |some (.box t (.slf i:: .slc _ _ _::[]))=>bif Nat.beq d 0&&(Nat.beq i id&&((T.at t).known&&(T.at t).bld))then K (.tup []) st else a7
  |some (.box t cs)=>bif em t d cs.length then(match cs.getD d .undef with
    |.nilp=>K (.tup []) {st with hp:=gX st.hp id (.box t (cs.take d++[.ptr id d]++cs.drop (d+1)))}
    |.ptr i o=>bif Nat.beq i id&&Nat.beq o d then K (.tup []) st else a7
    |_=>a7)else a7
  |_=>a7
 |_=>a7
abbrev lq (R:Type):=Job->St->(bn->St->Option R)->Option R
structure Sl where
 q:Job->St->Option bn
 s:lq St
 u:lq Unit
def Qs:Ty:=.pair .str (.pair .str .unit)
def ae2 {d:Type} (l:List d) (i:Nat) (x:List d):List d:=l.take i++x++l.drop i
def ap0:bn->Option Int
 |.val (.int .i64) n=>a6 n
 |_=>a7
def TL (args:List bn) (st:St) (K:bn->St->Option R):Option R:=
 match args with
 |[.slc id ver a7,f,.slc i2 v2 a7]=>match ap0 f with
  |some i=>match cZ st.hp id with
   |some (.arr e v xs)=>match cZ st.hp i2 with
    |some (.arr e2 u d)=>bif(v==ver&&u==v2)&& !Nat.beq id i2 then
      (match iR (t':=.list e) (.list Qs) xs with
      |some xs=>match iR (t':=.list e2) (.list Qs) d with
       |some d=>bif Nat.beq d.length 1&&(leI 0 i&&(leI i (bi xs)&&dZ xs 64))then
         K (.slc id (ver+1) a7) {st with hp:=gX st.hp id (.arr Qs (ver+1) (ae2 xs i.toNat d))}else a7
       |none=>a7
      |none=>a7)else a7
    |_=>a7
   |_=>a7
  |none=>a7
 |_=>a7
def uM:Ty:=.pair (.int .i64) (.pair (.int .i64) (.pair (.int .i64) (.pair .bool .unit)))
def Rj:Int->List uM.den->Bool
 |_,[]=>true
 |n,x::r=>leI n x.2.1&&(leI x.2.1 4611686018427387904&&Rj (x.2.1+1) r)
def OU (xs:List uM.den):Bool:=Rj 0 xs
def VK (sc:FuncId) (args:List bn) (st:St) (K:bn->St->Option R):Option R:=
 match args with
 |[.slc id ver a7,.fn c []]=>bif Nat.beq c sc then(match cZ st.hp id with
   |some (.arr e v xs)=>bif v==ver then
     (match iR (t':=.list e) (.list uM) xs with
     |some xs=>bif OU xs&&dZ xs 64 then K (.tup []) st else a7
     |none=>a7)else a7
   |_=>a7)else a7
 |_=>a7
def acN:List bn->Bool
 |.nilp::_=>true
 |_=>false
def uj (E:Env) (f:lq R):eF R:=fun i d j st K=>
 match i with
 |.fn g e=>match E.sg g with
  |some s=>s.call E.cl (d++e) j st K
  |none=>match bif acN d then a7 else E.sb g with
   |some s=>s.call E.cl (d++e) st K
   |none=>bif E.bf g then L9 E.em E.T (d++e) st K else bif E.il g then TL (d++e) st K else bif E.sl g then VK E.sc (d++e) st K else f (.call g (d++e)) st K
 |.mfn g h=>match E.sb g with
  |some s=>s.call E.cl (h++d) st K
  |none=>f (.call g (h++d)) st K
 |.yld id=>f (.yield id d) st K
 |_=>a7
def bn.rigid:bn->Bool
 |.val t _=>t.rigid
 |_=>false
def bn.calm:bn->Bool
 |.val _ _=>true
 |_=>false
def bn.rigidR:bn->Bool
 |.tup l=>l.all bn.rigid
 |v=>v.rigid
def Qj (hp:fD):bn->Option bn
 |.val t x=>a6 (.val t x)
 |.nils=>a6 .nils
 |.slc id ver d=>match cZ hp id with
  |some (.arr t v xs)=>bif v==ver then a6 (.val (.list t) (V9 xs d))else a7
  |_=>a7
 |_=>a7
def LM (hp:fD):List bn->Option (List bn)
 |[]=>a6 []
 |v::l=>match Qj hp v with
  |some v=>match LM hp l with
   |some l=>a6 (v::l)
   |none=>a7
  |none=>a7
def MH (E:Env) (e:Job->St->Option bn):eF R:=fun f d h st K=>
 match f with
 |.fn g []=>match E.sg g with
  |some s=>bif s.rs.all (fun r=> !r.2&&r.1.rigid)then s.call E.cl d h st K else a7
  |none=>match LM st.hp d with
   |some d=>match e (.call g d) ⟨[],[],[],st.nxt⟩with
    |some v=>bif v.rigidR then K v st else a7
    |none=>a7
   |none=>a7
 |_=>a7
def iY:Op->Bool
 |.move _|.assign _|.pick _ _ _|.load _ _|.nilCheck _|.binOp _ _ _ _ _|.unOp _ _ _|.slice _ _ _ _ _|.fieldAddr _ _ _|.field _ _ _|.indexAddr _ _ _|.index _ _ _|.extract _ _|.build _ _|.convert _ _ _=>true
 |.call c=>match c.callee with
  |.builtin .len=>true
  |.builtin .min=>true
  |.builtin .max=>true
  |.value _=>true
  |_=>false
 |_=>false
def gq:Op->Bool
 |.call c=>match c.callee with
  |.builtin .len=>true
  |.builtin .min=>true
  |.builtin .max=>true
  |_=>false
 |o=>iY o
def EF:Op->Bool
 |.move _|.assign _|.pick _ _ _|.nilCheck _|.binOp _ _ _ _ _|.unOp _ _ _|.slice _ _ _ _ _|.fieldAddr _ _ _|.field _ _ _|.indexAddr _ _ _|.index _ _ _|.extract _ _=>true
 |.call c=>match c.callee with
  |.builtin .len=>true
  |.builtin .min=>true
  |.builtin .max=>true
  |_=>false
 |_=>false
def KD:Op->Bool
 |.move _|.assign _|.pick _ _ _|.load _ _|.index _ _ _|.extract _ _|.alloc _|.box _ _=>true
 |.call c=>match c.callee with
  |.builtin .len=>true
  |.builtin .unsafeSliceData=>true
  |_=>false
 |_=>false
def kU (ops:Array Oper):Bool:=ops.toList.all fun o=>match o.op with|.defer _=>false|.select _ _=>false|_=>true
def QP (l:List Nat) (i:Nat):Bool:=l.any (Nat.beq i)
def BI (ops:Array Oper) (j:Nat) (D:List Nat):Bool:=match ops[j]? with
 |some d=>d.after.any fun e=>Region.binds .any e&&QP D e.on
 |none=>false
def asV (ops:Array Oper) (d:Array Bool) (n:Nat) (D:List Nat):List Nat:=(List.range n).foldl (fun D j=>cond (!d.getD j true&&(!QP D j&&BI ops j D)) (j::D) D) D
def O4 (ops:Array Oper) (d:Array Bool) (i:Nat) (pure:Bool):Bool:=match ops[i]? with
 |some f=>let D:=asV ops d ops.size [i]
  QP D i&&(D.all (fun j=> !d.getD j true&&(Nat.beq j i||BI ops j D))&&(List.range ops.size).all fun j=>d.getD j true||(QP D j||(match ops[j]? with
   |some e=>f.apart ops e&&(pure||KD e.op)
   |none=>true)))
 |none=>false
def aaQ (ops:Array Oper) (f:Op->Bool) (i:Nat):Bool:=match ops[i]? with
 |some o=>f o.op
 |none=>false
def um {d:Type} (f:d->d->Bool):List d->List d->Bool
 |[],[]=>true
 |x::l,y::m=>f x y&&um f l m
 |_,_=>false
def Tf:(t:Ty)->t.den->t.den->Bool
 |.unit,_,_=>true
 |.bool,x,y=>x==y
 |.int _,x,y=>bC x y
 |.str,x,y=>iG x y
 |.list t,x,y=>um (Tf t) x y
 |.pair a b,x,y=>Tf a x.1 y.1&&Tf b x.2 y.2
def ZZ:Option (Int×Int)->Option (Int×Int)->Bool
 |none,a7=>true
 |some a,a6 b=>bC a.1 b.1&&bC a.2 b.2
 |_,_=>false
mutual
def Po (a b:bn):Bool:=
 match a with
 |.undef=>match b with|.undef=>true|_=>false
 |.val t x=>match b with
  |.val u y=>(match iR t y with|some y=>Tf t x y|none=>false)
  |_=>false
 |.nils=>match b with|.nils=>true|_=>false
 |.nilp=>match b with|.nilp=>true|_=>false
 |.nilfn=>match b with|.nilfn=>true|_=>false
 |.emp=>match b with|.emp=>true|_=>false
 |.tup l=>match b with|.tup m=>Eb l m|_=>false
 |.agg l=>match b with|.agg m=>Eb l m|_=>false
 |.cellp t x=>match b with
  |.cellp u y=>(match iR t y with|some y=>Tf t x y|none=>false)
  |_=>false
 |.lst t x n=>match b with
  |.lst u y m=>n==m&&(match iR (.list t) (t':=.list u) y with|some y=>Tf (.list t) x y|none=>false)
  |_=>false
 |.ptr i o=>match b with|.ptr j p=>Nat.beq i j&&Nat.beq o p|_=>false
 |.slc i v w=>match b with|.slc j u x=>Nat.beq i j&&(Nat.beq v u&&ZZ w x)|_=>false
 |.ep i v n o=>match b with|.ep j u m p=>Nat.beq i j&&(Nat.beq v u&&(eqN n m&&Nat.beq o p))|_=>false
 |.fn f l=>match b with|.fn g m=>Nat.beq f g&&Eb l m|_=>false
 |.mfn f l=>match b with|.mfn g m=>Nat.beq f g&&Eb l m|_=>false
 |.mpv i=>match b with|.mpv j=>Nat.beq i j|_=>false
 |.yld i=>match b with|.yld j=>Nat.beq i j|_=>false
 |.slf i=>match b with|.slf j=>Nat.beq i j|_=>false
 |.sd i v=>match b with|.sd j u=>Nat.beq i j&&Nat.beq v u|_=>false
def Eb:List bn->List bn->Bool
 |[],m=>match m with|[]=>true|_=>false
 |a::l,m=>match m with|b::m=>Po a b&&Eb l m|_=>false
end
def apH (a b:Ex):Bool:=match a with
 |.normal=>match b with|.normal=>true|_=>false
 |.exit i=>match b with|.exit j=>Nat.beq i j|_=>false
 |.goto i=>match b with|.goto j=>Nat.beq i j|_=>false
 |.ret=>match b with|.ret=>true|_=>false
def ahN:Option Ex->Option Ex->Bool
 |none,a7=>true
 |some a,a6 b=>apH a b
 |_,_=>false
def eqO (a b:bY):Bool:=
 match a with
 |.box t l=>match b with|.box u m=>Nat.beq t u&&Eb l m|_=>false
 |.arr t v x=>match b with
  |.arr u w y=>Nat.beq v w&&(match iR (.list t) (t':=.list u) y with|some y=>Tf (.list t) x y|none=>false)
  |_=>false
 |.lp f fr ps _ _ k n p=>match b with
  |.lp g fs qs _ _ h m q=>Nat.beq f g&&(Eb fr fs&&(um Nat.beq ps qs&&((match k,h with|some k,a6 h=>Nat.beq k h|_,_=>false)&&(Nat.beq n m&&ahN p q))))
  |_=>false
 |.dead=>match b with|.dead=>true|_=>false
 |.mp k v l=>match b with
  |.mp k' v' m=>decide (k=k')&&(decide (v=v')&&decide (l=m))
  |_=>false
def eqH:fD->fD->Bool
 |[],h=>match h with|[]=>true|_=>false
 |(i,a)::h,g=>match g with
  |(j,b)::g=>Nat.beq i j&&(eqO a b&&eqH h g)
  |[]=>false
def ahP (a b:St):Bool:=Eb a.fr b.fr&&(um Eb a.stk b.stk&&(eqH a.hp b.hp&&Nat.beq a.nxt b.nxt))
def O9 (d:fD) (i:Nat) (a:bY):Option bY:=match a with
 |.lp f fr ps _ _ (a6 k) n p=>match cZ d i with
  |some (.lp g _ _ iK bd (a6 h) _ _)=>bif Nat.beq f g&&Nat.beq k h then a6 (.lp f fr ps iK bd (a6 k) n p)else a7
  |_=>a7
 |.lp _ _ _ _ _ a7 _ _=>a7
 |a=>a6 a
def O6 (d:fD):fD->Option fD
 |[]=>a6 []
 |(i,a)::h=>match O9 d i a with
  |some a=>match O6 d h with
   |some h=>a6 ((i,a)::h)
   |none=>a7
  |none=>a7
def qj:fD->Bool
 |[]=>true
 |(k,_)::h=> !h.any (fun e=>Nat.beq e.1 k)&&qj h
def NY (d:fD):List (Option St)->Option St
 |some a::l=>bif(a6 a::l).all (fun b=>match b with|some b=>ahP a b&&qj b.hp|none=>false)then
   (match O6 d a.hp with|some h=>a6 {a with hp:=h}|none=>a7)else a7
 |_=>a7
def tidy (cl:Bool) (st:St):St:=cond cl st {st with hp:=jT st.hp}
def qF (ops:Array Oper) (i k:Nat):Bool:=match ops[i]? with
 |some d=>d.after.any fun e=>Region.binds .any e&&Nat.beq e.on k
 |none=>false
def BV (ops:Array Oper) (x y:Oper):Bool:=match y.dst with
 |some d=> !(x.looksAt ops).contains d&&x.dst !=a6 d
 |none=>true
def Iz (ops:Array Oper) (log:List Nat) (i:Nat):Bool:=match ops[i]? with
 |some d=>BV ops {d with dst:=a7} d&&log.all fun k=>match ops[k]? with
  |some ok=>BV ops ok d&&(qF ops i k||ok.apart ops d)
  |none=>false
 |none=>false
def ajM (ops:Array Oper) (log:List Nat) (i:Nat):Bool:=match ops[i]? with
 |some d=>log.all fun k=>match ops[k]? with
  |some ok=>qF ops i k||ok.apart ops d
  |none=>false
 |none=>false
def mF (ops:Array Oper):List Nat->List bn->List bn
 |[],e=>e
 |i::l,e=>match(ops[i]?).bind (·.dst)with
  |some d=>(mF ops l e).set d .undef
  |none=>mF ops l e
def sameAt (dst:Option Nat) (z:bn) (st:St):Bool:=match dst with
 |some d=>Po z (st.fr.getD d .undef)
 |none=>true
def GR (s:Sum):Bool:=s.rs.all fun r=> !r.2&&r.1.rigid
def Dk (sg:FuncId->Option Sum) (cl:Bool):eF R:=fun e d f st K=>match e with
 |.fn g []=>match sg g with
  |some s=>bif GR s&&d.all bn.calm then s.call cl d f st K else a7
  |none=>a7
 |_=>a7
def sU (sg:FuncId->Option Sum) (o:Op):Bool:=match o with
 |.call c=>match c.callee with
  |.builtin _=>true
  |.value (.func g)=>match sg g with
   |some s=>GR s
   |none=>false
  |_=>false
 |_=>true
def LC:List (Option Unit)->Option R->Option R
 |[],k=>k
 |o::l,k=>aZ o fun _=>LC l k
def settle (d:fD) (a:St):Option St:=match O6 d a.hp with
 |some h=>a6 {a with hp:=h}
 |none=>a7
def iQ (o:Oper) (fr:List bn):List bn:=match o.op with
 |.call c=>match c.callee with
  |.value v=>fG fr v::c.args.toList.map (fG fr)
  |_=>[]
 |_=>[]
def TQ (sg:FuncId->Option Sum) (ops:Array Oper) (fr:List bn) (i:Nat):Bool:=match ops[i]? with
 |some o=>match iQ o fr with
  |.fn g []::e=>match sg g with
   |some s=>(GR s&&e.all bn.calm)&&(match o.dst with|some d=>Ky d fr.length|none=>true)
   |none=>false
  |_=>false
 |none=>false
def wY (dst:Option Nat) (fr:List bn):List bn:=match dst with
 |some d=>[fr.getD d .undef]
 |none=>[]
def vP (T:TT) (cl:Bool) (call:eF R) (ops:Array Oper) (e:List bn):List Nat->St->(St->Option R)->Option R
 |[],st,K=>K st
 |i::l,st,K=>match ops[i]? with
  |some d=>bif gq d.op then(dH T cl call d st fun z _=>bif sameAt d.dst z st then vP T cl call ops e l st K else a7)
   else bif Eb (iQ d e) (iQ d st.fr)&&Eb (wY d.dst e) (wY d.dst st.fr)then vP T cl call ops e l st K else a7
  |none=>a7
def qW (T:TT) (cl:Bool) (call:eF R) (ops:Array Oper) (j:Nat) (log:List Nat) (st:St) (K:St->Option R):Option R:=
 match ops[j]? with
 |some d=>bif d.guard.isNone&&ajM ops log j then
   dH T cl call d {st with fr:=mF ops (log.filter fun i=> !qF ops j i) st.fr,stk:=st.fr::st.stk} fun z g=>match g.stk with
    |e::f=>vP T cl call ops st.fr (log.filter fun i=> !qF ops j i).reverse ({g with fr:=e,stk:=f}.put d.dst z) K
    |[]=>a7
  else a7
 |none=>a7
def kQ (T:TT) (cl:Bool) (sg:FuncId->Option Sum) (d:eF St) (e:eF Unit) (ops:Array Oper):Nat->{R:Type}->eF R->Array Bool->List Nat->St->(St->Option R)->Option R
  |0,_,_,_,_,_,_=>a7
  |n+1,_,call,f,log,st,K=>match Region.ready .any ops f with
    |[]=>K st
    |k::rs=>match(k::rs).find? fun i=>aaQ ops gq i&&Iz ops log i with
      |some i=>match ops[i]? with
        |some g=>bif g.guard.isNone&&Iz ops log i then
            dH T cl call g st fun z st=>kQ T cl sg d e ops n call (f.setIfInBounds i true) (i::log) (st.put g.dst z) K else a7
        |none=>a7
      |none=>match(k::rs).find? fun i=>TQ sg ops st.fr i with
       |some i=>match ops[i]? with
        |some g=>bif g.guard.isNone&&Iz ops log i then
            dH T cl (Dk sg cl) g st fun z st=>kQ T cl sg d e ops n call (f.setIfInBounds i true) (i::log) (st.put g.dst z) K else a7
        |none=>a7
       |none=>match rs with
        |[]=>qW T cl call ops k log st fun st=>kQ T cl sg d e ops n call (f.setIfInBounds k true) log st K
        |_=>bif cl|| !ops.toList.all (fun o=>sU sg o.op)then(match NY st.hp ((k::rs).map fun j=>qW T cl d ops j log st fun st=>kQ T cl sg d e ops n d (f.setIfInBounds j true) log st fun st=>a6 (tidy cl st))with
          |some st=>K st
          |none=>a7)else
          qW T cl call ops k log st fun h=>kQ T cl sg d e ops n call (f.setIfInBounds k true) log h fun st1=>
            bif qj (tidy cl st1).hp then(match settle st.hp (tidy cl st1)with
              |some m=>LC (rs.map fun j=>qW T cl e ops j log st fun h=>kQ T cl sg d e ops n e (f.setIfInBounds j true) log h fun b=>
                  bif ahP (tidy cl st1) (tidy cl b)&&qj (tidy cl b).hp then a6 ()else a7) (K m)
              |none=>a7)else a7
def ry (ops:Array Oper):Nat->Array Bool->Option (List Nat)
 |0,d=>bif(Region.ready .any ops d).isEmpty then a6 []else a7
 |n+1,d=>match Region.ready .any ops d with
  |[]=>a6 []
  |k::e=>match(k::e).find? fun i=>aaQ ops EF i&&O4 ops d i true with
   |some i=>match ry ops n (d.setIfInBounds i true)with
    |some l=>a6 (i::l)
    |none=>a7
   |none=>match(k::e).find? fun i=>aaQ ops gq i&&O4 ops d i false with
    |some i=>match ry ops n (d.setIfInBounds i true)with
     |some l=>a6 (i::l)
     |none=>a7
    |none=>match e with
     |[]=>match ry ops n (d.setIfInBounds k true)with
      |some l=>a6 (k::l)
      |none=>a7
     |_=>a7
def aa2 (ops:Array Oper):Option (List Oper):=bif kU ops then(match ry ops ops.size (Array.replicate ops.size false)with
 |some l=>a6 (l.filterMap fun i=>ops[i]?)
 |none=>a7)else a7
def ard (sb:FuncId->Option fF) (d:FuncId->Bool) (o:Op):Bool:=match o with
 |.call c=>match c.callee with
  |.value (.func g)=>(sb g).isNone&& !d g
  |.value _=>false
  |_=>true
 |_=>true
def GN (ops:Array Oper):Bool:=ops.toList.all (fun o=>iY o.op)&&Region.lexB .any ops
def as1 (d:St->(Ex->St->Option R)->Option R) (K:Ex->St->Option R):Ex->St->Option R:=fun e st=>match e with
 |.normal=>d st K
 |e=>K e st
def rP (id:Nat) (K:Ex->St->Option R):Ex->St->Option R:=fun e st=>match e with
 |.exit i=>bif i==id then K .normal st else K (.exit i) st
 |e=>K e st
def Fp (F:St->(Ex->St->Option R)->Option R):St->(Ex->St->Option R)->Option R:=fun st K=>F st fun e st=>match e with
 |.normal=>K (.exit 999999) st
 |.exit i=>bif Nat.beq i 999999 then a7 else K (.exit i) st
 |e=>K e st
def cutAt (E:Env) (f:FuncId) (k:Nat) (F:St->(Ex->St->Option R)->Option R) (st:St) (K:Ex->St->Option R):Option R:=
 match E.lp f k with
 |some L=>bif L.dep.ble E.dp then(match L.get st with
  |some v=>aZ (L.spec v) fun o=>dB o (fun a=>rP 999999 K (L.exA v) (L.stA st v a)) fun b=>rP 999999 K (L.exB v) (L.stB st v b)
  |none=>a7)else a7
 |none=>match E.kp f k with
  |none=>F st K
  |some d=>match Hm d.slots d.owns st with
   |some st=>iter (a6 d) (Fp F) bD st (rP 999999 K)
   |none=>a7
def ai2 (K:Ex->St->Option R):Ex->St->Option R:=fun e st=>match e with
 |.goto _=>a7
 |e=>K e st
def CO (k:Option dW) (st:St):St:=match k with
 |some k=>{st with fr:=Dv k.slots 0 st.fr}
 |none=>st
def run (E:Env) (d:lq R) (h:Sl) (f:FuncId):Code->St->(Ex->St->Option R)->Option R
 |.skip,st,K=>K .normal st
 |.label _,st,K=>K .normal st
 |.region id ops p,st,K=>
  let st:=CO (E.kp f (600000+id)) st
  bif p then(bif GN ops&&ops.toList.all (fun o=>gq o.op)then fU E.T E.cl (MH E h.q) ops (K .normal) ops.toList st else match aa2 ops with
   |some l=>fU E.T E.cl (uj E d) ops (K .normal) l st
   |none=>bif GN ops&&ops.toList.all (fun o=>ard E.sb E.np o.op)then fU E.T E.cl (MH E h.q) ops (K .normal) ops.toList st else bif kU ops then kQ E.T E.cl E.sg (uj E h.s) (uj E h.u) ops (ops.size+1) (uj E d) (Array.replicate ops.size false) [] st (K .normal)else a7)
  else fU E.T E.cl (uj E d) ops (K .normal) ops.toList st
 |.seq a b,st,K=>run E d h f a st (as1 (cutAt E f (800000+bM b) (run E d h f b)) K)
 |.cond c x y,st,K=>match fG st.fr c with
  |.val .bool b=>bif b then run E d h f x st K else run E d h f y st K
  |_=>a7
 |.block id c,st,K=>run E d h f c st (rP id K)
 |.loop c,st,K=>match E.lp f (bM c)with
  |some L=>bif L.dep.ble E.dp then(match L.get st with
   |some v=>aZ (L.spec v) fun o=>dB o (fun a=>K (L.exA v) (L.stA st v a)) fun b=>K (L.exB v) (L.stB st v b)
   |none=>a7)else a7
  |none=>match E.kp f (bM c)with
   |none=>iter a7 (run E d h f c) bD st K
   |some k=>match Hm k.slots k.owns st with
    |some st=>iter (a6 k) (run E d h f c) bD st K
    |none=>a7
 |.exit id,st,K=>K (.exit id) st
 |.goto l,st,K=>K (.goto l) st
 |.ret,st,K=>K .ret st
 |.scope c,st,K=>run E d h f c st (ai2 K)
 |.rangeFunc fv ps iK j,st,K=>match fG st.fr fv with
  |.fn g z=>
   let st:=CO (E.kp f (500000+bM j)) st
   alloc E.cl (a6 (700000+ps.toList.headD 0)) (.lp f st.fr ps.toList iK j (bif E.rf f (bM j)then a6 (bM j)else a7) 0 a7) st fun id st=>
    d (.call g (.yld id::z)) {st with stk:=[.yld id]::st.stk} fun _ st=>match st.stk with
     |[.yld id]::i=>match cZ st.hp id with
      |some (.lp _ _ _ _ _ _ 0 a7)=>K .normal {st with stk:=i,hp:=gX st.hp id .dead}
      |some (.lp _ _ _ _ _ _ 1 (a6 e))=>K e {st with stk:=i,hp:=gX st.hp id .dead}
      |_=>a7
     |_=>a7
  |_=>a7
 |.refuse _,_,_=>a7
def pV (T:TT) (st:St):List ResultVar->(List bn->Option R)->Option R
 |[],K=>K []
 |.tmp t::l,K=>pV T st l fun d=>K (st.fr.getD t .undef::d)
 |.cell a t::l,K=>H7 T st.hp t (st.fr.getD a .undef) fun v=>pV T st l fun d=>K (v::d)
def tV (fr:List bn):List Nat->List bn->List bn
 |p::d,v::e=>tV (fr.set p v) d e
 |_,_=>fr
def pop (st:St) (K:St->Option R):Option R:=
 match st.stk with
 |d::e=>K {st with fr:=d,stk:=e}
 |[]=>a7
def Env.keyed (E:Env):Option Nat->Env
 |some _=>E
 |none=>{E with lp:=fun _ _=>a7,rf:=fun _ _=>false}
def jK (E:Env):Nat->{R:Type}->lq R
 |0,_,_,_,_=>a7
 |n+1,R,.call f h,st,K=>match E.P.funcs[f]? with
  |none=>a7
  |some fn=>match fn.body with
   |none=>a7
   |some c=>bif h.length.ble fn.ntmps then
     (run (E.at n) (jK E n) ⟨fun j st=>jK E n (R:=bn) j st fun v _=>a6 v,jK E n,jK E n⟩ f c {fr:=h++List.replicate (fn.ntmps-h.length) (.tup []),stk:=st.fr::st.stk,hp:=st.hp,nxt:=st.nxt} fun e d=>
      match e with
      |.normal|.ret=>pV E.T d fn.results.toList fun l=>
       let v:=match l with
        |[v]=>v
        |l=>.tup l
       match gc (bif E.cl then st.nxt else 1000000*d.stk.length) v {d with fr:=[]}with
       |some g=>pop g (K v)
       |none=>a7
      |_=>a7)else a7
 |n+1,R,.yield id h,st,K=>match cZ st.hp id with
  |some (.lp f fr0 ps iK bd o 0 a7)=>bif h.length==ps.length then
    (run ((E.at n).keyed o) (jK E n) ⟨fun j st=>jK E n (R:=bn) j st fun v _=>a6 v,jK E n,jK E n⟩ f iK {fr:=tV fr0 ps h,stk:=[.yld id]::st.fr::st.stk,hp:=st.hp,nxt:=st.nxt} fun e d=>match e,d.stk with
     |.normal,[.yld id]::_=>match cZ d.hp id with
      |some (.lp f1 fr1 ps1 asg1 bd1 q 0 a7)=>run ((E.at n).keyed o) (jK E n) ⟨fun j st=>jK E n (R:=bn) j st fun v _=>a6 v,jK E n,jK E n⟩ f bd {d with hp:=gX d.hp id (.lp f1 fr1 ps1 asg1 bd1 q 2 a7)} fun e g=>match g.stk with
       |[.yld id]::i=>match cZ g.hp id with
        |some (.lp f2 fr2 ps2 asg2 bd2 p 2 a7)=>
         match gc (bif E.cl then st.nxt else 1000000*g.stk.length) .undef {g with fr:=[],stk:=i,hp:=gX g.hp id (match e with|.normal=>.lp f2 fr2 ps2 asg2 bd2 p 0 a7|e=>.lp f2 fr2 ps2 asg2 bd2 p 1 (a6 e))}with
         |some s=>pop s (K (.val .bool (match e with|.normal=>true|_=>false)))
         |none=>a7
        |_=>a7
       |_=>a7
      |_=>a7
     |_,_=>a7)else a7
  |_=>a7
end
end
section
open Option renaming some → a6, none → a7
open List renaming append_assoc → ai, length_append → aj, length_cons → aH, nil_append → aO, drop_of_length_le → aU, eq_nil_of_length_eq_zero → aW
open Nat renaming le_refl → ae, lt_or_ge → aJ
open Tryz
open Go.RowKit
def lu:TypeId:=5
def Qm:TypeId:=128
def EJ:Code->Nat->Option (Code×Code)
 |.rangeFunc _ _ iK d,k=>if bM d=k then a6 (iK,d)else match EJ iK k with
  |some x=>a6 x
  |none=>EJ d k
 |.seq a b,k=>match EJ a k with
  |some x=>a6 x
  |none=>EJ b k
 |.cond _ a b,k=>match EJ a k with
  |some x=>a6 x
  |none=>EJ b k
 |.block _ c,k=>EJ c k
 |.loop c,k=>EJ c k
 |.scope c,k=>EJ c k
 |_,_=>a7
def arq (P:Program) (f:FuncId) (k:Nat):Option (Code×Code):=
 match P.funcs[f]? with
 |some fn=>match fn.body with
  |some c=>EJ c k
  |none=>a7
 |none=>a7
noncomputable def oO (f:FuncId) (k:Nat):Option (Code×Code):=arq prog f k
def fE (w:World) (b o:Nat) (d:List Value):Prop:= ∀j (h:j<d.length),w.cell? ⟨b,o+j,a7⟩=a6 d[j]
theorem fE.of_block {w w':World} {b o:Nat} {d:List Value} (h:fE w b o d) (hb:w'.heap[b]? =w.heap[b]?):fE w' b o d:=
 fun j e=>(World.cell?_of_block (w:=w) (a:=⟨b,o+j,a7⟩) hb).trans (h j e)
theorem fE.append {w:World} {b o:Nat} {xs e:List Value}:fE w b o (xs++e)↔fE w b o xs/\fE w b (o+xs.length) e:=by
 constructor
 .intro h;refine⟨fun j d=> ?_,fun j d=> ?_⟩
  .have:=h j (by simp;omega);simp_all
  .have:=h (xs.length+j) (by simp;omega)
   grind
 .rintro ⟨f,g⟩ j d;rcases aJ j xs.length with h|h
  .rw[List.getElem_append_left h];exact f j h
  .rw[List.getElem_append_right h];have:=g (j-xs.length) (by simp at d;omega)
   grind
def dX {e:Type} (R:e->List Value->Prop) (size:Nat):List e->List Value->Prop
 |[],d=>d=[]
 |x::xs,d=> ∃c f,d=c++f/\c.length=size/\R x c/\dX R size xs f
theorem dX.mono {d:Type} {R e:d->List Value->Prop} {size:Nat} (h: ∀x c,R x c->e x c): ∀(xs:List d) (f:List Value),dX R size xs f->dX e size xs f
 |[],_,i=>i
 |_::xs,_,⟨c,g,j,l,o,p⟩=>⟨c,g,j,l,h _ _ o,dX.mono h xs g p⟩
theorem dX.length {d:Type} {R:d->List Value->Prop} {size:Nat}: ∀(xs:List d) (e:List Value),dX R size xs e->e.length=xs.length*size
 |[],_,f=>by cases f;simp
 |_::xs,_,⟨c,g,h,i,l,j⟩=>by
  subst h;simp only[aj,aH,i,dX.length xs g j,Nat.add_mul,Nat.one_mul];omega
theorem dX.append {e:Type} {R:e->List Value->Prop} {size:Nat}: ∀(xs:List e) (f:List Value) (d:List e) (us:List Value),dX R size xs f->dX R size d us->dX R size (xs++d) (f++us)
 |[],_,d,us,i,h=>by cases i;exact h
 |x::xs,_,d,us,⟨c,g,j,l,o,p⟩,h=>by
  subst j;exact⟨c,g++us,by simp,l,o,dX.append xs g d us p h⟩
theorem dX.take {d:Type} {R:d->List Value->Prop} {size:Nat}: ∀(k:Nat) (xs:List d) (e:List Value),dX R size xs e->dX R size (xs.take k) (e.take (k*size))
 |0,_,_,_=>by simp[dX]
 |k+1,[],_,g=>by cases g;simp[dX]
 |k+1,x::xs,_,⟨c,f,h,i,j,l⟩=>by
  subst h;refine⟨c,f.take (k*size), ?_,i,j,dX.take k xs f l⟩;simp_all [List.take_append,List.take_of_length_le,Nat.add_mul]
theorem dX.drop {e:Type} {R:e->List Value->Prop} {size:Nat}: ∀(k:Nat) (xs:List e) (f:List Value),dX R size xs f->dX R size (xs.drop k) (f.drop (k*size))
 |0,_,_,h=>by simpa using h
 |k+1,[],_,i=>by cases i;simp[dX]
 |k+1,x::xs,_,⟨c,d,j,g,o,l⟩=>by
  subst j;have:(c++d).drop ((k+1)*size)=d.drop (k*size):=by
   rw[List.drop_append,aU (by rw[g,Nat.add_mul];omega),aO,g,Nat.add_mul];congr 1;omega
  rw[this,List.drop_succ_cons];exact dX.drop k xs d l
theorem dX.at_ {f:Type} {R:f->List Value->Prop} {size:Nat}: ∀(i:Nat) (xs:List f) (g:List Value) (hi:i<xs.length),dX R size xs g->
  ∃c,c.length=size/\R xs[i] c/\ ∃d h,g=d++c++h/\d.length=i*size
 |i,[],_,hi,_=>by simp at hi
 |0,x::xs,_,_,⟨c,e,j,l,o,p⟩=>⟨c,l,o,[],e,by simp[j],by simp⟩
 |i+1,x::xs,_,hi,⟨c,e,j,l,o,p⟩=>by
  obtain⟨q,s,u,d,h,v,y⟩:=dX.at_ i xs e (by simpa using hi) p
  grind
theorem dX.set {h:Type} {R:h->List Value->Prop} {size:Nat} (y:h) (d:List Value) (hd:d.length=size) (p:R y d): ∀(i:Nat) (xs:List h) (e c f:List Value),
  i<xs.length->dX R size xs (e++c++f)->e.length=i*size->c.length=size->dX R size (xs.set i y) (e++d++f)
 |i,[],_,_,_,j,_,_,_=>by simp at j
 |0,x::xs,e,c,f,_,⟨q,z,g,l,s,u⟩,hl,o=>by
  have:e=[]:=aW (by simpa using hl);subst this;simp only[aO]at g ⊢;obtain⟨A,v⟩:=List.append_inj g (by rw[o,l]);subst v;exact⟨d,f,rfl,hd,p,u⟩
 |i+1,x::xs,e,c,f,j,⟨q,z,g,l,s,u⟩,hl,o=>by
  have D:size<=e.length:=by grind
  have B:e=e.take size++e.drop size:=(List.take_append_drop size e).symm;rw[B,ai,ai]at g;obtain⟨A,v⟩:=List.append_inj g (by grind);have:=dX.set y d hd p i xs (e.drop size) c f (by simpa using j) (by grind) (by grind) o;refine⟨q,e.drop size++d++f, ?_,l,s,this⟩
  grind
def dM (w:World) (fr:Nat->Prop):(t:Ty)->t.den->List Value->Prop
 |.unit,_,cs=>cs=[]
 |.bool,x,cs=>cs=[.bool x]
 |.int k,x,cs=>cs=[.int k x]
 |.str,x,cs=>cs=[.string ⟨x.toArray⟩]
 |.list t,xs,cs=> ∃a c d,cs=[.slice a xs.length c]/\xs.length<=c/\dX (dM w fr t) t.size xs d/\(d=[]\/ ∃b e,a=a6 ⟨b,e,a7⟩/\fr b/\fE w b e d)
 |.pair a b,x,cs=> ∃f g,cs=f++g/\dM w fr a x.1 f/\dM w fr b x.2 g
theorem dM.mono {w w':World} {fr i:Nat->Prop} (h: ∀b,fr b->i b/\w'.heap[b]? =w.heap[b]?): ∀(t:Ty) (x:t.den) (cs:List Value),dM w fr t x cs->dM w' i t x cs
 |.unit,_,_,d=>d
 |.bool,_,_,d=>d
 |.int _,_,_,d=>d
 |.str,_,_,d=>d
 |.list t,xs,_,⟨a,c,j,e,f,g,q⟩=>⟨a,c,j,e,f,dX.mono (dM.mono h t) xs j g,q.imp id fun⟨b,s,u,l,v⟩=>⟨b,s,u,(h b l).1,v.of_block (h b l).2⟩⟩
 |.pair a b,x,_,⟨o,p,e,f,g⟩=>⟨o,p,e,dM.mono h a x.1 o f,dM.mono h b x.2 p g⟩
theorem dM.length {w:World} {fr:Nat->Prop}: ∀(t:Ty) (x:t.den) (cs:List Value),dM w fr t x cs->cs.length=t.size
 |.unit,_,_,d=>by cases d;rfl
 |.bool,_,_,d=>by cases d;rfl
 |.int _,_,_,d=>by cases d;rfl
 |.str,_,_,d=>by cases d;rfl
 |.list t,xs,_,⟨a,c,j,e,_⟩=>by subst e;rfl
 |.pair a b,x,_,⟨f,g,e,h,i⟩=>by subst e;simp[Ty.size,dM.length a x.1 f h,dM.length b x.2 g i]
theorem dM.one {w:World} {fr:Nat->Prop}: ∀(t:Ty) (x:t.den) (cs:List Value),dM w fr t x cs-> ∀v∈cs,v.oneCell'=true
 |.unit,_,_,d=>by cases d;simp
 |.bool,_,_,d=>by cases d;simp[Value.oneCell']
 |.int _,_,_,d=>by cases d;simp[Value.oneCell']
 |.str,_,_,d=>by cases d;simp[Value.oneCell']
 |.list t,xs,_,⟨a,c,l,f,_⟩=>by subst f;simp[Value.oneCell']
 |.pair a b,x,_,⟨g,h,f,i,j⟩=>by
  subst f;intro v e;rcases List.mem_append.1 e with e|e
  .exact dM.one a x.1 g i v e
  .exact dM.one b x.2 h j v e
structure Loc where
 blk:Nat
 v:Value
structure Cx where
 mu:Nat->Loc
 hp:fD
 nxt:Nat
 w:World
 mks:List Nat
 bar:Nat->Prop
def bY.blk:bY->Loc->Option Nat
 |.box _ _,l=>a6 l.blk
 |.arr _ _ _,l=>l.v.ownBlock
 |.lp _ _ _ _ _ _ _ _,l=>a6 l.blk
 |.dead,_=>a7
 |.mp _ _ _,l=>a6 l.blk
def Cx.own (c:Cx) (b:Nat):Prop:= ∃id o,cZ c.hp id=a6 o/\o.blk (c.mu id)=a6 b
def Cx.free (c:Cx) (b:Nat):Prop:=b<c.w.heap.size/\ ¬c.own b/\b∉c.mks/\ ¬c.bar b
def Cx.out (c:Cx) (b:Nat):Prop:=b<c.w.heap.size/\ ¬c.own b/\b∉c.mks
def Cx.known (c:Cx) (id:Nat):Prop:=(∃o,cZ c.hp id=a6 o)\/id<c.nxt
def VD (c:Cx) (t:Ty) (x:t.den) (v:Value):Prop:=
 (t.isAgg=true-> ∃cs,v=.agg cs/\dM c.w c.free t x cs.toList)/\(t.isAgg=false->dM c.w c.free t x [v])
def ik (size:Nat) (s:Value):Option (Int×Int)->Value->Prop
 |none,v=>v=s
 |some (lo,d),v=> ∃a n c,s=.slice a n c/\0<=lo/\lo<=d/\d<=n/\v=.slice (if c=lo.toNat then a else a.map (·.add (lo.toNat*size))) (d.toNat-lo.toNat) (c-lo.toNat)
mutual
def bu (c:Cx):bn->Value->Prop
 |.undef,_=>True
 |.val t x,v=>VD c t x v
 |.nils,v=>v=.slice a7 0 0
 |.emp,v=> ∃a,v=.slice a 0 0
 |.lst e xs b,v=>VD c (.list e) xs v/\ ∃a n m,v=.slice a n m/\b=a.isNone
 |.nilp,v=>v=.pointer a7
 |.nilfn,v=>v=.nilFunc
 |.tup l,v=> ∃d,v=.tuple d/\bg c l d.toList
 |.agg l,v=> ∃d,v=.agg d/\bg c l d.toList/\ ∀u∈d.toList,u.oneCell'=true
 |.cellp t x,v=> ∃b o q,v=.pointer (a6 ⟨b,o,a7⟩)/\c.free b/\fE c.w b o q/\dM c.w c.free t x q
 |.ptr id j,v=>v.oneCell'=true/\c.known id/\ ∀t cs,cZ c.hp id=a6 (.box t cs)->v=.pointer (a6 ⟨(c.mu id).blk,j,a7⟩)
 |.slf id,v=>v.oneCell'=true/\c.known id/\ ∀t cs,cZ c.hp id=a6 (.box t cs)->v=.pointer a7\/v=.pointer (a6 ⟨(c.mu id).blk,0,a7⟩)
 |.sd id h,v=>v.oneCell'=true/\c.known id/\ ∀t u xs,cZ c.hp id=a6 (.arr t u xs)->h<=u/\(u=h->(∃p,v=.pointer p)/\ ∀a n cp,(c.mu id).v=.slice a n cp->n≠0->v=.pointer a)
 |.slc id h s,v=>v.oneCell'=true/\c.known id/\ ∀t u xs,cZ c.hp id=a6 (.arr t u xs)->h<=u/\(u=h->ik t.size (c.mu id).v s v)
 |.ep id h i j,v=>v.oneCell'=true/\c.known id/\ ∀t u xs,cZ c.hp id=a6 (.arr t u xs)->h<=u/\(u=h-> ∃g n cp,(c.mu id).v=.slice (a6 ⟨g,0,a7⟩) n cp/\v=.pointer (a6 ⟨g,i*t.size+j,a7⟩))
 |.fn f l,v=> ∃d,v=.func (.func f) #[] d/\bg c l d.toList
 |.mfn f l,v=> ∃d,v=.func (.func f) d #[]/\bg c l d.toList
 |.mpv id,v=>v.oneCell'=true/\c.known id/\ ∀y z A,cZ c.hp id=a6 (.mp y z A)->v=.map (a6 (c.mu id).blk)
 |.yld id,v=>v.oneCell'=true/\c.known id/\ ∀f B D iK E G n p,cZ c.hp id=a6 (.lp f B D iK E G n p)->v=.func (.yield (c.mu id).blk) #[] #[]
def bg (c:Cx):List bn->List Value->Prop
 |[],[]=>True
 |v::l,x::xs=>bu c v x/\bg c l xs
 |_,_=>False
end
def bY.like:bY->Loc->bY->Loc->Prop
 |.box _ _,l,.box _ _,d=>d.blk=l.blk
 |.lp _ _ _ _ _ _ _ _,l,.lp _ _ _ _ _ _ _ _,d=>d.blk=l.blk
 |.mp _ _ _,l,.mp _ _ _,d=>d.blk=l.blk
 |_,_,.dead,_=>True
 |.arr t v _,l,.arr t' v' _,d=>v<=v'/\(v=v'->t=t'/\d.v=l.v)
 |_,_,_,_=>False
structure Cx.Le0 (c c':Cx):Prop where
 out: ∀b,c.out b->c'.out b/\c'.w.heap[b]? =c.w.heap[b]?
 ref: ∀id,c.known id->c'.known id
 obj: ∀id o',c.known id->cZ c'.hp id=a6 o'-> ∃o,cZ c.hp id=a6 o/\o.like (c.mu id) o' (c'.mu id)
 bar:c'.bar=c.bar
structure Cx.Le (c c':Cx):Prop where
 out: ∀b,c.out b->c'.out b/\c'.w.heap[b]? =c.w.heap[b]?
 ref: ∀id,c.known id->c'.known id
 obj: ∀id o',c.known id->cZ c'.hp id=a6 o'-> ∃o,cZ c.hp id=a6 o/\o.like (c.mu id) o' (c'.mu id)
 mks: ∀r,r∈c.mks->r∈c'.mks
 lp: ∀(b:Nat) (L:Loop),c.w.heap[b]? =a6 (Obj.loop L)-> ∃L':Loop,c'.w.heap[b]? =a6 (Obj.loop L')
 size:c.w.heap.size<=c'.w.heap.size
 bar:c'.bar=c.bar
theorem Cx.Le0.free {c c':Cx} (h:c.Le0 c') (b:Nat) (hb:c.free b):c'.free b/\c'.w.heap[b]? =c.w.heap[b]? :=
 let⟨⟨d,e,f⟩,g⟩:=h.out b ⟨hb.1,hb.2.1,hb.2.2.1⟩
 ⟨⟨d,e,f,by rw[h.bar];exact hb.2.2.2⟩,g⟩
theorem Cx.Le.free {c c':Cx} (h:c.Le c') (b:Nat) (hb:c.free b):c'.free b/\c'.w.heap[b]? =c.w.heap[b]? :=
 let⟨⟨d,e,f⟩,g⟩:=h.out b ⟨hb.1,hb.2.1,hb.2.2.1⟩
 ⟨⟨d,e,f,by rw[h.bar];exact hb.2.2.2⟩,g⟩
theorem bY.like_refl (o:bY) (l:Loc):o.like l o l:=by cases o<;>simp[bY.like]
theorem bY.like_trans {a b d:bY} {l m n:Loc} (h:a.like l b m) (k:b.like m d n):a.like l d n:=by
 cases d with
 |dead=>cases a<;>simp[bY.like]
 |arr t'' v'' e=>
  cases b with
  |arr t' v' f=>
   cases a with
   |arr t v xs=>
    grind [bY.like]
   |_=>simp[bY.like]at h
  |_=>simp[bY.like]at k
 |box _ _=>cases b<;>cases a<;>simp_all [bY.like]
 |lp _ _ _ _ _ _ _ _=>cases b<;>cases a<;>simp_all [bY.like]
 |mp _ _ _=>cases b<;>cases a<;>simp_all [bY.like]
theorem Cx.Le.refl (c:Cx):c.Le c:=⟨fun _ h=>⟨h,rfl⟩,fun _ h=>h,fun id o h d=>⟨o,d,o.like_refl _⟩,fun _ h=>h,fun b L h=>⟨L,h⟩,ae _,rfl⟩
theorem VD.le0 {c c':Cx} (h:c.Le0 c') {t:Ty} {x:t.den} {v:Value} (d:VD c t x v):VD c' t x v:=
 ⟨fun e=>let⟨cs,f,g⟩:=d.1 e;⟨cs,f,dM.mono h.free t x _ g⟩,fun e=>dM.mono h.free t x _ (d.2 e)⟩
mutual
theorem bu.le0 {c c':Cx} (h:c.Le0 c'): ∀(v:bn) (x:Value),bu c v x->bu c' v x
 |.undef,_,_=>by simp[bu]
 |.val t x,v,d=>by simp only[bu]at d ⊢;exact d.le0 h
 |.nils,_,d=>by assumption
 |.emp,_,d=>by assumption
 |.lst e xs b,v,d=>by simp only[bu]at d ⊢;exact⟨d.1.le0 h,d.2⟩
 |.nilp,_,d=>by assumption
 |.nilfn,_,d=>by assumption
 |.tup l,v,d=>by simp only[bu]at d ⊢;obtain⟨y,j,g⟩:=d;exact⟨y,j,bg.le0 h l _ g⟩
 |.agg l,v,d=>by simp only[bu]at d ⊢;obtain⟨y,j,g,z⟩:=d;exact⟨y,j,bg.le0 h l _ g,z⟩
 |.cellp t x,v,d=>by
  simp only[bu]at d ⊢;obtain⟨b,o,D,j,g,z,E⟩:=d;exact⟨b,o,D,j,(h.free b g).1,z.of_block (h.free b g).2,dM.mono h.free t x _ E⟩
 |.ptr id G,v,d=>by
  simp only[bu]at d ⊢;obtain⟨q,d⟩:=d;refine⟨q,h.ref id d.1,fun t cs s=> ?_⟩;obtain⟨o,j,g⟩:=h.obj id _ d.1 s;cases o<;>simp only[bY.like]at g;simp_all
 |.slf id,v,d=>by
  simp only[bu]at d ⊢;obtain⟨q,d⟩:=d;refine⟨q,h.ref id d.1,fun t cs s=> ?_⟩;obtain⟨o,j,g⟩:=h.obj id _ d.1 s;cases o<;>simp only[bY.like]at g;simp_all
 |.sd id A,v,d=>by
  simp only[bu]at d ⊢;obtain⟨q,d⟩:=d;refine⟨q,h.ref id d.1,fun t u xs s=> ?_⟩;obtain⟨o,j,g⟩:=h.obj id _ d.1 s;cases o with
  |arr t' v' B=>
   grind [bY.like]
  |box _ _=>simp[bY.like]at g
  |lp _ _ _ _ _ _ _ _=>simp[bY.like]at g
  |dead=>simp[bY.like]at g
  |mp _ _ _=>simp[bY.like]at g
 |.slc id A I,v,d=>by
  simp only[bu]at d ⊢;obtain⟨q,d⟩:=d;refine⟨q,h.ref id d.1,fun t u xs s=> ?_⟩;obtain⟨o,j,g⟩:=h.obj id _ d.1 s;cases o with
  |arr t' v' B=>
   grind [bY.like]
  |box _ _=>simp[bY.like]at g
  |lp _ _ _ _ _ _ _ _=>simp[bY.like]at g
  |dead=>simp[bY.like]at g
  |mp _ _ _=>simp[bY.like]at g
 |.ep id A i G,v,d=>by
  simp only[bu]at d ⊢;obtain⟨q,d⟩:=d;refine⟨q,h.ref id d.1,fun t u xs s=> ?_⟩;obtain⟨o,j,g⟩:=h.obj id _ d.1 s;cases o with
  |arr t' v' B=>
   grind [bY.like]
  |box _ _=>simp[bY.like]at g
  |lp _ _ _ _ _ _ _ _=>simp[bY.like]at g
  |dead=>simp[bY.like]at g
  |mp _ _ _=>simp[bY.like]at g
 |.fn f l,v,d=>by simp only[bu]at d ⊢;obtain⟨y,j,g⟩:=d;exact⟨y,j,bg.le0 h l _ g⟩
 |.mfn f l,v,d=>by simp only[bu]at d ⊢;obtain⟨y,j,g⟩:=d;exact⟨y,j,bg.le0 h l _ g⟩
 |.mpv id,v,d=>by
  simp only[bu]at d ⊢;obtain⟨q,d⟩:=d;refine⟨q,h.ref id d.1,fun J K L s=> ?_⟩;obtain⟨o,j,g⟩:=h.obj id _ d.1 s;cases o<;>simp only[bY.like]at g;simp_all
 |.yld id,v,d=>by
  simp only[bu]at d ⊢;obtain⟨q,d⟩:=d;refine⟨q,h.ref id d.1,fun f M N iK O S n p s=> ?_⟩;obtain⟨o,j,g⟩:=h.obj id _ d.1 s;cases o<;>simp only[bY.like]at g;simp_all
theorem bg.le0 {c c':Cx} (h:c.Le0 c'): ∀(l:List bn) (xs:List Value),bg c l xs->bg c' l xs
 |[],[],_=>by simp[bg]
 |v::l,x::xs,d=>by simp only[bg]at d ⊢;exact⟨bu.le0 h v x d.1,bg.le0 h l xs d.2⟩
 |[],_::_,d=>by simp[bg]at d
 |_::_,[],d=>by simp[bg]at d
end
theorem Cx.Le.le0 {c c':Cx} (h:c.Le c'):c.Le0 c':=⟨h.out,h.ref,h.obj,h.bar⟩
theorem VD.le {c c':Cx} (h:c.Le c') {t:Ty} {x:t.den} {v:Value} (d:VD c t x v):VD c' t x v:=d.le0 h.le0
theorem bu.le {c c':Cx} (h:c.Le c') (v:bn) (x:Value) (d:bu c v x):bu c' v x:=bu.le0 h.le0 v x d
theorem bg.le {c c':Cx} (h:c.Le c') (l:List bn) (xs:List Value) (d:bg c l xs):bg c' l xs:=bg.le0 h.le0 l xs d
end
section
open Go.RowKit
def agK (w:World):Prop:=True
theorem agK.below {w w':World} (hb:Below w.heap.size w w') (h:agK w):agK w':=trivial
def agJ (w:World):Prop:= ∃m,w.cell? ⟨0,0,none⟩=some (.int .i64 m)
theorem agJ.below {w w':World} (hb:Below w.heap.size w w') (h:agJ w):agJ w':=by
 obtain⟨m,d⟩:=h;exact⟨m,(hb.cell (World.block_lt_of_cell? w _ d)).trans d⟩
def Sj (w:World):Prop:=agK w/\agJ w
theorem Sj.below {w w':World} (hb:Below w.heap.size w w') (h:Sj w):Sj w':=⟨h.1.below hb,h.2.below hb⟩
end
section
open Option renaming some → a6, none → a7
open Nat renaming le_trans → az, lt_of_lt_of_le → aS
open Go.RowKit
theorem Cx.Le.trans {a b c:Cx} (h:a.Le b) (k:b.Le c):a.Le c:=
 ⟨fun x e=>⟨(k.out x (h.out x e).1).1,(k.out x (h.out x e).1).2.trans (h.out x e).2⟩,fun i d=>k.ref i (h.ref i d),fun i o d g=>by
  obtain⟨p,f,s⟩:=k.obj i o (h.ref i d) g;obtain⟨q,u,v⟩:=h.obj i p d f
  grind [bY.like_trans],fun r hr=>k.mks r (h.mks r hr),fun b L j=>let⟨l,f⟩:=h.lp b L j;k.lp b l f,az h.size k.size,k.bar.trans h.bar⟩
theorem dG (k:Nat) (o:bY) (h:fD) (i:Nat):cZ ((k,o)::h) i=if k=i then a6 o else cZ h i:=by
 simp_all [cZ]
theorem iO: ∀(h:fD) (i:Nat) (o:bY) (j:Nat),cZ (gX h i o) j=if i=j then(cZ h i).map fun _=>o else cZ h j
 |[],i,o,j=>by simp[gX,cZ]
 |(k,p)::h,i,o,j=>by
  simp only[gX];by_cases e:k=i
  .simp_all [dG]
  .have d:(k==i)=false:=by simpa using e
   simp only[d,ac,dG,iO h i o j]
   grind
theorem Ny {h:fD} {i:Nat} {o p:bY} (hi:cZ h i=a6 p):cZ (gX h i o) i=a6 o:=by rw[iO];simp[hi]
def upd (mu:Nat->Loc) (id:Nat) (l:Loc):Nat->Loc:=fun j=>if j=id then l else mu j
theorem upd_same (mu:Nat->Loc) (id:Nat) (l:Loc):upd mu id l id=l:=by simp[upd]
theorem upd_ne (mu:Nat->Loc) {id j:Nat} (l:Loc) (h:j≠id):upd mu id l j=mu j:=by simp[upd,h]
def Ex.code:Ex->Option Code
 |.normal=>a7
 |.exit id=>a6 (.exit id)
 |.goto l=>a6 (.goto l)
 |.ret=>a6 .ret
def agH:Nat->Option Ex->Loop->Prop
 |0,a7,L=>L.state=.ready/\L.pending=a7
 |1,a6 e,L=>L.state=.done/\L.pending=e.code/\e.code≠a7
 |2,a7,L=>L.state=.busy
 |_,_,_=>False
def Cx.ORel (B:Nat) (c:Cx) (id:Nat):bY->Prop
 |.box e cs=>B<=(c.mu id).blk/\ ∃d,c.w.heap[(c.mu id).blk]? =a6 (.cells d e (0,0))/\bg c cs d.toList/\ ∀u∈d.toList,u.oneCell'=true
 |.arr t ver xs=>0<t.size/\ ∃e g,c.w.ownsRow B e t.size (c.mu id).v xs.length g/\dX (dM c.w c.free t) t.size xs g/\(t=.int .u8->e=lu)
 |.lp f fr ps iK bd ky n p=>(∀k,ky=a6 k->oO f k=a6 (iK,bd))/\B<=(c.mu id).blk/\ ∃L:Loop,c.w.heap[(c.mu id).blk]? =a6 (Obj.loop L)/\bg c fr L.tmps.toList/\L.params.toList=ps/\L.assign=iK/\L.body=bd/\agH n p L
 |.dead=>True
 |.mp kk vk i=>B<=(c.mu id).blk/\ ∃h j,c.w.heap[(c.mu id).blk]? =a6 (.map h j)/\h.toList.map (fun e=>(e.key,e.val))=i.map fun p=>(Value.int kk p.1,Value.int vk p.2)
structure Cx.Ok (W0:World) (c:Cx):Prop where
 bel:Below W0.heap.size W0 c.w
 obj: ∀id o,cZ c.hp id=a6 o->c.ORel W0.heap.size id o
 inj: ∀i j o p b,cZ c.hp i=a6 o->cZ c.hp j=a6 p->o.blk (c.mu i)=a6 b->p.blk (c.mu j)=a6 b->i=j
 mks: ∀r,r∈c.mks->W0.heap.size<=r/\c.w.heap[r]? =a6 (.deferred (a6 []))
 bar: ∀b,c.bar b->c.out b
 phi:Sj W0
theorem Cx.Ok.phiw {W0:World} {c:Cx} (h:c.Ok W0):Sj c.w:=Sj.below h.bel h.phi
theorem Cx.ORel.lt {B:Nat} {c:Cx} {id:Nat} {o:bY} (h:c.ORel B id o) {b:Nat} (hb:o.blk (c.mu id)=a6 b):B<=b/\b<c.w.heap.size:=by
 cases o with
 |box e cs=>
  simp only[bY.blk,Option.some.injEq]at hb;subst hb;obtain⟨d,g,f,_⟩:=h
  grind
 |arr t ver xs=>
  simp only[bY.blk]at hb;obtain⟨_,e,i,d,_⟩:=h;exact World.ownsRow.lt d b hb
 |lp _ _ _ _ _ _ _ _=>
  simp only[bY.blk,Option.some.injEq]at hb;subst hb;obtain⟨_,d,L,f,_⟩:=h
  grind
 |dead=>cases hb
 |mp _ _ _=>
  simp only[bY.blk,Option.some.injEq]at hb;subst hb;obtain⟨d,j,cl,f,_⟩:=h
  grind
theorem Cx.ORel.no_mark {B:Nat} {c:Cx} {id:Nat} {o:bY} (h:c.ORel B id o) {b:Nat} (hb:o.blk (c.mu id)=a6 b) {d:Option (List Deferred)}:c.w.heap[b]? ≠a6 (.deferred d):=by
 intro hd;cases o with
 |box e cs=>
  simp only[bY.blk,Option.some.injEq]at hb;subst hb;obtain⟨f,l,j,_⟩:=h;simp_all
 |arr t ver xs=>
  simp only[bY.blk]at hb;obtain⟨_,e,p,f,_⟩:=h;rcases f.2 with ⟨i,_⟩|⟨g,q,s,i,_,u,_⟩
  .rw[i]at hb;cases hb
  .rw[i]at hb;cases hb;simp_all
 |lp _ _ _ _ _ _ _ _=>
  simp only[bY.blk,Option.some.injEq]at hb;subst hb;obtain⟨_,f,L,j,_⟩:=h;simp_all
 |dead=>cases hb
 |mp _ _ _=>
  simp only[bY.blk,Option.some.injEq]at hb;subst hb;obtain⟨f,v,cl,j,_⟩:=h;simp_all
theorem Cx.ORel.no_loop {B:Nat} {c:Cx} {id:Nat} {o:bY} (h:c.ORel B id o) (u: ∀f fr j iK l q n p,o≠ .lp f fr j iK l q n p) {b:Nat} (hb:o.blk (c.mu id)=a6 b) {L:Loop}:c.w.heap[b]? ≠a6 (Obj.loop L):=by
 intro hd;cases o with
 |box e cs=>
  simp only[bY.blk,Option.some.injEq]at hb;subst hb;obtain⟨d,v,s,_⟩:=h;simp_all
 |arr t ver xs=>
  simp only[bY.blk]at hb;obtain⟨_,e,x,d,_⟩:=h;rcases d.2 with ⟨i,_⟩|⟨g,y,z,i,_,A,_⟩
  .rw[i]at hb;cases hb
  .rw[i]at hb;cases hb;simp_all
 |lp _ _ _ _ _ _ _ _=>grind
 |dead=>cases hb
 |mp _ _ _=>
  simp only[bY.blk,Option.some.injEq]at hb;subst hb;obtain⟨d,D,cl,s,_⟩:=h;simp_all
theorem Cx.Ok.mark_lt {W0:World} {c:Cx} (h:c.Ok W0) {r:Nat} (hr:r∈c.mks):r<c.w.heap.size:=(Array.getElem?_eq_some_iff.1 (h.mks r hr).2).1
theorem Cx.Ok.mark_own {W0:World} {c:Cx} (h:c.Ok W0) {r:Nat} (hr:r∈c.mks): ¬c.own r:=by
 rintro ⟨id,o,d,e⟩;exact(h.obj id o d).no_mark e (h.mks r hr).2
theorem Cx.Ok.own_lt {W0:World} {c:Cx} (h:c.Ok W0) {b:Nat} (hb:c.own b):W0.heap.size<=b/\b<c.w.heap.size:=by
 obtain⟨id,o,d,e⟩:=hb;exact(h.obj id o d).lt e
theorem Cx.Ok.size {W0:World} {c:Cx} (h:c.Ok W0):W0.heap.size<=c.w.heap.size:=h.bel.size
theorem xP {w w':World} {B:Nat} {e:TypeId} {size n:Nat} {v:Value} {xs:List Value} (h:w.ownsRow B e size v n xs) (hb: ∀b,v.ownBlock=a6 b->w'.heap[b]? =w.heap[b]?):w'.ownsRow B e size v n xs:=by
 refine⟨h.1, ?_⟩;rcases h.2 with d|⟨g,i,j,f,d,l,o⟩
 .exact .inl d
 .refine .inr ⟨g,i,j,f,d, ?_,o⟩;rw[hb g (by rw[f];rfl)];exact l
theorem Cx.ORel.le {B:Nat} {c c':Cx} {id:Nat} {o:bY} (h:c.ORel B id o) (hl:c.Le c') (d:c'.mu id=c.mu id) (hb: ∀b,o.blk (c.mu id)=a6 b->c'.w.heap[b]? =c.w.heap[b]?):c'.ORel B id o:=by
 cases o with
 |box e cs=>
  obtain⟨g,s,i,j,l⟩:=h;refine⟨by rw[d];exact g,s,by rw[d,hb _ rfl];exact i,bg.le hl _ _ j,l⟩
 |arr t ver xs=>
  obtain⟨q,e,u,g,i,j⟩:=h;refine⟨q,e,u, ?_,dX.mono (dM.mono hl.free t) _ _ i,j⟩;rw[d];exact xP g fun b v=>hb b v
 |lp f fr ps iK bd ky n p=>
  obtain⟨q,g,L,i,j,l⟩:=h;exact⟨q,by rw[d];exact g,L,by rw[d,hb _ rfl];exact i,bg.le hl _ _ j,l⟩
 |dead=>trivial
 |mp kk vk y=>
  obtain⟨g,x,cl,i,j⟩:=h;exact⟨by rw[d];exact g,x,cl,by rw[d,hb _ rfl];exact i,j⟩
def Cx.at_ (c:Cx) (w:World):Cx:={c with w:=w}
theorem Cx.Le.ext {c:Cx} {w:World} (h:Below c.w.heap.size c.w w):c.Le (c.at_ w):=
 ⟨fun b d=>⟨⟨aS d.1 h.size,d.2⟩,h.block b d.1⟩,fun _ h=>h,fun id o _ f=>⟨o,f,o.like_refl _⟩,fun _ h=>h,
  fun b L e=>⟨L,(h.block b (Array.getElem?_eq_some_iff.1 e).1).trans e⟩,h.size,rfl⟩
theorem Cx.Ok.ext {W0:World} {c:Cx} {w:World} (d:c.Ok W0) (h:Below c.w.heap.size c.w w):(c.at_ w).Ok W0:=
 ⟨d.bel.trans (h.mono d.size),fun id o f=>(d.obj id o f).le (Cx.Le.ext h) rfl fun b e=>h.block b ((d.obj id o f).lt e).2,d.inj,
  fun r hr=>⟨(d.mks r hr).1,(h.block r (d.mark_lt hr)).trans (d.mks r hr).2⟩,fun b e=>((Cx.Le.ext h).out b (d.bar b e)).1,d.phi⟩
def Cx.push (c:Cx) (id:Nat) (o:bY) (l:Loc) (nxt:Nat) (w:World):Cx:=⟨upd c.mu id l,(id,o)::c.hp,nxt,w,c.mks,c.bar⟩
theorem Cx.Le.push {c:Cx} {id:Nat} {o:bY} {l:Loc} {nxt:Nat} {w:World} (x: ¬c.known id) (y:c.nxt<=nxt) (s:c.w.heap.size<=w.heap.size)
  (hb: ∀b,b<c.w.heap.size->w.heap[b]? =c.w.heap[b]?) (hl: ∀b,o.blk l=a6 b->c.w.heap.size<=b):c.Le (c.push id o l nxt w):=by
 have hk: ∀j,c.known j->j≠id:=fun j d e=>x (e▸d);refine⟨fun b f=>⟨⟨aS f.1 s, ?_,f.2.2⟩,hb b f.1⟩,fun j d=> ?_,fun j p d q=> ?_,fun _ h=>h,fun b L u=>⟨L,(hb b (Array.getElem?_eq_some_iff.1 u).1).trans u⟩,s,rfl⟩
 .rintro ⟨j,p,i,g⟩;simp only[Cx.push,dG]at i g;split at i
  .rename_i e
   subst e;cases i;rw[upd_same]at g;have:=hl b g;have:=f.1;omega
  .rename_i e
   rw[upd_ne _ _ (Ne.symm e)]at g;exact f.2.1 ⟨j,p,i,g⟩
 .rcases d with ⟨p,q⟩|d
  .left;simp only[Cx.push,dG]
   grind
  .right;exact aS d y
 .have v:=hk j d;simp only[Cx.push,dG,aq (Ne.symm v)]at q ⊢;exact⟨p,q,by rw[upd_ne _ _ v];exact p.like_refl _⟩
theorem Cx.Ok.push {W0:World} {c:Cx} {id:Nat} {o:bY} {l:Loc} {nxt:Nat} {w:World} (d:c.Ok W0) (y: ¬c.known id) (E:c.nxt<=nxt) (h:Below c.w.heap.size c.w w)
  (hl: ∀b,o.blk l=a6 b->c.w.heap.size<=b) (J:(c.push id o l nxt w).ORel W0.heap.size id o):(c.push id o l nxt w).Ok W0:=by
 have z:=Cx.Le.push (o:=o) y E h.size h.block hl;have hk: ∀j p,cZ c.hp j=a6 p->j≠id:=fun j p G e=>y (e▸ .inl ⟨p,G⟩);refine⟨d.bel.trans (h.mono d.size),fun j p I=> ?_,fun i j p q b A B f g=> ?_,fun r hr=>⟨(d.mks r hr).1,(h.block r (d.mark_lt hr)).trans (d.mks r hr).2⟩,fun b s=>(z.out b (d.bar b s)).1,d.phi⟩
 .by_cases e:j=id
  .simp_all [Cx.push,dG]
  .have D:cZ c.hp j=a6 p:=by simpa [Cx.push,dG,Ne.symm e] using I
   exact(d.obj j p D).le z (upd_ne _ _ e) fun b s=>h.block b ((d.obj j p D).lt s).2
 .by_cases e1:i=id<;>by_cases e2:j=id
  .rw[e1,e2]
  .subst e1;have u:p=o:=by grind [Cx.push,dG]
   have v:cZ c.hp j=a6 q:=by simpa [Cx.push,dG,Ne.symm e2] using B
   subst u;simp only[Cx.push,upd_same,upd_ne _ _ e2]at f g;have:=hl b f;have:=((d.obj j q v).lt g).2;omega
  .subst e2;have u:q=o:=by grind [Cx.push,dG]
   have x:cZ c.hp i=a6 p:=by simpa [Cx.push,dG,Ne.symm e1] using A
   subst u;simp only[Cx.push,upd_same,upd_ne _ _ e1]at f g;have:=hl b g;have:=((d.obj i p x).lt f).2;omega
  .have x:cZ c.hp i=a6 p:=by simpa [Cx.push,dG,Ne.symm e1] using A
   have v:cZ c.hp j=a6 q:=by simpa [Cx.push,dG,Ne.symm e2] using B
   simp only[Cx.push,upd_ne _ _ e1,upd_ne _ _ e2]at f g;exact d.inj i j p q b x v f g
def Cx.put (c:Cx) (id:Nat) (o:bY) (l:Loc) (w:World):Cx:=⟨upd c.mu id l,gX c.hp id o,c.nxt,w,c.mks,c.bar⟩
theorem Cx.put_get {c:Cx} {id:Nat} {o p:bY} {l:Loc} {w:World} (hp:cZ c.hp id=a6 p):cZ (c.put id o l w).hp id=a6 o:=Ny hp
theorem Cx.Le.put {W0:World} {c:Cx} {id:Nat} {o o':bY} {l:Loc} {w:World} (z:c.Ok W0) (q:cZ c.hp id=a6 o) (hk:o.like (c.mu id) o' l) (u:c.w.heap.size<=w.heap.size)
  (hb: ∀b,b<c.w.heap.size->o.blk (c.mu id)≠a6 b->w.heap[b]? =c.w.heap[b]?) (hl: ∀b,o'.blk l=a6 b->o.blk (c.mu id)=a6 b\/c.w.heap.size<=b)
  (x: ∀(b:Nat) (L:Loop),o.blk (c.mu id)=a6 b->c.w.heap[b]? =a6 (Obj.loop L)-> ∃y:Loop,w.heap[b]? =a6 (Obj.loop y)):c.Le (c.put id o' l w):=by
 refine⟨fun b d=>⟨⟨aS d.1 u, ?_,d.2.2⟩,hb b d.1 fun e=>d.2.1 ⟨id,o,q,e⟩⟩,fun j i=> ?_,fun j p i hp=> ?_,fun _ h=>h,fun b L s=> ?_,u,rfl⟩
 rotate_left 3
 .by_cases e:o.blk (c.mu id)=a6 b
  .exact x b L e s
  .exact⟨L,(hb b (Array.getElem?_eq_some_iff.1 s).1 e).trans s⟩
 .rintro ⟨j,p,f,g⟩;simp only[Cx.put,iO]at f g;split at f
  .rename_i e
   subst e;rw[q]at f;cases f;rw[upd_same]at g;rcases hl b g with v|v
   .exact d.2.1 ⟨id,o,q,v⟩
   .have:=d.1;omega
  .rename_i e
   rw[upd_ne _ _ (Ne.symm e)]at g;exact d.2.1 ⟨j,p,f,g⟩
 .rcases i with ⟨p,hp⟩|i
  .left
   grind [Cx.put,iO]
  .right;exact i
 .simp only[Cx.put,iO]at hp ⊢;split at hp
  .simp_all [upd_same]
  .rename_i e
   exact⟨p,hp,by rw[upd_ne _ _ (Ne.symm e)];exact p.like_refl _⟩
theorem Cx.Ok.put {W0:World} {c:Cx} {id:Nat} {o o':bY} {l:Loc} {w:World} (d:c.Ok W0) (u:cZ c.hp id=a6 o) (hk:o.like (c.mu id) o' l) (K:Below W0.heap.size W0 w)
  (M:c.w.heap.size<=w.heap.size) (hb: ∀b,b<c.w.heap.size->o.blk (c.mu id)≠a6 b->w.heap[b]? =c.w.heap[b]?) (hl: ∀b,o'.blk l=a6 b->o.blk (c.mu id)=a6 b\/c.w.heap.size<=b)
  (N: ∀(b:Nat) (L:Loop),o.blk (c.mu id)=a6 b->c.w.heap[b]? =a6 (Obj.loop L)-> ∃O:Loop,w.heap[b]? =a6 (Obj.loop O)) (S:(c.put id o' l w).ORel W0.heap.size id o'):(c.put id o' l w).Ok W0:=by
 have G:=Cx.Le.put (w:=w) d u hk M hb hl N;refine⟨K,fun j p hp=> ?_,fun i j p q b A B g s=> ?_,fun r hr=>⟨(d.mks r hr).1,(hb r (d.mark_lt hr) fun e=>(d.obj id o u).no_mark e (d.mks r hr).2).trans (d.mks r hr).2⟩,fun b hb=>(G.out b (d.bar b hb)).1,d.phi⟩
 .by_cases e:id=j
  .grind [Cx.put_get]
  .have D:cZ c.hp j=a6 p:=by grind [Cx.put,iO]
   refine(d.obj j p D).le G (upd_ne _ _ (Ne.symm e)) fun b I=>hb b ((d.obj j p D).lt I).2 fun f=>e (d.inj id j o p b u D f I)
 .have x: ∀i p,cZ (c.put id o' l w).hp i=a6 p->id≠i->cZ c.hp i=a6 p:=fun i p h e=>by simpa [Cx.put,iO,e] using h
  have J: ∀p,cZ (c.put id o' l w).hp id=a6 p->p=o':=fun p h=>by grind [Cx.put_get]
  by_cases e1:id=i<;>by_cases f:id=j
  .rw[<-e1,<-f]
  .subst e1;have E:=J p A;have y:=x j q B f;subst E;simp only[Cx.put,upd_same,upd_ne _ _ (Ne.symm f)]at g s;rcases hl b g with v|v
   .exact d.inj id j o q b u y v s
   .have:=((d.obj j q y).lt s).2;omega
  .subst f;have E:=J q B;have z:=x i p A e1;subst E;simp only[Cx.put,upd_same,upd_ne _ _ (Ne.symm e1)]at g s;rcases hl b s with v|v
   .exact d.inj i id p o b z u g v
   .have:=((d.obj i p z).lt g).2;omega
  .have z:=x i p A e1;have y:=x j q B f;simp only[Cx.put,upd_ne _ _ (Ne.symm e1),upd_ne _ _ (Ne.symm f)]at g s;exact d.inj i j p q b z y g s
theorem bg.length {c:Cx}: ∀(l:List bn) (xs:List Value),bg c l xs->l.length=xs.length
 |[],[],_=>rfl
 |v::l,x::xs,h=>by simp only[bg]at h;simp[bg.length l xs h.2]
 |[],_::_,h=>by simp[bg]at h
 |_::_,[],h=>by simp[bg]at h
theorem bg.get {c:Cx}: ∀(l:List bn) (xs:List Value),bg c l xs-> ∀(i:Nat) (h:i<l.length) (f:i<xs.length),bu c l[i] xs[i]
 |v::l,x::xs,h,0,_,_=>by simp_all [bg]
 |v::l,x::xs,h,i+1,d,e=>by simp only[bg]at h;exact bg.get l xs h.2 i (by simpa using d) (by simpa using e)
 |[],_,_,_,d,_=>by simp at d
 |_::_,[],h,_,_,_=>by simp[bg]at h
theorem bg.append {c:Cx}: ∀(l m:List bn) (xs d:List Value),bg c l xs->bg c m d->bg c (l++m) (xs++d)
 |[],m,[],d,_,h=>h
 |v::l,m,x::xs,d,h,k=>by simp only[bg,List.cons_append]at h ⊢;exact⟨h.1,bg.append l m xs d h.2 k⟩
 |[],_,_::_,_,h,_=>by simp[bg]at h
 |_::_,_,[],_,h,_=>by simp[bg]at h
theorem bg.take {c:Cx}: ∀(k:Nat) (l:List bn) (xs:List Value),bg c l xs->bg c (l.take k) (xs.take k)
 |0,_,_,_=>by simp[bg]
 |k+1,[],[],_=>by simp[bg]
 |k+1,v::l,x::xs,h=>by simp only[bg,List.take_succ_cons]at h ⊢;exact⟨h.1,bg.take k l xs h.2⟩
 |_+1,[],_::_,h=>by simp[bg]at h
 |_+1,_::_,[],h=>by simp[bg]at h
theorem bg.drop {c:Cx}: ∀(k:Nat) (l:List bn) (xs:List Value),bg c l xs->bg c (l.drop k) (xs.drop k)
 |0,_,_,h=>by simpa using h
 |k+1,[],[],_=>by simp[bg]
 |k+1,v::l,x::xs,h=>by simp only[bg,List.drop_succ_cons]at h ⊢;exact bg.drop k l xs h.2
 |_+1,[],_::_,h=>by simp[bg]at h
 |_+1,_::_,[],h=>by simp[bg]at h
theorem bg.set {c:Cx} {v:bn} {x:Value} (d:bu c v x): ∀(i:Nat) (l:List bn) (xs:List Value),bg c l xs->bg c (l.set i v) (xs.set i x)
 |_,[],[],_=>by simp[bg]
 |0,u::l,y::xs,h=>by simp_all [bg]
 |i+1,u::l,y::xs,h=>by simp only[bg,List.set_cons_succ]at h ⊢;exact⟨h.1,bg.set d i l xs h.2⟩
 |_,[],_::_,h=>by simp[bg]at h
 |_,_::_,[],h=>by simp[bg]at h
theorem VD.leaf {c:Cx} {t:Ty} {x:t.den} {v:Value} (h:t.isAgg=false):VD c t x v↔dM c.w c.free t x [v]:=⟨fun d=>d.2 h,fun d=>⟨(fun e=>by rw[h]at e;cases e),(fun _=>d)⟩⟩
theorem VD.agg {c:Cx} {t:Ty} {x:t.den} {v:Value} (h:t.isAgg=true):VD c t x v↔ ∃cs,v=.agg cs/\dM c.w c.free t x cs.toList:=⟨fun d=>d.1 h,fun d=>⟨(fun _=>d),(fun e=>by rw[h]at e;cases e)⟩⟩
theorem VD.cells {c:Cx} {t:Ty} {x:t.den} {v:Value} (h:VD c t x v):dM c.w c.free t x v.cells.toList:=by
 by_cases e:t.isAgg=true
 .obtain⟨cs,rfl,d⟩:=h.1 e;exact d
 .have f:t.isAgg=false:=by simpa using e
  have d:=h.2 f;have g:=dM.one _ _ _ d v (by simp);cases v<;>simp_all [Value.cells,Value.oneCell']
theorem Ae {c:Cx}: ∀(t:Ty) (x:t.den) (cs:List Value),dM c.w c.free t x cs->bg c (flat t x) cs
 |.unit,_,_,h=>by cases h;simp[flat,bg]
 |.bool,x,cs,h=>by simp only[dM]at h;subst h;simp only[flat,bg,bu];exact⟨(VD.leaf rfl).2 rfl,trivial⟩
 |.int k,x,cs,h=>by simp only[dM]at h;subst h;simp only[flat,bg,bu];exact⟨(VD.leaf rfl).2 rfl,trivial⟩
 |.str,x,cs,h=>by simp only[dM]at h;subst h;simp only[flat,bg,bu];exact⟨(VD.leaf rfl).2 rfl,trivial⟩
 |.list t,x,cs,h=>by
  have e:=h;obtain⟨a,n,l,d,_⟩:=h;subst d;simp only[flat,bg,bu];exact⟨(VD.leaf rfl).2 e,trivial⟩
 |.pair a b,x,cs,⟨f,g,d,i,j⟩=>by
  subst d;exact bg.append _ _ _ _ (Ae a x.1 f i) (Ae b x.2 g j)
theorem kK {t' t:Ty} {x:t'.den} {y:t.den} (h:iR t x=a6 y): ∃e:t'=t,y=cast (congrArg Ty.den e) x:=by
 grind [iR]
theorem dY {t:Ty} (x:t.den):iR t x=a6 x:=by simp[iR]
theorem fV {t' t:Ty} {x:t'.den} {y:t.den} (h:iR t x=a6 y):t'=t:=(kK h).1
theorem F5 {c:Cx} {t:Ty} (e:t.isAgg=false) {v:bn} {x:t.den} (h:leaf t v=a6 x) {u:Value} (d:bu c v u):dM c.w c.free t x [u]:=by
 cases v with
 |val t' y=>
  grind [leaf,kK,bu,VD.leaf]
 |nils=>
  cases t<;>simp only[leaf]at h
  case list t=>
   cases h;simp only[bu]at d;subst d;exact⟨a7,0,[],rfl,by simp,rfl,.inl rfl⟩
  all_goals cases h
 |_=>simp[leaf]at h
theorem aaM {c:Cx}: ∀(t:Ty) (l:List bn) (x:t.den) (e:List bn) (vs:List Value),mk t l=a6 (x,e)->bg c l vs->
  ∃cs g,vs=cs++g/\dM c.w c.free t x cs/\bg c e g
 |.unit,l,x,e,vs,h,d=>by
  simp only[mk,Option.some.injEq,Prod.mk.injEq]at h;obtain⟨_,rfl⟩:=h;exact⟨[],vs,rfl,rfl,d⟩
 |.pair a b,l,x,e,vs,h,d=>by
  simp only[mk]at h;split at h
  .rename_i y i p
   split at h
   .rename_i z I q
    cases h;obtain⟨j,s,J,A,B⟩:=aaM a l y i vs p d;obtain⟨o,D,K,E,G⟩:=aaM b i z e s q B;exact⟨j++o,D,by simp_all,⟨j,o,rfl,A,E⟩,G⟩
   .cases h
  .cases h
 |.bool,[],_,_,_,h,_=>by simp[mk]at h
 |.int _,[],_,_,_,h,_=>by simp[mk]at h
 |.str,[],_,_,_,h,_=>by simp[mk]at h
 |.list _,[],_,_,_,h,_=>by simp[mk]at h
 |.bool,v::l,x,e,u::vs,h,d=>by
  simp only[bg]at d;simp only[mk]at h;split at h
  .rename_i y f;cases h;exact⟨[u],vs,rfl,F5 rfl f d.1,d.2⟩
  .cases h
 |.int k,v::l,x,e,u::vs,h,d=>by
  simp only[bg]at d;simp only[mk]at h;split at h
  .rename_i y f;cases h;exact⟨[u],vs,rfl,F5 rfl f d.1,d.2⟩
  .cases h
 |.str,v::l,x,e,u::vs,h,d=>by
  simp only[bg]at d;simp only[mk]at h;split at h
  .rename_i y f;cases h;exact⟨[u],vs,rfl,F5 rfl f d.1,d.2⟩
  .cases h
 |.list t,v::l,x,e,u::vs,h,d=>by
  simp only[bg]at d;simp only[mk]at h;split at h
  .rename_i y f;cases h;exact⟨[u],vs,rfl,F5 rfl f d.1,d.2⟩
  .cases h
 |.bool,_::_,_,_,[],_,d=>by simp[bg]at d
 |.int _,_::_,_,_,[],_,d=>by simp[bg]at d
 |.str,_::_,_,_,[],_,d=>by simp[bg]at d
 |.list _,_::_,_,_,[],_,d=>by simp[bg]at d
theorem lZ {c:Cx} {t:Ty} {l:List bn} {x:t.den} {vs:List Value} (h:Dy t l=a6 x) (d:bg c l vs):dM c.w c.free t x vs:=by
 grind [Dy,aaM,bg]
theorem Hy {c:Cx} {v:bn} {l:List bn} (h:v.cells=a6 l) {x:Value} (d:bu c v x):bg c l x.cells.toList/\ ∀u∈x.cells.toList,u.oneCell'=true:=by
 cases v with
 |val t y=>
  simp only[bn.cells,Option.some.injEq]at h;subst h;simp only[bu]at d;exact⟨Ae t y _ d.cells,dM.one _ _ _ d.cells⟩
 |agg i=>
  simp only[bn.cells,Option.some.injEq]at h;subst h;simp only[bu]at d;obtain⟨j,rfl,e,f⟩:=d;exact⟨e,f⟩
 |undef=>simp[bn.cells]at h
 |tup _=>simp[bn.cells]at h
 |_=>
  simp only[bn.cells,Option.some.injEq]at h;subst h;have g:x.oneCell'=true:=by
   simp only[bu]at d
   first
    |(subst d;rfl)
    |exact d.1
    |(obtain⟨_,_,_,rfl,_⟩:=d;rfl)
    |(obtain⟨_,rfl,_⟩:=d;rfl)
    |(obtain⟨_,_,_,_,rfl,_⟩:=d;rfl)
  have e:x.cells= #[x]:=by cases x<;>simp_all [Value.cells,Value.oneCell']
  rw[e];simp only[bg];exact⟨⟨d,trivial⟩,by simpa using g⟩
end
section
open Option renaming some → a6, none → a7
open List renaming map_cons → au
open Go.RowKit
def jE:TypeDesc->Option TK
 |.bool=>a6 .bool
 |.int k=>a6 (.int k)
 |.string=>a6 .str
 |.slice e=>a6 (.slice e)
 |.struct d=>a6 (.struct (d.toList.map fun f=>(f.offset,f.type)))
 |.func _ _ _=>a6 .fn
 |.pointer e=>a6 (.ptr e)
 |.map k e=>a6 (.map k e)
 |.array _ _=>a7
 |_=>a6 .other
def iV (T:TT):Nat->List (Nat×TypeId)->Option Ty
 |_,[]=>a6 .unit
 |e,(o,d)::f=>if o=e then match(T.at d).ty with
   |some a=>if a.size=(T.at d).size/\(T.at d).known=true then match iV T (e+a.size) f with
    |some b=>a6 (.pair a b)
    |none=>a7
    else a7
   |none=>a7
  else a7
def jU (T:TT):TK->Option Ty
 |.bool=>a6 .bool
 |.int k=>a6 (.int k)
 |.str=>a6 .str
 |.slice e=>(T.at e).ty.map .list
 |.struct d=>iV T 0 d
 |_=>a7
def apc (P:Program) (T:TT) (t:TypeId) (i:TI):Prop:=
 i.known=true->(P.info? t).map (fun f=>(f.size,f.bytes,f.zero.map fun z=>(z.cells.toList.map uk,z.cells.toList.all Value.oneCell')))=a6 (i.size,i.bytes,a6 (i.zero,true))/\
  (P.underlying t).map jE=a6 (a6 i.k)/\(i.ty=a7\/i.ty=jU T i.k)/\(∀y,i.ty=a6 y->y.size=i.size)/\(i.isAgg=true\/i.size=1)/\
  (i.eq=true->P.eqGuardType P.depth t=false/\P.stoodInHeld t=false/\(P.underlying t).map (fun d=>match d with|.struct fs=>fs.toList.all fun f=>f.name != "_" |_=>false)=a6 true)/\
  (P.underlying t).map (fun d=>match d with|.struct fs=>fs.toList.all fun f=>(P.info? f.type).isSome|_=>true)=a6 true/\i.zero.length=i.size/\(i.ty=a6 (.int .u8)->t=lu)/\(i.bld=true->t=Qm)/\(∀k,i.k=.int k-> ∀j,P.info? t=a6 j->j.zero=a6 (.int k 0))
def TOk (P:Program) (T:TT):Prop:= ∀t,apc P T t (T.at t)
def TT.All (p:Nat->TI->Prop):TT->Prop
 |.nil=>True
 |.node k i l r=>p k i/\l.All p/\r.All p
theorem TT.All.at_ {p:Nat->TI->Prop} (hd: ∀t,p t default): ∀(T:TT),T.All p-> ∀t,p t (T.at t)
 |.nil,_,t=>hd t
 |.node k i l r,⟨j,d,f⟩,t=>by
  simp only[TT.at];by_cases e:Nat.beq k t=true
  .simp_all
  .have g:Nat.beq k t=false:=(Bool.not_eq_true _).mp e;simp only[g,ac];by_cases e2:Nat.blt t k=true
   .simp only[e2,aa];exact TT.All.at_ hd l d t
   .have h:Nat.blt t k=false:=(Bool.not_eq_true _).mp e2;simp only[h,ac];exact TT.All.at_ hd r f t
theorem TOk.of_all {P:Program} {T:TT} (h:T.All (apc P T)):TOk P T:=TT.All.at_ (fun t h=>by cases h) T h
section types
variable {P:Program} {T:TT} (hT:TOk P T) {t:TypeId} (hk:(T.at t).known=true)
theorem TOk.info (hT:TOk P T) (hk:(T.at t).known=true): ∃i z,P.info? t=a6 i/\i.size=(T.at t).size/\i.bytes=(T.at t).bytes/\i.zero=a6 z/\z.cells.toList.map uk=(T.at t).zero/\z.cells.toList.all Value.oneCell'=true:=by
 have h:=(hT t hk).1;simp_all
theorem TOk.und (hT:TOk P T) (hk:(T.at t).known=true): ∃d,P.underlying t=a6 d/\jE d=a6 (T.at t).k:=by
 have h:=(hT t hk).2.1;simp_all
theorem TOk.slice (hT:TOk P T) (hk:(T.at t).known=true) {e:TypeId} (h:(T.at t).k=.slice e):P.underlying t=a6 (.slice e):=by
 obtain⟨d,g,f⟩:=hT.und hk;rw[h]at f;cases d<;>simp[jE]at f;subst f;exact g
theorem TOk.str (hT:TOk P T) (hk:(T.at t).known=true) (h:(T.at t).k=.str):P.underlying t=a6 .string:=by
 obtain⟨d,f,e⟩:=hT.und hk;rw[h]at e;cases d<;>simp[jE]at e;exact f
theorem TOk.int (hT:TOk P T) (hk:(T.at t).known=true) {k:IntKind} (h:(T.at t).k=.int k):P.underlying t=a6 (.int k):=by
 obtain⟨d,f,e⟩:=hT.und hk;rw[h]at e;cases d<;>simp[jE]at e;subst e;exact f
theorem TOk.struct (hT:TOk P T) (hk:(T.at t).known=true) {e:List (Nat×TypeId)} (h:(T.at t).k=.struct e): ∃g,P.underlying t=a6 (.struct g)/\g.toList.map (fun f=>(f.offset,f.type))=e:=by
 obtain⟨d,j,i⟩:=hT.und hk;rw[h]at i;cases d<;>simp[jE]at i;simp_all
theorem TOk.isAgg (hT:TOk P T) (hk:(T.at t).known=true) (w:World):(Go.isAgg t).run P w=.ok (T.at t).isAgg w:=by
 obtain⟨d,f,e⟩:=hT.und hk;have:(Go.isAgg t).run P w=.ok (match d with|.struct _|.array _ _=>true|_=>false) w:=by
  simp only[Go.isAgg,Sem.run_bind,run_underlying f,Result.andThen_ok];cases d<;>rfl
 rw[this];unfold TI.isAgg;cases d<;>simp only[jE,Option.some.injEq,reduceCtorEq]at e<;>simp[<-e]
theorem TOk.sizeOf (hT:TOk P T) (hk:(T.at t).known=true) (w:World):(Go.sizeOf t).run P w=.ok (T.at t).size w:=by
 obtain⟨i,z,d,e,_⟩:=hT.info hk;simp[Go.sizeOf,typeInfo,d,e]
theorem TOk.ty_agg (hT:TOk P T) (hk:(T.at t).known=true) {y:Ty} (h:(T.at t).ty=a6 y):y.isAgg=(T.at t).isAgg:=by
 rcases(hT t hk).2.2.1 with d|d
 .simp_all
 .rw[h]at d;unfold TI.isAgg;cases hkk:(T.at t).k with
  |struct g=>
   rw[hkk]at d;simp only[jU]at d;cases g with
   |nil=>simp only[iV,Option.some.injEq]at d;subst d;rfl
   |cons f r=>
    obtain⟨o,i⟩:=f;simp only[iV]at d
    repeat' split at d
    all_goals first|cases d|skip
    rfl
  |bool=>rw[hkk]at d;simp only[jU,Option.some.injEq]at d;subst d;rfl
  |int k=>rw[hkk]at d;simp only[jU,Option.some.injEq]at d;subst d;rfl
  |str=>rw[hkk]at d;simp only[jU,Option.some.injEq]at d;subst d;rfl
  |slice e=>
   rw[hkk]at d;simp only[jU]at d;cases he:(T.at e).ty with
   |none=>simp_all
   |some j=>rw[he]at d;simp only[Option.map_some,Option.some.injEq]at d;subst d;rfl
  |other=>rw[hkk]at d;cases d
  |ptr e=>rw[hkk]at d;cases d
  |fn=>rw[hkk]at d;cases d
  |map a b=>rw[hkk]at d;cases d
theorem TOk.ty_size (hT:TOk P T) (hk:(T.at t).known=true) {y:Ty} (h:(T.at t).ty=a6 y):y.size=(T.at t).size:=(hT t hk).2.2.2.1 y h
theorem TOk.zlen (hT:TOk P T) (hk:(T.at t).known=true):(T.at t).zero.length=(T.at t).size:=(hT t hk).2.2.2.2.2.2.2.1
theorem TOk.byte (hT:TOk P T) (hk:(T.at t).known=true) (h:(T.at t).ty=a6 (.int .u8)):t=lu:=(hT t hk).2.2.2.2.2.2.2.2.1 h
theorem TOk.bldr (hT:TOk P T) (hk:(T.at t).known=true) (h:(T.at t).bld=true):t=Qm:=(hT t hk).2.2.2.2.2.2.2.2.2.1 h
theorem TOk.ptr (hT:TOk P T) (hk:(T.at t).known=true) {e:TypeId} (h:(T.at t).k=.ptr e):P.underlying t=a6 (.pointer e):=by
 obtain⟨d,g,f⟩:=hT.und hk;rw[h]at f;cases d<;>simp[jE]at f;subst f;exact g
theorem TOk.zero_int (hT:TOk P T) (hk:(T.at t).known=true) {k:IntKind} (h:(T.at t).k=.int k) {i:TypeInfo} (hi:P.info? t=a6 i):i.zero=a6 (.int k 0):=(hT t hk).2.2.2.2.2.2.2.2.2.2 k h i hi
theorem TOk.zero_byte (hT:TOk P T) (hk:(T.at t).known=true) (h:(T.at t).k=.int .u8) {i:TypeInfo} (hi:P.info? t=a6 i):i.zero=a6 (.int .u8 0):=hT.zero_int hk h hi
theorem TOk.map (hT:TOk P T) (hk:(T.at t).known=true) {a e:TypeId} (h:(T.at t).k=.map a e):P.underlying t=a6 (.map a e):=by
 obtain⟨d,g,f⟩:=hT.und hk;rw[h]at f;cases d<;>simp[jE]at f;simp_all
theorem TOk.one (hT:TOk P T) (hk:(T.at t).known=true):(T.at t).isAgg=true\/(T.at t).size=1:=(hT t hk).2.2.2.2.1
end types
theorem ML (c:Cx) (v:Value):bu c (uk v) v:=by
 unfold uk;split<;>simp only[bu]
 .exact(VD.leaf rfl).2 rfl
 .exact(VD.leaf rfl).2 rfl
 .refine(VD.leaf rfl).2 ?_;simp[dM]
theorem qM (c:Cx): ∀(l:List Value),bg c (l.map uk) l
 |[]=>by simp[bg]
 |v::l=>by simp only[au,bg];exact⟨ML c v,qM c l⟩
theorem bg.setL {c:Cx} {z:bn}: ∀(s:Nat) (fr:List bn) (xs:List Value),bg c fr xs->(∀h:s<xs.length,bu c z xs[s])->bg c (fr.set s z) xs
 |s,[],[],_,_=>by simp[bg]
 |0,v::fr,x::xs,h,d=>by
  simp_all [bg]
 |s+1,v::fr,x::xs,h,d=>by
  simp only[bg,List.set_cons_succ]at h ⊢;exact⟨h.1,bg.setL s fr xs h.2 fun hl=>d (by simpa using hl)⟩
 |s,[],_::_,h,_=>by simp[bg]at h
 |s,_::_,[],h,_=>by simp[bg]at h
theorem bg.getD {c:Cx} {l:List bn} {xs:Array Value} (h:bg c l xs.toList) (t:Nat):bu c (l.getD t .undef) (xs.getD t undef):=by
 have hl:l.length=xs.size:=by grind [bg.length,Array.length_toList]
 by_cases ht:t<l.length
 .have d:t<xs.size:=by omega
  have e:=bg.get _ _ h t ht (by simpa using d);simp_all
 simp_all [bu]
theorem dh {c:Cx} {fr:List bn} {a:Act} (h:bg c fr a.tmps.toList) (x:Operand):bu c (fG fr x) (a.eval x):=by
 cases x with
 |tmp t=>exact h.getD t
 |const v=>
  cases v with
  |agg cs=>
   simp only[fG,Act.eval,SY];cases e:cs.toList.all Value.oneCell'
   .simp[bu]
   .simp only[aa,bu];exact⟨cs,rfl,qM c _,fun u d=>List.all_eq_true.1 e u d⟩
  |tuple _=>simp[fG,SY,bu]
  |_=>simp only[fG,Act.eval,SY];exact ML c _
 |global g=>simp[fG,bu]
 |func f=>simp only[fG,Act.eval,bu];exact⟨#[],rfl,by simp[bg]⟩
end
section
open Option renaming some → a6, none → a7
open Bool renaming false_eq_true → ag, not_true → ax
open List renaming append_assoc → ai
open Go.RowKit
theorem bK {R:Type} {b:Bool} {x:Option R} {r:R} (h:(bif b then x else a7)=a6 r):b=true/\x=a6 r:=by
 grind
theorem eu {R:Type} {b:Bool} {x:Option R} {r:R} (h:kT b x=a6 r):b=true/\x=a6 r:=bK h
abbrev Dh (c:Cx) (w:World):Prop:=Below c.w.heap.size c.w w
def valOf (agg:Bool) (d:List Value):Value:=if agg then .agg d.toArray else d.headD undef
theorem jm (b o n:Nat):(⟨b,o,a7⟩:Addr).add n=⟨b,o+n,a7⟩:=by
 simp_all [Addr.add]
section
variable {P:Program} {T:TT} {W0:World} {c:Cx} {R:Type} {r:R} {t:TypeId}
theorem GY (hT:TOk P T) (hk:(T.at t).known=true) {w:World} {b o:Nat} {d:List Value} (g:fE w b o d) (hl:d.length=(T.at t).size):
  (loadVar t ⟨b,o,a7⟩).run P w=.ok (valOf (T.at t).isAgg d) w:=by
 have i:=hT.isAgg hk w;have l:=hT.sizeOf hk w;have f: ∀j v,d[j]? =a6 v->w.cell? ((⟨b,o,a7⟩:Addr).add j)=a6 v:=fun j v p=>by
  rw[jm];obtain⟨q,s⟩:=List.getElem?_eq_some_iff.1 p;rw[g j q,s]
 simp only[loadVar,Sem.run_bind,i,Result.andThen_ok];cases e:(T.at t).isAgg
 .have u:d.length=1:=by
   rcases hT.one hk with h|h
   all_goals simp_all
  match d,u with
  |[z],_=>
   have x:=f 0 z rfl;simp_all [jm,valOf]
 .simp only[if_true,Sem.run_bind,l,Result.andThen_ok,<-hl,run_loadCells_list (P:=P) w ⟨b,o,a7⟩ d f,Sem.run_pure,valOf]
theorem pW (hT:TOk P T) (hk:(T.at t).known=true) {w:World} {b o:Nat} {d:List Value} (e:fE w b o d) (hl:d.length=(T.at t).size):
  (Instr.loadAt t (.pointer (a6 ⟨b,o,a7⟩))).run P w=.ok (valOf (T.at t).isAgg d) w:=by
 grind [Instr.loadAt,Instr.sureAddr,GY]
theorem Zi (hT:TOk P T) (hk:(T.at t).known=true) {y:Ty} (g:(T.at t).ty=a6 y) {x:y.den} {d:List Value} (h:dM c.w c.free y x d):VD c y x (valOf (T.at t).isAgg d):=by
 have f:=hT.ty_agg hk g;cases e:(T.at t).isAgg
 .rw[e]at f;refine(VD.leaf f).2 ?_;have i:=dM.length _ _ _ h;have j:d.length=1:=by
   rw[i];cases y<;>first|rfl|(simp[Ty.isAgg]at f)
  match d,j with
  |[z],_=>exact h
 .rw[e]at f;exact(VD.agg f).2 ⟨d.toArray,rfl,by simpa using h⟩
theorem GG (hT:TOk P T) (hk:(T.at t).known=true) {l:List bn} {d:List Value} (h:bg c l d) (o: ∀u∈d,u.oneCell'=true):bu c (norm (T.at t) l) (valOf (T.at t).isAgg d):=by
 unfold norm valOf TI.isAgg;have e:bu c (.agg l) (.agg d.toArray):=by simp only[bu];simp_all
 cases hkk:(T.at t).k with
 |struct p=>
  simp only[if_true];split
  .rename_i y g
   split
   .rename_i x i
    rw[cond_eq_ite];split
    .exact e
    simp only[bu];have j:=lZ i h;have f:=hT.ty_agg hk g;rw[TI.isAgg,hkk]at f;exact(VD.agg f).2 ⟨d.toArray,rfl,by simpa using j⟩
   .exact e
  .exact e
 |_=>
  simp only[ag,if_false];split
  .rename_i v
   match d,h with
   |[z],h=>simp only[bg]at h;exact h.1
   |[],h=>simp[bg]at h
   |_::_::_,h=>simp[bg]at h
  .simp[bu]
theorem yB {cs l:List bn} {off k:Nat} (h:Fe cs off k=a6 l):off+k<=cs.length/\l=(cs.drop off).take k:=by
 unfold Fe at h;obtain⟨d,e⟩:=bK h;simp_all
theorem fE.sub {w:World} {b o:Nat} {d:List Value} (h:fE w b o d) (off k:Nat):fE w b (o+off) ((d.drop off).take k):=by
 intro j e;have f:off+j<d.length:=by simp at e;omega
 rw[Nat.add_assoc,h (off+j) f];simp
theorem fE.of_block_cells {w:World} {b:Nat} {vs:Array Value} {e:TypeId} {f:Nat×Nat} (h:w.heap[b]? =a6 (.cells vs e f)):fE w b 0 vs.toList:=by
 intro j d;simp_all [World.cell?]
theorem Dh.cells {c:Cx} {w:World} (h:Dh c w) {b o:Nat} {d:List Value} (hb:b<c.w.heap.size) (e:fE c.w b o d):fE w b o d:=e.of_block (h.block b hb)
theorem akc (p:c.Ok W0) {id q:Nat} {y:Ty} {xs:List y.den} (h:cZ c.hp id=a6 (.arr y q xs)) {i:Nat} (hi:i<xs.length):
  ∃g n cp f,(c.mu id).v=.slice (a6 ⟨g,0,a7⟩) n cp/\c.own g/\dM c.w c.free y xs[i] f/\fE c.w g (i*y.size) f:=by
 obtain⟨M,e,f,s,u,N⟩:=p.obj id _ h;obtain⟨d,O,x,S,U,z,A⟩:=dX.at_ i xs f hi u;rcases s.2 with ⟨l,B⟩|⟨g,V,D,l,B,E,W,X,Y,G⟩
 .omega
 .refine⟨g,_,_,d,l,⟨id,_,h,by simp[bY.blk,l,Value.ownBlock]⟩,x, ?_⟩;have I:=fE.of_block_cells E;intro j J;have o:f[i*y.size+j]? =a6 d[j]:=by
   rw[z,ai,List.getElem?_append_right (by omega),A,Nat.add_sub_cancel_left,List.getElem?_append_left J];simp
  have K:i*y.size+j<f.length:=(List.getElem?_eq_some_iff.1 o).1;rw[<-G]at o K;have L:i*y.size+j<D.toList.length:=by grind
  have:=I (i*y.size+j) L
  grind
theorem aj8 (hT:TOk P T) (A:c.Ok W0) {av:bn} {v:Value} {K:bn->Option R} (h:H7 T c.hp t av K=a6 r) (d:bu c av v):
  ∃z u,K z=a6 r/\bu c z u/\ ∀w',Dh c w'->(Instr.loadAt t v).run P w'=.ok u w':=by
 unfold H7 at h;cases hk:(T.at t).known
 .simp_all
 rw[hk]at h;simp only[ax,ac]at h;cases av with
 |cellp y x=>
  simp only at h;split at h
  .rename_i y' O
   split at h
   .rename_i x' B
    obtain⟨e,D⟩:=kK B;subst e;subst D;simp only[bu]at d;obtain⟨b,o,S,rfl,U,f,hd⟩:=d;refine⟨_,_,h, ?_,fun w' j=>pW hT hk (j.cells U.1 f) ?_⟩
    .grind [bu,Zi]
    .rw[dM.length _ _ _ hd,hT.ty_size hk O]
   .cases h
  .cases h
 |ptr id p=>
  simp only at h;split at h
  .rename_i bt cs G
   split at h
   .rename_i l hl
    obtain⟨q,rfl⟩:=yB hl;simp only[bu]at d;have V:=d.2.2 _ _ G;subst V;obtain⟨hB,vs,s,I,W⟩:=A.obj id _ G;have X:=bg.length _ _ I;have f:=(fE.of_block_cells s).sub p (T.at t).size;rw[Nat.zero_add]at f;refine⟨_,_,h,GG hT hk (bg.take _ _ _ (bg.drop p _ _ I)) (fun u E=>W u (List.mem_of_mem_drop (List.mem_of_mem_take E))),fun w' j=>pW hT hk (j.cells (Array.getElem?_eq_some_iff.1 s).1 f) ?_⟩
    grind
   .cases h
  .cases h
 |ep id ver i p=>
  simp only at h;split at h
  .rename_i y u xs J
   replace h:=bK h;obtain⟨q,h⟩:=h;replace h:=bK h;obtain⟨D,h⟩:=h;have q:u=ver:=by simpa using q
   subst q;have L:i<xs.length:=by simpa [Ky] using D
   split at h
   .rename_i l hl
    obtain⟨s,rfl⟩:=yB hl;simp only[bu]at d;obtain⟨g',n',ae,Y,Z⟩:=(d.2.2 _ _ _ J).2 rfl;obtain⟨g,n,cp,S,M,ab,hd,f⟩:=akc A J L;rw[Y]at M;cases M;subst Z;have B:xs.getD i y.dflt=xs[i]:=by simp[List.getD,L]
    rw[B]at h s;have N:=Ae y _ _ hd;have X:=bg.length _ _ N;have ad:=f.sub p (T.at t).size;refine⟨_,_,h,GG hT hk (bg.take _ _ _ (bg.drop p _ _ N)) (fun u E=>dM.one _ _ _ hd u (List.mem_of_mem_drop (List.mem_of_mem_take E))),fun w' j=>pW hT hk (j.cells (A.own_lt ab).2 ad) ?_⟩;simp;omega
   .cases h
  .cases h
 |_=>cases h
end
end
section
open Option renaming some → a6, none → a7
open Bool renaming and_eq_true → af, false_eq_true → ag, not_true → ax, true_and → aK
open List renaming map_cons → au, drop_eq_getElem_cons → aF
open Go.RowKit
section
variable {P:Program} {T:TT} {W0:World} {c:Cx} {R:Type} {r:R} {t:TypeId}
theorem VD.int_inv {k:IntKind} {n:Int} {v:Value} (h:VD c (.int k) n v):v=.int k n:=by
 have:=h.2 rfl;simp_all [dM]
theorem VD.bool_inv {b:Bool} {v:Value} (h:VD c .bool b v):v=.bool b:=by
 have:=h.2 rfl;simp_all [dM]
theorem VD.str_inv {s:List UInt8} {v:Value} (h:VD c .str s v):v=.string ⟨s.toArray⟩:=by
 have:=h.2 rfl;simp_all [dM]
theorem VD.int_mk {k:IntKind} {n:Int}:VD c (.int k) n (.int k n):=(VD.leaf rfl).2 rfl
theorem VD.bool_mk {b:Bool}:VD c .bool b (.bool b):=(VD.leaf rfl).2 rfl
theorem VD.str_mk {s:List UInt8}:VD c .str s (.string ⟨s.toArray⟩):=(VD.leaf rfl).2 rfl
theorem BX (hT:TOk P T) (h:T.isStr t=true):P.underlying t=a6 .string:=by
 unfold TT.isStr at h;split at h
 .rename_i e;exact hT.str h e
 .cases h
theorem kC (hT:TOk P T) {n:Nat} (h:T.rowOf t n=true): ∃e,P.underlying t=a6 (.slice e)/\(T.at e).known=true/\(T.at e).size=n/\0<n/\(T.at t).k=.slice e/\0<(T.at e).bytes:=by
 unfold TT.rowOf at h;split at h
 .rename_i e d
  simp only[af,beq_iff_eq,Ky,decide_eq_true_eq]at h;exact⟨e,hT.slice h.1 d,h.2.1,h.2.2.1,h.2.2.2.1,d,h.2.2.2.2⟩
 .cases h
theorem _root_.Go.Proofs.YtlhpdcadgbjhiaaGreatDoor.TOk.isPtr (hT:TOk P T) (h:T.isPtr t=true): ∃e,P.underlying t=a6 (.pointer e):=by
 unfold TT.isPtr at h;split at h
 .rename_i e hk;exact⟨e,hT.ptr h hk⟩
 .cases h
theorem _root_.Go.Proofs.YtlhpdcadgbjhiaaGreatDoor.TOk.isBytes (hT:TOk P T) (h:T.isBytes t=true):P.underlying t=a6 (.pointer lu)/\P.cellsOf lu=1:=by
 unfold TT.isBytes at h;split at h
 .rename_i e hk
  simp only[af]at h;obtain⟨g,d,f⟩:=h;split at f
  .rename_i j
   have:=hT.byte d j;subst this;refine⟨hT.ptr g hk, ?_⟩;obtain⟨i,z,l,o,_⟩:=hT.info d;simp_all [Program.cellsOf]
  .cases f
 .cases h
theorem GM (hT:TOk P T) (hk:(T.at t).known=true) (w:World) (cs:Array Value) (off:Nat) (h:off+(T.at t).size<=cs.size):
  (part t cs off).run P w=.ok (valOf (T.at t).isAgg ((cs.toList.drop off).take (T.at t).size)) w:=by
 have d:=hT.isAgg hk w;have f:=hT.sizeOf hk w;simp only[part,Sem.run_bind,d,Result.andThen_ok];cases e:(T.at t).isAgg
 .have g:(T.at t).size=1:=by
   rcases hT.one hk with h|h
   all_goals simp_all
  have i:off<cs.size:=by omega
  simp_all [aF,valOf]
 .simp only[if_true,Sem.run_bind,f,Result.andThen_ok,Sem.run_pure,valOf];congr 2
  grind
theorem yE (hT:TOk P T): ∀(n:Nat) (t:TypeId),T.eqOk n t=true-> ∀(y:Ty),(T.at t).ty=a6 y-> ∀(x j:y.den) (l o:List Value),dM c.w c.free y x l->dM c.w c.free y j o->
  ∀(w:World) (d:Nat),n<=d->(Op.equalIn d t (valOf (T.at t).isAgg l) (valOf (T.at t).isAgg o)).run P w=.ok (y.same x j) w
 |0,_,h,_,_,_,_,_,_,_,_,_,_,_=>by simp[TT.eqOk]at h
 |n+1,t,h,y,A,x,j,l,o,X,Y,w,d,hd=>by
  obtain⟨d,rfl⟩: ∃e,d=e+1:=⟨d-1,by omega⟩;simp only[TT.eqOk,af]at h;obtain⟨hk,h⟩:=h;have i:(T.at t).ty=jU T (T.at t).k:=by
   rcases(hT t hk).2.2.1 with g|g
   all_goals simp_all
  cases hkk:(T.at t).k with
  |bool=>
   rw[A,hkk]at i;simp only[jU,Option.some.injEq]at i;subst i;obtain⟨Z,p,s⟩:=hT.und hk;rw[hkk]at s;cases Z<;>simp[jE]at s;simp_all [dM,TI.isAgg,valOf,run_equalIn_bool,Ty.same]
  |int k=>
   rw[A,hkk]at i;simp only[jU,Option.some.injEq]at i;subst i;have p:=hT.int hk hkk;simp_all [dM,TI.isAgg,valOf,run_equalIn_int,Ty.same]
  |str=>
   rw[A,hkk]at i;simp only[jU,Option.some.injEq]at i;subst i;have p:=hT.str hk hkk;simp_all [dM,TI.isAgg,valOf,run_equalIn_string,Ty.same]
  |struct fs=>
   rw[hkk]at h;simp only[af]at h;obtain⟨L,M⟩:=h;have N:(T.at t).isAgg=true:=by simp[TI.isAgg,hkk]
   rw[A,hkk]at i;simp only[jU]at i;obtain⟨I,p,s⟩:=hT.struct hk hkk;obtain⟨_,O,J⟩:=(hT t hk).2.2.2.2.2.1 L;rw[p]at J;simp only[Option.map_some,Option.some.injEq]at J;have K:P.fieldsOf t=I:=by simp[Program.fieldsOf,p]
   simp only[valOf,N,if_true];rw[run_equalIn_struct w d t _ _ (by rw[K];exact p) O,K];clear K O p A;rw[<-s]at i M;generalize I.toList=q at*;clear s I hkk L N hk;have ab: ∀(q:List Field) (u:Nat) (y:Ty) (x j:y.den) (l o v z:List Value),iV T u (q.map fun f=>(f.offset,f.type))=a6 y->(q.map fun f=>(f.offset,f.type)).all (fun f=>T.eqOk n f.2)=true->
     (q.all fun f=>f.name != "_")=true->dM c.w c.free y x l->dM c.w c.free y j o->v.length=u->z.length=u->
     (Op.eqFields d (v++l).toArray (z++o).toArray q).run P w=.ok (y.same x j) w:=by
    intro q
    induction q with
    |nil=>
     intro u y x j l o v z g _ _ B D _ _;simp only[List.map_nil,iV,Option.some.injEq]at g;subst g;rfl
    |cons f q ih=>
     intro u y x j l o v z g B D h4 h5 h6 h7;simp only[au,iV]at g;split at g
     .rename_i ad
      split at g
      .rename_i a ha
       split at g
       .rename_i S
        split at g
        .rename_i b hb
         cases g;simp only[au,List.all_cons,af]at B D;obtain⟨E,U,p,s,e3⟩:=h4;obtain⟨G,V,e4,W,e6⟩:=h5;subst p;subst e4;have ae:=dM.length _ _ _ s;have ah:=dM.length _ _ _ W;have n1:(f.name≠ "_"):=by simpa using D.1
         have p1:(part f.type (v++(E++U)).toArray f.offset).run P w=.ok (valOf (T.at f.type).isAgg E) w:=by
          rw[GM hT S.2 w _ _ (by simp;omega)];simp_all
         have p2:(part f.type (z++(G++V)).toArray f.offset).run P w=.ok (valOf (T.at f.type).isAgg G) w:=by
          rw[GM hT S.2 w _ _ (by simp;omega)];simp_all
         have p3:=yE hT n f.type B.1 a ha x.1 j.1 E G s W w d (by omega);simp only[Op.eqFields,am n1,Sem.run_bind,p1,p2,p3,Result.andThen_ok,Ty.same];cases a.same x.1 j.1
         .simp
         .simp only[ax,ag,if_false,aK];have:=ih (u+a.size) b x.2 j.2 U V (v++E) (z++G) hb B.2 D.2 e3 e6 (by simp;omega) (by simp;omega);simpa using this
        .cases g
       .cases g
      .cases g
     .cases g
   have:=ab q 0 y x j l o [] [] i.symm M J X Y rfl rfl;simpa using this
  |_=>simp_all
theorem VU (w:World) (d:BinOp) (a b:List UInt8) (h:d=.eql\/d=.neq\/d=.lss\/d=.leq\/d=.gtr\/d=.geq):
  ∃u,bu c (SA d a b) u/\ ∀w,(Op.stringOp d ⟨a.toArray⟩ ⟨b.toArray⟩).run P w=.ok u w:=by
 rcases h with rfl|rfl|rfl|rfl|rfl|rfl<;>
  exact⟨_,by simp only[SA,bu];exact VD.bool_mk,fun w=>by simp[Op.stringOp,iG,Gx]⟩
theorem jH (d:BinOp) (t:TypeId) (ox oy:Operand) (x y:Value) (w:World) (h:x.oneCell'=true) (h2:x≠ .nilIface):(eqGuard d t ox oy x y).run P w=.ok () w:=by
 unfold eqGuard;cases x<;>first
  |(simp[Value.oneCell']at h;done)
  |exact absurd rfl h2
  |(cases d<;>simp)
theorem BM {y:Ty} {v:bn} {x:y.den} (h:v.as [] y=a6 x) (d:y.isAgg=true) {u:Value} (f:bu c v u): ∃cs,u=.agg cs/\dM c.w c.free y x cs.toList:=by
 cases v with
 |val t' z=>
  grind [bn.as,kK,bu,VD.agg]
 |nils=>cases y<;>simp_all [bn.as,Ty.isAgg]
 |emp=>cases y<;>simp_all [bn.as,Ty.isAgg]
 |lst t' z b=>
  simp only[bn.as]at h;obtain⟨e,_⟩:=kK h;subst e;cases d
 |slc id ver j=>cases y<;>simp_all [bn.as,Ty.isAgg]
 |agg l=>
  simp only[bn.as,d,aa]at h;simp only[bu]at f;obtain⟨g,rfl,i,_⟩:=f;exact⟨g,rfl,lZ h i⟩
 |_=>simp[bn.as]at h
theorem atw (hT:TOk P T) {f:BinOp} {ox oy:Operand} {x y:bn} {D E:Value} {K:bn->Option R} (h:WR T f t x y K=a6 r) (hx:bu c x D) (i:bu c y E):
  ∃z u,K z=a6 r/\bu c z u/\ ∀w,(do eqGuard f t ox oy D E;binOp f t D E:Sem Value).run P w=.ok u w:=by
 unfold WR at h;split at h
 .
  rename_i k a U b
  simp only[bu]at hx i;obtain rfl:=hx.int_inv;obtain rfl:=i.int_inv;split at h
  .rename_i hk
   subst hk;have l: ∀w,(eqGuard f t ox oy (.int k a) (.int k b)).run P w=.ok () w:=fun w=>jH f t ox oy _ _ w rfl (by simp);cases f<;>simp only[reduceCtorEq]at h
   case quo=>
    replace h:=eu h;obtain⟨g,h⟩:=h;have g:b≠0:=by simpa [bC] using g
    exact⟨_,_,h,by simp only[bu];exact VD.int_mk,fun w=>by simp_all [binOp,Op.intDiv,asy]⟩
   case rem=>
    replace h:=eu h;obtain⟨g,h⟩:=h;have g:b≠0:=by simpa [bC] using g
    exact⟨_,_,h,by simp only[bu];exact VD.int_mk,fun w=>by simp_all [binOp,Op.intDiv]⟩
   case add=>exact⟨_,_,h,by simp only[wz,bu];exact VD.int_mk,fun w=>by simp_all [binOp,Op.intArith,bV]⟩
   case sub=>exact⟨_,_,h,by simp only[wz,bu];exact VD.int_mk,fun w=>by simp_all [binOp,Op.intArith,eY]⟩
   case mul=>exact⟨_,_,h,by simp only[wz,bu];exact VD.int_mk,fun w=>by simp_all [binOp,Op.intArith,afq]⟩
   case eql=>exact⟨_,_,h,by simp only[wz,bu];exact VD.bool_mk,fun w=>by simp_all [binOp,Op.intCmp,bC]⟩
   case neq=>exact⟨_,_,h,by simp only[wz,bu];exact VD.bool_mk,fun w=>by simp_all [binOp,Op.intCmp,bC,bne]⟩
   case lss=>exact⟨_,_,h,by simp only[wz,bu];exact VD.bool_mk,fun w=>by simp_all [binOp,Op.intCmp,gY]⟩
   case leq=>exact⟨_,_,h,by simp only[wz,bu];exact VD.bool_mk,fun w=>by simp_all [binOp,Op.intCmp,leI]⟩
   case gtr=>exact⟨_,_,h,by simp only[wz,bu];exact VD.bool_mk,fun w=>by simp_all [binOp,Op.intCmp,gY]⟩
   case geq=>exact⟨_,_,h,by simp only[wz,bu];exact VD.bool_mk,fun w=>by simp_all [binOp,Op.intCmp,leI]⟩
   case and=>exact⟨_,_,h,by simp only[bu];exact VD.int_mk,fun w=>by simp_all [binOp,Op.intBits,agS]⟩
   case or=>exact⟨_,_,h,by simp only[bu];exact VD.int_mk,fun w=>by simp_all [binOp,Op.intBits,agS]⟩
   case xor=>exact⟨_,_,h,by simp only[bu];exact VD.int_mk,fun w=>by simp_all [binOp,Op.intBits,agS]⟩
   case andNot=>exact⟨_,_,h,by simp only[bu];exact VD.int_mk,fun w=>by simp_all [binOp,Op.intBits,agS]⟩
   case shl=>
    obtain⟨g,h⟩:=eu h;have g: ¬b<0:=by simpa [leI] using g
    exact⟨_,_,h,by simp only[bu];exact VD.int_mk,fun w=>by simp[Sem.run_bind,l,binOp,Op.shift,g,anZ]⟩
   case shr=>
    obtain⟨g,h⟩:=eu h;have g: ¬b<0:=by simpa [leI] using g
    exact⟨_,_,h,by simp only[bu];exact VD.int_mk,fun w=>by simp[Sem.run_bind,l,binOp,Op.shift,g,OJ]⟩
  .have l: ∀w,(eqGuard f t ox oy (.int k a) (.int U b)).run P w=.ok () w:=fun w=>jH f t ox oy _ _ w rfl (by simp);split at h
   .obtain⟨g,h⟩:=eu h;have g: ¬b<0:=by simpa [leI] using g
    exact⟨_,_,h,by simp only[bu];exact VD.int_mk,fun w=>by simp[Sem.run_bind,l,binOp,Op.shift,g,anZ]⟩
   .obtain⟨g,h⟩:=eu h;have g: ¬b<0:=by simpa [leI] using g
    exact⟨_,_,h,by simp only[bu];exact VD.int_mk,fun w=>by simp[Sem.run_bind,l,binOp,Op.shift,g,OJ]⟩
   .cases h
 .
  rename_i a b
  simp only[bu]at hx i;obtain rfl:=hx.bool_inv;obtain rfl:=i.bool_inv;replace h:=bK h;obtain⟨hk,h⟩:=h;have l: ∀w,(eqGuard f t ox oy (.bool a) (.bool b)).run P w=.ok () w:=fun w=>jH f t ox oy _ _ w rfl (by simp);have v:(T.at t).k=.bool->P.underlying t=a6 .bool:=fun e=>by
   obtain⟨d,o,p⟩:=hT.und hk;rw[e]at p;cases d<;>simp[jE]at p;exact o
  split at h
  .rename_i e
   have o:=v e;exact⟨_,_,h,by simp only[bu];exact VD.bool_mk,fun w=>by simp_all [binOp,Op.equal,Op.maxDepth,run_equalIn_bool]⟩
  .rename_i e
   have o:=v e;exact⟨_,_,h,by simp only[bu];exact VD.bool_mk,fun w=>by simp_all [binOp,Op.equal,Op.maxDepth,run_equalIn_bool]⟩
  .cases h
 .
  rename_i a b
  simp only[bu]at hx i;obtain rfl:=hx.str_inv;obtain rfl:=i.str_inv;have l: ∀w,(eqGuard f t ox oy (.string ⟨a.toArray⟩) (.string ⟨b.toArray⟩)).run P w=.ok () w:=fun w=>jH f t ox oy _ _ w rfl (by simp);have A:binOp f t (.string ⟨a.toArray⟩) (.string ⟨b.toArray⟩)=Op.stringOp f ⟨a.toArray⟩ ⟨b.toArray⟩:=by cases f<;>rfl
  have Y:(f=.eql\/f=.neq\/f=.lss\/f=.leq\/f=.gtr\/f=.geq)->K (SA f a b)=a6 r->
    ∃z u,K z=a6 r/\bu c z u/\ ∀w,(do eqGuard f t ox oy (.string ⟨a.toArray⟩) (.string ⟨b.toArray⟩);binOp f t (.string ⟨a.toArray⟩) (.string ⟨b.toArray⟩):Sem Value).run P w=.ok u w:=fun V Z=>by
   obtain⟨u,g,N⟩:=VU (P:=P) (c:=c) default f a b V
   grind [Sem.run_bind,Result.andThen_ok]
  cases f<;>simp only[reduceCtorEq]at h
  case add=>
   replace h:=eu h;obtain⟨g,h⟩:=h;refine⟨_,_,h,by simp only[bu];exact VD.str_mk,fun w=> ?_⟩;have g:a.length+b.length<=mW:=by simpa using g
   have N: ¬((a.length:Int)+(b.length:Int)>IntKind.i64.max):=by
    grind [IntKind.max,IntKind.bits,mW]
   have o:(⟨a.toArray⟩:ByteArray)++⟨b.toArray⟩=⟨(a++b).toArray⟩:=by
    rfl
   simp_all [ByteArray.size,Op.stringOp]
  all_goals simp_all
 .
  rename_i e xs b
  simp only[bu]at hx i;obtain⟨ab,s,n,m,rfl,rfl⟩:=hx;subst i;replace h:=bK h;obtain⟨hk,h⟩:=h;have l: ∀w,(eqGuard f t ox oy (.slice s n m) (.slice a7 0 0)).run P w=.ok () w:=fun w=>jH f t ox oy _ _ w rfl (by simp);have v: ∀j,(T.at t).k=.slice j->P.underlying t=a6 (.slice j):=fun j e=>by
   obtain⟨d,o,p⟩:=hT.und hk;rw[e]at p;cases d<;>simp[jE]at p;rw[o,p]
  have q: ∀j,(T.at t).k=.slice j-> ∀w,(Op.equal t (.slice s n m) (.slice a7 0 0)).run P w=.ok s.isNone w:=fun j e w=>by
   have o:=v j e;show(Op.equalIn (9999+1) t (.slice s n m) (.slice a7 0 0)).run P w=_;unfold Op.equalIn;rw[Sem.run_bind,run_underlying o,Result.andThen_ok];cases s<;>rfl
  split at h
  .rename_i j e
   exact⟨_,_,h,by simp only[bu];exact VD.bool_mk,fun w=>by simp_all [binOp]⟩
  .rename_i j e
   exact⟨_,_,h,by simp only[bu];exact VD.bool_mk,fun w=>by simp_all [binOp]⟩
  .cases h
 .
  rename_i h0 g N O
  cases q:T.eqOk 6 t
  .simp_all
  rw[q]at h;simp only[ax,ac]at h;split at h
  .rename_i fs G S I
   have W:(T.at t).isAgg=true:=by simp[TI.isAgg,S]
   have hk:(T.at t).known=true:=by simp_all [TT.eqOk]
   have B:G.isAgg=true:=by rw[hT.ty_agg hk I,W]
   have ad:P.eqGuardType P.depth t=false:=by
    simp only[TT.eqOk,af,S]at q;exact((hT t hk).2.2.2.2.2.1 q.2.1).1
   split at h
   .rename_i a b J A
    obtain⟨cs,rfl,L⟩:=BM J B hx;obtain⟨X,rfl,M⟩:=BM A B i;refine⟨_,_,h,by simp only[bu];exact VD.bool_mk,fun w=> ?_⟩;have O:=yE (P:=P) hT 6 t q G I a b _ _ L M w 10000 (by omega);simp_all [valOf,run_eqGuard_agg,run_eql_struct]
   .rename_i a b J A
    obtain⟨cs,rfl,L⟩:=BM J B hx;obtain⟨X,rfl,M⟩:=BM A B i;refine⟨_,_,h,by simp only[bu];exact VD.bool_mk,fun w=> ?_⟩;have O:=yE (P:=P) hT 6 t q G I a b _ _ L M w 10000 (by omega);simp_all [valOf,run_eqGuard_agg,run_neq_struct]
   .cases h
  .cases h
theorem aj7 {W0:World} (hT:TOk P T) (J:c.Ok W0) {i:BinOp} {ox oy:Operand} {x y:bn} {p q:Value} {K:bn->Option R} (h:MQ T c.hp i t x y K=a6 r) (hx:bu c x p) (l:bu c y q):
  ∃z u,K z=a6 r/\bu c z u/\ ∀w,(do eqGuard i t ox oy p q;binOp i t p q:Sem Value).run P w=.ok u w:=by
 unfold MQ at h;rw[cond_eq_ite]at h;split at h
 .rename_i f
  unfold akx at f;split at f
  .split at f
   .split at f
    .rename_i id W L M N e v X D
     simp only[af,beq_iff_eq,Ky,decide_eq_true_eq]at f;obtain⟨rfl,Y⟩:=f;simp only[bu]at hx l;subst l;have O:=(hx.2.2 _ _ _ D).2 rfl;obtain⟨_,Z,zs,S,_,_⟩:=J.obj id _ D;obtain⟨s,n,m,rfl⟩: ∃a n m,p=.slice (a6 a) n m:=by
      rcases S.2 with ⟨_,h0⟩|⟨g,ab,ad,E,_⟩
      .omega
      .cases L with
       |none=>simp_all [ik]
       |some U=>
        obtain⟨lo,hi⟩:=U;simp only[ik]at O
        grind
     obtain⟨hk,h⟩:=bK h;have G: ∀w,(eqGuard i t ox oy (.slice (a6 s) n m) (.slice a7 0 0)).run P w=.ok () w:=fun w=>jH i t ox oy _ _ w rfl (by simp);have I: ∀j,(T.at t).k=.slice j-> ∀w,(Op.equal t (.slice (a6 s) n m) (.slice a7 0 0)).run P w=.ok false w:=fun j e w=>by
      have o:P.underlying t=a6 (.slice j):=by
       obtain⟨d,o,A⟩:=hT.und hk;rw[e]at A;cases d<;>simp[jE]at A;rw[o,A]
      show(Op.equalIn (9999+1) t (.slice (a6 s) n m) (.slice a7 0 0)).run P w=_;unfold Op.equalIn;rw[Sem.run_bind,run_underlying o,Result.andThen_ok];rfl
     split at h
     .exact⟨_,_,h,by simp only[bu];exact VD.bool_mk,fun w=>by simp_all [binOp]⟩
     .exact⟨_,_,h,by simp only[bu];exact VD.bool_mk,fun w=>by simp_all [binOp]⟩
     .cases h
    .cases f
   .cases f
  .cases f
 .rw[cond_eq_ite]at h;split at h
  .rename_i f
   unfold aj3 at f;split at f
   .split at f
    .split at f
     .rename_i id B y0 M N bt cs V
      simp only[bu]at hx l;subst l;have E:=hx.2.2 _ _ V;subst E;obtain⟨hk,h⟩:=bK h;have G: ∀w,(eqGuard i t ox oy (.pointer (a6 ⟨(c.mu id).blk,B,a7⟩)) (.pointer a7)).run P w=.ok () w:=fun w=>jH i t ox oy _ _ w rfl (by simp);have I: ∀j,(T.at t).k=.ptr j-> ∀w,(Op.equal t (.pointer (a6 ⟨(c.mu id).blk,B,a7⟩)) (.pointer a7)).run P w=.ok false w:=fun j e w=>by
       have o:=hT.ptr hk e;show(Op.equalIn (9999+1) t (.pointer (a6 ⟨(c.mu id).blk,B,a7⟩)) (.pointer a7)).run P w=_;unfold Op.equalIn;simp_all [run_underlying]
      split at h
      .exact⟨_,_,h,by simp only[bu];exact VD.bool_mk,fun w=>by simp_all [binOp]⟩
      .exact⟨_,_,h,by simp only[bu];exact VD.bool_mk,fun w=>by simp_all [binOp]⟩
      .cases h
     .cases f
    .cases f
   .cases f
  .rw[cond_eq_ite]at h;split at h
   .rename_i f
    unfold ajB at f;split at f
    .split at f
     .simp only[bu]at hx l;subst hx;subst l;obtain⟨hk,h⟩:=bK h;have G: ∀w,(eqGuard i t ox oy (.pointer a7) (.pointer a7)).run P w=.ok () w:=fun w=>jH i t ox oy _ _ w rfl (by simp);have I: ∀j,(T.at t).k=.ptr j-> ∀w,(Op.equal t (.pointer a7) (.pointer a7)).run P w=.ok true w:=fun j e w=>by
       have o:=hT.ptr hk e;show(Op.equalIn (9999+1) t (.pointer a7) (.pointer a7)).run P w=_;unfold Op.equalIn;simp_all [run_underlying]
      split at h
      .exact⟨_,_,h,by simp only[bu];exact VD.bool_mk,fun w=>by simp_all [binOp]⟩
      .exact⟨_,_,h,by simp only[bu];exact VD.bool_mk,fun w=>by simp_all [binOp]⟩
      .cases h
     .cases f
    .cases f
   .exact atw hT h hx l
theorem atx {d:UnOp} {x:bn} {v:Value} {K:bn->Option R} (h:ahS d x K=a6 r) (hx:bu c x v):
  ∃z u,K z=a6 r/\bu c z u/\ ∀w,(Op.unary d v).run P w=.ok u w:=by
 unfold ahS at h;split at h
 .simp only[bu]at hx;obtain rfl:=hx.bool_inv;exact⟨_,_,h,by simp only[bu];exact VD.bool_mk,fun w=>rfl⟩
 .simp only[bu]at hx;obtain rfl:=hx.int_inv;exact⟨_,_,h,by simp only[bu];exact VD.int_mk,fun w=>by rfl⟩
 .cases h
end
end
section
open Option renaming some → a6, none → a7
open Bool renaming and_eq_true → af, false_eq_true → ag
open Nat renaming le_refl → ae
open Go.RowKit
section
variable {P:Program} {T:TT} {W0:World} {c:Cx} {R:Type} {r:R} {t:TypeId}
theorem pI {v:bn} {n:Int} (h:intOf v=a6 n) {u:Value} (d:bu c v u): ∃k,u=.int k n:=by
 cases v with
 |val t x=>
  cases t<;>simp only[intOf,reduceCtorEq]at h;cases h;simp only[bu]at d;exact⟨_,d.int_inv⟩
 |_=>simp[intOf]at h
def jZ (c:Cx):Option bn->Option Value->Prop
 |none,a7=>True
 |some v,a6 u=>bu c v u
 |_,_=>False
theorem jZ.map {fr:List bn} {a:Act} (h:bg c fr a.tmps.toList) (x:Option Operand):jZ c (x.map (fG fr)) (x.map a.eval):=by
 cases x with
 |none=>trivial
 |some x=>exact dh h x
theorem jZ.none_inv {u:Option Value} (h:jZ c a7 u):u=a7:=by
 cases u with
 |none=>rfl
 |some _=>exact h.elim
theorem lS {d l:Int} {x:Option bn} {u:Option Value} (h:bound d x=a6 l) (hr:jZ c x u):(u=a7/\l=d)\/ ∃k,u=a6 (.int k l):=by
 cases x with
 |none=>
  cases u with
  |none=>simp only[bound,Option.some.injEq]at h;simp_all
  |some _=>exact hr.elim
 |some x=>
  cases u with
  |none=>exact hr.elim
  |some u=>
   obtain⟨k,rfl⟩:=pI h hr;simp
theorem nH {w:World} {isS:Bool} {n cap:Nat} {l h:Int} {lo hi:Option Value} (hl:(lo=a7/\l=0)\/ ∃k,lo=a6 (.int k l)) (d:(hi=a7/\h=(n:Int))\/ ∃k,hi=a6 (.int k h))
  (g:0<=l) (i:l<=h) (h2:h<=(n:Int)) (j:n<=cap):(Instr.sliceBounds isS n cap lo hi a7).run P w=.ok (l.toNat,h.toNat,cap) w:=by
 have e: ∀k code,(Instr.sliceBound (.int k h) cap code).run P w=.ok h.toNat w:=fun k code=>by
  simp only[Instr.sliceBound,asIntOf,Sem.run_bind,Sem.run_pure,Result.andThen_ok];rw[am ⟨by omega,by omega⟩];rfl
 have f: ∀k code,(Instr.sliceBound (.int k l) h.toNat code).run P w=.ok l.toNat w:=fun k code=>by
  simp only[Instr.sliceBound,asIntOf,Sem.run_bind,Sem.run_pure,Result.andThen_ok];rw[am ⟨by omega,by omega⟩];rfl
 rcases hl with ⟨rfl,rfl⟩|⟨k,rfl⟩<;>rcases d with ⟨rfl,rfl⟩|⟨o,rfl⟩<;>simp[Instr.sliceBounds,Sem.run_bind,e,f]
 simp_all
theorem IU {w:World} {n cap:Nat} {lo:Option Value} {q k:IntKind} (hl:(lo=a7/\(0:Int)=0)\/ ∃k,lo=a6 (.int k 0)):
  (Instr.sliceBounds true n cap lo (a6 (.int q 0)) (a6 (.int k 0))).run P w=.ok (0,0,0) w:=by
 have d: ∀k c code,(Instr.sliceBound (.int k 0) c code).run P w=.ok 0 w:=fun k c code=>by
  rfl
 rcases hl with ⟨rfl,_⟩|⟨e,rfl⟩<;>simp[Instr.sliceBounds,Sem.run_bind,d]
theorem EC {n lo hi:Int} (h:gy n lo hi=true):0<=lo/\lo<=hi/\hi<=n:=by
 simp_all [gy]
theorem EN {d:Type} (l:List d) {lo hi:Int} (e:0<=lo) (h2:lo<=hi) (f:hi<=(l.length:Int)):(sub l lo hi).length=hi.toNat-lo.toNat:=by
 grind [sub]
theorem oH {e:Ty} {xs:List e.den} {v:Value} (h:VD c (.list e) xs v): ∃a n d,v=.slice a xs.length n/\xs.length<=n/\dX (dM c.w c.free e) e.size xs d/\(d=[]\/ ∃b off,a=a6 ⟨b,off,a7⟩/\c.free b/\fE c.w b off d):=by
 obtain⟨a,n,d,f,g,i,j⟩:=h.2 rfl
 grind
theorem VD.sub_list {e:Ty} {xs:List e.den} {a:Option Addr} {n:Nat} {d:List Value} (h2:xs.length<=n) (g:dX (dM c.w c.free e) e.size xs d) (f:d=[]\/ ∃b off,a=a6 ⟨b,off,a7⟩/\c.free b/\fE c.w b off d)
  {l h:Int} (i:0<=l) (j:l<=h) (o:h<=(xs.length:Int)):
  VD c (.list e) (sub xs l h) (.slice (if n=l.toNat then a else a.map (·.add (l.toNat*e.size))) (h.toNat-l.toNat) (n-l.toNat)):=by
 refine(VD.leaf rfl).2 ⟨_,_,(d.take (h.toNat*e.size)).drop (l.toNat*e.size),by rw[EN xs i j o],by grind [EN],dX.drop _ _ _ (dX.take _ _ _ g), ?_⟩;by_cases hn:n=l.toNat
 .grind
 .rw[aq hn];rcases f with f|⟨b,off,p,q,s⟩
  .left;rw[f];simp
  .right;refine⟨b,off+l.toNat*e.size,by rw[p];simp[jm],q, ?_⟩;have:=s.sub (l.toNat*e.size) (h.toNat*e.size-l.toNat*e.size)
   grind [List.drop_take]
theorem ac2 (hT:TOk P T) (ab:c.Ok W0) {x:bn} {v:Value} {lo hi X:Option bn} {Y N y:Option Value} {K:bn->Option R} (h:FI T c.hp t x lo hi X K=a6 r) (hx:bu c x v)
  (I:jZ c lo Y) (E:jZ c hi N) (G:jZ c X y): ∃z u,K z=a6 r/\bu c z u/\ ∀w,(Instr.sliceAt t v Y N y).run P w=.ok u w:=by
 unfold FI at h;split at h
 .rename_i s
  split at h
  .rename_i l p hl f
   replace h:=eu h;obtain⟨d,h⟩:=h;simp only[af]at d;obtain⟨A,B,i⟩:=EC d.2;simp only[bu]at hx;obtain rfl:=hx.str_inv;have D:y=a7:=jZ.none_inv G;subst D;have j:=BX hT d.1;refine⟨_,.string ⟨(sub s l p).toArray⟩,h,by simp only[bu];exact VD.str_mk,fun w=> ?_⟩;have hs:(⟨s.toArray⟩:ByteArray).size=s.length:=by rfl
   have o:=nH (P:=P) (w:=w) (isS:=false) (cap:=s.length) (lS hl I) (lS f E) A B i (ae _);have he:(⟨s.toArray⟩:ByteArray).extract l.toNat p.toNat=⟨(sub s l p).toArray⟩:=by
    apply ByteArray.ext;simp_all [sub,List.drop_take]
   simp only[Instr.sliceAt,Instr.slice,Sem.run_bind,run_underlying j,Result.andThen_ok,Option.isSome_none,ag,if_false,hs,o,Sem.run_pure,he]
  .cases h
 .rename_i e xs
  split at h
  .rename_i l p hl f
   replace h:=eu h;obtain⟨d,h⟩:=h;simp only[af]at d;obtain⟨A,B,i⟩:=EC d.2;simp only[bi]at i;simp only[bu]at hx;obtain⟨a,n,Z,rfl,O,h3,h4⟩:=oH hx;have D:y=a7:=jZ.none_inv G;subst D;obtain⟨S,j,hk,L,_,_⟩:=kC hT d.1;refine⟨_,_,h,by simp only[bu];exact VD.sub_list O h3 h4 A B i,fun w=> ?_⟩;have o:=nH (P:=P) (w:=w) (isS:=true) (n:=xs.length) (cap:=n) (lS hl I) (lS f E) A B i O;simp only[Instr.sliceAt,Instr.slice,Sem.run_bind,run_underlying j,Result.andThen_ok,o,hT.sizeOf hk w,Sem.run_pure,L]
  .cases h
 .rename_i e xs mv
  split at h
  .rename_i l p k hl f ad
   replace h:=eu h;obtain⟨d,h⟩:=h;simp only[af,beq_iff_eq]at d;obtain⟨d,rfl,rfl,rfl⟩:=d;simp only[bu]at hx;obtain⟨a,n,Z,rfl,O,h3,h4⟩:=oH hx;obtain⟨S,j,hk,L,_,_⟩:=kC hT d;obtain⟨M,rfl,ah⟩:=Option.bind_eq_some_iff.1 f;cases hmx':y with
   |none=>simp_all [jZ]
   |some m2=>
    rw[hmx']at G;cases hhi':N with
    |none=>simp_all [jZ]
    |some ai=>
     rw[hhi']at E;obtain⟨q,rfl⟩:=pI ah (show bu c M ai from E);obtain⟨k',rfl⟩:=pI ad (show bu c mv m2 from G);refine⟨_,.slice a 0 0,h,by simp only[bu];exact⟨a,rfl⟩,fun w=> ?_⟩;have o:=IU (P:=P) (w:=w) (n:=xs.length) (cap:=n) (q:=q) (k:=k') (lS hl I);simp only[Instr.sliceAt,Instr.slice,Sem.run_bind,run_underlying j,Result.andThen_ok,o,hT.sizeOf hk w,Sem.run_pure];simp
  .cases h
 .split at h
  .rename_i l p hl f
   replace h:=eu h;obtain⟨d,h⟩:=h;simp only[af,bC,beq_iff_eq]at d;obtain⟨d,rfl,rfl⟩:=d;simp only[bu]at hx;subst hx;have D:y=a7:=jZ.none_inv G;subst D;obtain⟨S,j,hk,L,_,_⟩:=kC hT d;refine⟨_,.slice a7 0 0,h,by simp only[bu],fun w=> ?_⟩;have o:=nH (P:=P) (w:=w) (isS:=true) (n:=0) (cap:=0) (lS hl I) (lS f E) (Int.le_refl _) (Int.le_refl _) (Int.le_refl _) (ae _);simp only[Instr.sliceAt,Instr.slice,Sem.run_bind,run_underlying j,Result.andThen_ok,o,hT.sizeOf hk w,Sem.run_pure];simp
  .cases h
 .rename_i id aj
  split at h
  .rename_i e u xs U
   replace h:=bK h;obtain⟨V,h⟩:=h;have V:u=aj:=by simpa using V
   subst V;split at h
   .rename_i l p hl f
    replace h:=eu h;obtain⟨d,h⟩:=h;simp only[af]at d;obtain⟨A,B,i⟩:=EC d.2;simp only[bi]at i;simp only[bu]at hx;have W:=(hx.2.2 _ _ _ U).2 rfl;simp only[ik]at W;have D:y=a7:=jZ.none_inv G;subst D;obtain⟨S,j,hk,L,_,_⟩:=kC hT d.1;obtain⟨_,e',Z,ak,hL,al⟩:=ab.obj id _ U;obtain⟨a,n,M,hn⟩: ∃a n,(c.mu id).v=.slice a xs.length n/\xs.length<=n:=by
     rcases ak.2 with ⟨e1,e2⟩|⟨g,J,an,e1,_,_,e2,_⟩
     all_goals grind
    rw[M]at W;subst W;refine⟨_,.slice (if n=l.toNat then a else a.map (·.add (l.toNat*e.size))) (p.toNat-l.toNat) (n-l.toNat),h, ?_,fun w=> ?_⟩
    .simp only[bu];refine⟨rfl,hx.2.1,fun t' u' ao h'=> ?_⟩;rw[U]at h';cases h';exact⟨ae _,fun _=>⟨a,xs.length,n,M,A,B,i,rfl⟩⟩
    .have o:=nH (P:=P) (w:=w) (isS:=true) (n:=xs.length) (cap:=n) (lS hl I) (lS f E) A B i hn;simp only[Instr.sliceAt,Instr.slice,Sem.run_bind,run_underlying j,Result.andThen_ok,o,hT.sizeOf hk w,Sem.run_pure,L]
   .cases h
  .cases h
 .cases h
end
end
section
open Option renaming some → a6, none → a7
open Bool renaming and_eq_true → af
open List renaming append_assoc → ai, map_cons → au, length_cons → aH, nil_append → aO, foldl_cons → aP, drop_of_length_le → aU
open Go.RowKit
section
variable {P:Program} {T:TT} {W0:World} {c:Cx} {R:Type} {r:R} {t:TypeId}
theorem NC {d:Type} {l:List d} {i:Int} (h:gm l i=true):0<=i/\i<(l.length:Int)/\i.toNat<l.length:=by
 simp_all [gm]
theorem amn {e:Type} {l:List e} {d:e} {i:Int} (h:i.toNat<l.length):bT l d i=l[i.toNat]:=by grind [bT]
theorem zt (hT:TOk P T) {e:TypeId} (d:P.underlying t=a6 (.slice e)) (hk:(T.at e).known=true) (w:World) (a:Addr) (n cp:Nat) (k:IntKind) (i:Int) (f:0<=i) (g:i<(n:Int)):
  (Instr.indexAt t (.slice (a6 a) n cp) (.int k i)).run P w=.ok (.pointer (a6 (a.add (i.toNat*(T.at e).size)))) w:=by
 simp only[Instr.indexAt,asIntOf,Sem.run_bind,Sem.run_pure,Result.andThen_ok,run_underlying d];rw[am ⟨f,g⟩];simp[Sem.run_bind,hT.sizeOf hk w]
theorem JY (hT:TOk P T) (O:c.Ok W0) {x i:bn} {v G:Value} {K:bn->Option R} (h:qU T c.hp t x i K=a6 r) (hx:bu c x v) (hi:bu c i G):
  ∃z u,K z=a6 r/\bu c z u/\ ∀w,(Instr.indexAt t v G).run P w=.ok u w:=by
 unfold qU at h;split at h
 .cases h
 rename_i n S
 obtain⟨k,rfl⟩:=pI S hi;split at h
 .rename_i e xs
  replace h:=eu h;obtain⟨f,h⟩:=h;simp only[af]at f;obtain⟨q,s,y⟩:=NC f.2;simp only[bu]at hx;obtain⟨a,cp,A,rfl,h2,U,B⟩:=oH hx;obtain⟨I,l,hk,o,J,_⟩:=kC hT f.1;obtain⟨d,d1,V,l1,l2,d3,d4⟩:=dX.at_ n.toNat xs A y U;have W:A≠[]:=by
   intro e0;simp_all
  rcases B with B|⟨b,X,Y,Z,h7⟩
  .exact absurd B W
  .refine⟨_,.pointer (a6 ⟨b,X+n.toNat*e.size,a7⟩),h, ?_,fun w=> ?_⟩
   .simp only[bu];refine⟨b,_,d,rfl,Z, ?_,by rw[amn y];exact V⟩;simp_all [fE.append]
   .rw[Y,zt hT l hk w _ _ _ _ _ q s,o,jm]
 .rename_i id ab vw
  split at h
  .rename_i e u xs L
   replace h:=bK h;obtain⟨D,h⟩:=h;have D:u=ab:=by simpa using D
   subst D;simp only[bu]at hx;have j:=(hx.2.2 _ _ _ L).2 rfl;obtain⟨_,e',A,M,hL,ah⟩:=O.obj id _ L;split at h
   .replace h:=eu h;obtain⟨f,h⟩:=h;simp only[af]at f;obtain⟨q,s,y⟩:=NC f.2;obtain⟨I,l,hk,o,J,_⟩:=kC hT f.1;simp only[ik]at j;rcases M.2 with ⟨p,E⟩|⟨g,ad,ae,p,_,_,E,_⟩
    .omega
    .rw[p]at j;subst j;refine⟨_,.pointer (a6 ⟨g,n.toNat*e.size,a7⟩),h, ?_,fun w=> ?_⟩
     .simp only[bu];refine⟨rfl,hx.2.1,fun t' u' ag h'=> ?_⟩;simp_all
     .rw[zt hT l hk w _ _ _ _ _ q s,o,jm,Nat.zero_add]
   .rename_i lo aj
    replace h:=eu h;obtain⟨f,h⟩:=h;simp only[af,decide_eq_true_eq,gY]at f;obtain⟨I,l,hk,o,J,_⟩:=kC hT f.1;simp only[ik]at j;obtain⟨a,m,cp,N,q1,q2,q3,j⟩:=j;rcases M.2 with ⟨p,E⟩|⟨g,ad,ae,p,_,_,E,_⟩
    .grind
    .rw[p]at N;cases N;rw[aq (by omega)]at j;subst j;refine⟨_,.pointer (a6 ⟨g,(lo+n).toNat*e.size,a7⟩),h, ?_,fun w=> ?_⟩
     .simp only[bu];refine⟨rfl,hx.2.1,fun t' u' ag h'=> ?_⟩;simp_all
     .simp only[Option.map_some];rw[zt hT l hk w _ _ _ _ _ f.2.1 (by omega),o,jm,jm,Nat.zero_add,<-Nat.add_mul]
      grind
  .cases h
 .cases h
theorem ac1 (hT:TOk P T) {i:bn} {s:List UInt8} {n:Int} {v d:Value} (hx:bu c (.val .str s) v) (hi:bu c i d) (e:intOf i=a6 n) (h:(T.isStr t&&gm s n)=true):
  bu c (.val (.int .u8) (bU s n)) (.int .u8 (bU s n))/\ ∀w,(Instr.index t v d).run P w=.ok (.int .u8 (bU s n)) w:=by
 simp only[af]at h;obtain⟨f,l,o⟩:=NC h.2;simp only[bu]at hx;obtain rfl:=hx.str_inv;obtain⟨k,rfl⟩:=pI e hi;have g:=BX hT h.1;refine⟨by simp only[bu];exact VD.int_mk,fun w=> ?_⟩;have j:(⟨s.toArray⟩:ByteArray)[n.toNat]? =a6 s[n.toNat]:=by
  have:n.toNat<(⟨s.toArray⟩:ByteArray).size:=by assumption
  rw[getElem?_pos (⟨s.toArray⟩:ByteArray) n.toNat this];rfl
 simp only[Instr.index,asIntOf,Sem.run_bind,Sem.run_pure,Result.andThen_ok,run_underlying g,am f,j]
 grind [bU]
theorem yF (hT:TOk P T) {f off:Nat} {d:TypeId} (h:T.fieldAt t f=a6 (off,d)): ∃e g i,(T.at t).k=.struct e/\e[f]? =a6 (off,d)/\(T.at t).known=true/\(T.at d).known=true/\0<(T.at d).size/\
  P.underlying t=a6 (.struct g)/\g[f]? =a6 i/\i.offset=off/\i.type=d:=by
 unfold TT.fieldAt at h;split at h
 .rename_i e j
  replace h:=bK h;obtain⟨hk,h⟩:=h;split at h
  .rename_i o q s
   replace h:=bK h;obtain⟨l,p⟩:=h;cases p;simp only[af,Ky,decide_eq_true_eq]at l;obtain⟨g,u,v⟩:=hT.struct hk j
   grind
  .cases h
 .cases h
theorem H9 (hT:TOk P T): ∀(j:List (Nat×TypeId)) (o:Nat) (y:Ty),iV T o j=a6 y-> ∀(f off:Nat) (e:TypeId),j[f]? =a6 (off,e)-> ∀(x:y.den) (cs:List Value),dM c.w c.free y x cs->
  ∃(a:Ty) (z:a.den) (g i q:List Value),Tn y x f=.val a z/\MV y x f=.cellp a z/\(T.at e).ty=a6 a/\a.size=(T.at e).size/\cs=g++i++q/\o+g.length=off/\dM c.w c.free a z i
 |[],_,_,_,f,_,_,h,_,_,_=>by simp at h
 |(S,U)::j,o,y,d,f,off,e,l,x,cs,hd=>by
  simp only[iV]at d;split at d
  .rename_i V
   split at d
   .rename_i a s
    split at d
    .rename_i u
     split at d
     .rename_i b v
      cases d;obtain⟨g,i,p,A,B⟩:=hd;cases f with
      |zero=>
       simp only[List.getElem?_cons_zero,Option.some.injEq,Prod.mk.injEq]at l;obtain⟨rfl,rfl⟩:=l;exact⟨a,x.1,[],g,i,rfl,rfl,s,u.1,by simpa using p,by simp;omega,A⟩
      |succ f=>
       simp only[List.getElem?_cons_succ]at l;obtain⟨D,z,E,G,I,J,K,L,M,N,W,O⟩:=H9 hT j (o+a.size) b v f off e l x.2 i B;refine⟨D,z,g++E,G,I,J,K,L,M,by rw[p,N];simp, ?_,O⟩
       grind [dM.length]
     .cases d
    .cases d
   .cases d
  .cases d
theorem zq (hT:TOk P T) {f off:Nat} {e:TypeId} (h:T.fieldAt t f=a6 (off,e)) (w:World) (b o:Nat):
  (Instr.fieldAt t (.pointer (a6 ⟨b,o,a7⟩)) f).run P w=.ok (.pointer (a6 ⟨b,o+off,a7⟩)) w:=by
 obtain⟨s,u,g,v,x,hk,i,y,j,l,p,d⟩:=yF hT h;have q:=hT.sizeOf (t:=g.type) (by rw[d];exact i) w;simp only[Instr.fieldAt,Sem.run_bind,run_underlying j,Result.andThen_ok,l,Instr.sureAddr,Sem.run_pure,fieldPlace,q,Sem.run_ite];rw[aq (by rw[d];omega)];simp[jm,p]
theorem RU (hT:TOk P T) (hk:(T.at t).known=true) {e:List (Nat×TypeId)} (f:(T.at t).k=.struct e) {y:Ty} (g:(T.at t).ty=a6 y):iV T 0 e=a6 y:=by
 rcases(hT t hk).2.2.1 with d|d
 .simp_all
 .rw[g,f]at d;exact d.symm
theorem JX (hT:TOk P T) {x:bn} {f:Nat} {v:Value} {K:bn->Option R} (h:qR T c.hp t x f K=a6 r) (hx:bu c x v):
  ∃z u,K z=a6 r/\bu c z u/\ ∀w,(Instr.fieldAt t v f).run P w=.ok u w:=by
 unfold qR at h;split at h
 .rename_i d A j
  obtain⟨B,O,S,D,E,hk,U,V,W,X,Y,Z⟩:=yF hT j;split at h
  .rename_i u y
   split at h
   .rename_i G I
    split at h
    .rename_i z l
     have e:=fV l;subst e;rw[dY]at l;cases l;simp only[bu]at hx;obtain⟨b,o,zs,rfl,hb,q,hd⟩:=hx;obtain⟨a,z,l1,l2,l3,g1,g2,g3,g4,g5,g6,g7⟩:=H9 hT B 0 u (RU hT hk D I) f d A E _ _ hd;refine⟨_,.pointer (a6 ⟨b,o+d,a7⟩),h, ?_,fun w=>zq hT j w b o⟩;rw[g2];simp only[bu];rw[g5,ai]at q;have:=(fE.append.1 (fE.append.1 q).2).1
     grind
    .cases h
   .cases h
  .rename_i id o
   split at h
   .rename_i bt cs J
    simp only[bu]at hx;have s:=hx.2.2 _ _ J;subst s;refine⟨_,.pointer (a6 ⟨(c.mu id).blk,o+d,a7⟩),h, ?_,fun w=>zq hT j w _ o⟩;simp only[bu];exact⟨rfl,hx.2.1,fun _ _ _=>trivial⟩
   .cases h
  .rename_i id L i o
   split at h
   .rename_i e u xs M
    replace h:=bK h;obtain⟨p,h⟩:=h;have p:u=L:=by simpa using p
    subst p;simp only[bu]at hx;obtain⟨g,n,cp,s,N⟩:=(hx.2.2 _ _ _ M).2 rfl;subst N;refine⟨_,.pointer (a6 ⟨g,i*e.size+o+d,a7⟩),h, ?_,fun w=>zq hT j w _ _⟩;simp only[bu];refine⟨rfl,hx.2.1,fun t' G ab h'=> ?_⟩
    grind
   .cases h
  .cases h
 .cases h
theorem ac0 (hT:TOk P T) {x:bn} {f:Nat} {v:Value} {K:bn->Option R} (h:FD T t x f K=a6 r) (hx:bu c x v):
  ∃z u,K z=a6 r/\bu c z u/\ ∀w,(Instr.field t v f).run P w=.ok u w:=by
 unfold FD at h;split at h
 .rename_i g d I
  obtain⟨J,X,p,q,L,hk,i,Y,j,M,Z,N⟩:=yF hT I;have O:(T.at t).isAgg=true:=by simp[TI.isAgg,q]
  split at h
  .rename_i u y
   split at h
   .rename_i u' s
    split at h
    .rename_i z o
     have e:=fV o;subst e;rw[dY]at o;cases o;simp only[bu]at hx;have A:=hT.ty_agg hk s;rw[O]at A;obtain⟨cs,rfl,hd⟩:=(VD.agg A).1 hx;obtain⟨a,z,l1,S,l3,g1,g2,g3,g4,g5,g6,U⟩:=H9 hT J 0 u (RU hT hk q s) f g d L _ _ hd;refine⟨_,valOf (T.at d).isAgg S,h, ?_,fun w=> ?_⟩
     .grind [bu,Zi]
     .have ab:=dM.length _ _ _ U;have B:g+(T.at d).size<=cs.size:=by
       have:=congrArg List.length g5;simp at this;omega
      have D:=GM (P:=P) hT (t:=p.type) (by rw[N];exact i) w cs p.offset (by simp_all);simp only[Instr.field,Sem.run_bind,run_underlying j,Result.andThen_ok,M,asAgg,Sem.run_pure,D];simp_all
    .cases h
   .cases h
  .rename_i l
   split at h
   .rename_i ad V
    obtain⟨q1,rfl⟩:=yB V;simp only[bu]at hx;obtain⟨E,rfl,G,W⟩:=hx;have B:=bg.length _ _ G;simp at B;refine⟨_,valOf (T.at d).isAgg ((E.toList.drop g).take (T.at d).size),h,GG hT i (bg.take _ _ _ (bg.drop _ _ _ G)) (fun u j=>W u (List.mem_of_mem_drop (List.mem_of_mem_take j))),fun w=> ?_⟩;have D:=GM (P:=P) hT i w E g (by omega);simp_all [Instr.field,run_underlying,asAgg]
   .cases h
  .cases h
 .cases h
theorem q_len (hT:TOk P T) (y:c.Ok W0) {x:bn} {v:Value} {K:bn->Option R} (h:WT T c.hp t x K=a6 r) (hx:bu c x v) {ty:TypeId}:
  ∃z u,K z=a6 r/\bu c z u/\ ∀w,(Builtin.len_ #[t] ty #[v]).run P w=.ok u w:=by
 unfold WT at h;split at h
 .rename_i s
  replace h:=eu h;obtain⟨f,h⟩:=h;simp only[bu]at hx;obtain rfl:=hx.str_inv;have d:=BX hT f;refine⟨_,_,h,by simp only[bu];exact VD.int_mk,fun w=> ?_⟩;simp only[Builtin.len_,List.getElem?_toArray,List.getElem?_cons_zero,Sem.run_bind,run_underlying d,Result.andThen_ok,Sem.run_pure,goInt];congr 2
 .rename_i e xs
  replace h:=eu h;obtain⟨f,h⟩:=h;simp only[bu]at hx;obtain⟨a,cp,A,rfl,J,L,M⟩:=oH hx;obtain⟨l,d,hk,o,p,_⟩:=kC hT f;exact⟨_,_,h,by simp only[bu];exact VD.int_mk,fun w=>by simp[Builtin.len_,run_underlying d,goInt,bi]⟩
 .replace h:=eu h;obtain⟨f,h⟩:=h;simp only[bu]at hx;subst hx;obtain⟨l,d,hk,o,p,_⟩:=kC hT f;exact⟨_,_,h,by simp only[bu];exact VD.int_mk,fun w=>by simp[Builtin.len_,run_underlying d,goInt]⟩
 .rename_i id B N
  split at h
  .rename_i e u xs q
   replace h:=bK h;obtain⟨j,h⟩:=h;have j:u=B:=by simpa using j
   subst j;replace h:=eu h;obtain⟨f,h⟩:=h;obtain⟨l,d,hk,o,p,_⟩:=kC hT f;simp only[bu]at hx;have i:=(hx.2.2 _ _ _ q).2 rfl;obtain⟨_,O,A,D,S,U⟩:=y.obj id _ q;obtain⟨a,n,E,V⟩: ∃a n,(c.mu id).v=.slice a xs.length n/\xs.length<=n:=by
    rcases D.2 with ⟨G,I⟩|⟨g,W,X,G,_,_,I,_⟩
    all_goals grind
   split at h
   .simp only[ik]at i;rw[E]at i;subst i;exact⟨_,_,h,by simp only[bu];exact VD.int_mk,fun w=>by simp[Builtin.len_,run_underlying d,goInt,bi]⟩
   .rename_i lo Y
    simp only[ik]at i;obtain⟨Z,m,cp,ab,q1,q2,q3,i⟩:=i;subst i;refine⟨_,_,h,by simp only[bu];exact VD.int_mk,fun w=> ?_⟩;simp only[Builtin.len_,List.getElem?_toArray,List.getElem?_cons_zero,Sem.run_bind,run_underlying d,Result.andThen_ok,Sem.run_pure,goInt]
    grind
  .cases h
 .cases h
theorem qI {k:IntKind}: ∀(l:List bn) (e:List Int) (us:List Value),yh k l=a6 e->bg c l us->us=e.map (.int k)
 |[],e,us,h,d=>by
  grind [yh,bg]
 |v::l,e,us,h,d=>by
  cases us with
  |nil=>simp[bg]at d
  |cons u us=>
   simp only[bg]at d;cases v with
   |val t x=>
    cases t<;>simp only[yh,reduceCtorEq]at h
    rename_i i
    split at h
    .rename_i hk
     subst hk;split at h
     .rename_i m g
      cases h;have f:=d.1;simp only[bu]at f;rw[f.int_inv,qI l m us g d.2];rfl
     .cases h
    .cases h
   |_=>simp[yh]at h
theorem OD (w:World) (k:IntKind): ∀(d:List Int) (a:Int),((d.map (Value.int k)).foldlM Builtin.min2 (.int k a)).run P w=.ok (.int k (d.foldl Ej a)) w
 |[],a=>rfl
 |n::d,a=>by
  simp only[au,List.foldlM_cons,aP,Sem.run_bind,Builtin.min2,Sem.run_pure,Result.andThen_ok];exact OD w k d (Ej a n)
theorem OC (w:World) (k:IntKind): ∀(d:List Int) (a:Int),((d.map (Value.int k)).foldlM Builtin.max2 (.int k a)).run P w=.ok (.int k (d.foldl yV a)) w
 |[],a=>rfl
 |n::d,a=>by
  simp only[au,List.foldlM_cons,aP,Sem.run_bind,Builtin.max2,Sem.run_pure,Result.andThen_ok];exact OC w k d (yV a n)
theorem Xn (off:Nat): ∀(us:List Value) (k:Nat) (d:List Value),off+k+us.length<=d.length->
  (us.zipIdx k).foldl (fun cs p=>Array.setIfInBounds cs (off+p.2) p.1) d.toArray=(d.take (off+k)++us++d.drop (off+k+us.length)).toArray
 |[],k,d,h=>by simp
 |u::us,k,d,h=>by
  simp only[aH]at h;have e:=Xn off us (k+1) (d.set (off+k) u) (by simp;omega);simp only[List.zipIdx_cons,aP];rw[show Array.setIfInBounds d.toArray (off+k) u=(d.set (off+k) u).toArray by simp,e];congr 1;have f:off+k<d.length:=by omega
  rw[List.set_eq_take_append_cons_drop,am f];have g: ∀(A B:List Value) (n m:Nat),A.length=n->(A++u::B).take (n+1)=A++[u]/\(A++u::B).drop (n+1+m)=B.drop m:=by
   intro A B n m i;constructor
   .grind
   .rw[List.drop_append,aU (by omega),i,aO,show n+1+m-n=m+1 by omega];rfl
  obtain⟨j,l⟩:=g (d.take (off+k)) (d.drop (off+k+1)) (off+k) us.length (by simp;omega);rw[show off+(k+1)=off+k+1 by omega,j,l];simp;congr 1;omega
theorem FX (off:Nat) (us:Array Value) (d:List Value) (h:off+us.size<=d.length):
  us.zipIdx.foldl (fun cs p=>Array.setIfInBounds cs (off+p.2) p.1) d.toArray=(d.take off++us.toList++d.drop (off+us.size)).toArray:=by
 rw[<-Array.foldl_toList,Array.toList_zipIdx];simp_all [Xn]
theorem WV (hT:TOk P T) {y:List (Nat×TypeId)} {place:Nat->Option (Nat×Nat)} (hp: ∀i off q,y[i]? =a6 (off,q)->(T.at q).known=true->place i=a6 (off,(T.at q).size)):
  ∀(j:List (Nat×bn)) (us:List (Nat×Value)) (cs l:List bn) (d:List Value),FC T y cs j=a6 l->bg c cs d->(∀u∈d,u.oneCell'=true)->
   us.map (·.1)=j.map (·.1)->bg c (j.map (·.2)) (us.map (·.2))-> ∃o,Instr.fill place d.toArray us=a6 o.toArray/\bg c l o/\ ∀u∈o,u.oneCell'=true
 |[],us,cs,l,d,h,p,z,e,_=>by
  simp only[FC,Option.some.injEq]at h;subst h;cases us with
  |nil=>exact⟨d,rfl,p,z⟩
  |cons=>simp at e
 |(i,v)::j,us,cs,l,d,h,p,z,e,s=>by
  cases us with
  |nil=>simp at e
  |cons u us=>
   obtain⟨K,u⟩:=u;simp only[au,List.cons.injEq]at e;obtain⟨rfl,e⟩:=e;simp only[au,bg]at s;simp only[FC]at h;split at h
   .rename_i off q f D E
    replace h:=bK h;obtain⟨hk,h⟩:=h;simp only[af,beq_iff_eq]at hk;split at h
    .rename_i L g
     have G:=hp _ _ _ D hk.1;obtain⟨A,M⟩:=Hy E s.1;have hl:=bg.length _ _ A;have N:=bg.length _ _ p;unfold putCells at g;replace g:=bK g;obtain⟨B,g⟩:=g;have B:off+f.length<=cs.length:=by simpa using B
     cases g;have O:u.cells.size=f.length:=by simpa using hl.symm
     have I:bg c (cs.take off++f++cs.drop (off+f.length)) (d.take off++u.cells.toList++d.drop (off+f.length)):=
      bg.append _ _ _ _ (bg.append _ _ _ _ (bg.take _ _ _ p) A) (bg.drop _ _ _ p)
     have J: ∀x∈d.take off++u.cells.toList++d.drop (off+f.length),x.oneCell'=true:=by
      grind
     obtain⟨o,g1,g2,g3⟩:=WV hT hp j us _ l _ h I J e s.2;refine⟨o, ?_,g2,g3⟩;rw[<-g1];simp only[Instr.fill,G];rw[aq (by grind)]
     grind [FX]
    .cases h
   .cases h
end
end
section
open Option renaming some → a6, none → a7
open Bool renaming and_eq_true → af, false_eq_true → ag, not_true → ax
open List renaming map_cons → au, nil_append → aO, foldl_cons → aP
open Go.RowKit
section
variable {P:Program} {T:TT} {W0:World} {c:Cx} {R:Type} {r:R} {t:TypeId}
theorem bg.map_eval {fr:List bn} {a:Act} (h:bg c fr a.tmps.toList): ∀(xs:List Operand),bg c (xs.map (fG fr)) (xs.map a.eval)
 |[]=>by simp[bg]
 |x::xs=>by simp only[au,bg];exact⟨dh h x,bg.map_eval h xs⟩
theorem CP {w:World} {B:Nat} {e:TypeId} {size n:Nat} {v:Value} {d:List Value} (h:w.ownsRow B e size v n d): ∃a cp,v=.slice a n cp/\n<=cp/\(d=[]\/ ∃g,a=a6 ⟨g,0,a7⟩/\g<w.heap.size/\B<=g/\fE w g 0 d):=by
 rcases h.2 with ⟨f,i⟩|⟨g,l,p,f,i,j,o,q,s,u⟩
 .refine⟨a7,0,by rw[f,i],by omega,.inl ?_⟩;have:=h.1;simp_all
 .refine⟨_,l,f,o,.inr ⟨g,rfl,(Array.getElem?_eq_some_iff.1 j).1,i, ?_⟩⟩;have:=(fE.of_block_cells j).sub 0 (n*size);simp_all
theorem oP {w:World} {B:Nat} {e:TypeId} {size n:Nat} {v:Value} {d:List Value} (h:w.ownsRow B e size v n d): ∃a cp,v=.slice a n cp/\n<=cp/\(d=[]\/ ∃g,a=a6 ⟨g,0,a7⟩/\g<w.heap.size/\fE w g 0 d):=by
 grind [CP]
theorem OT (y:c.Ok W0) {x:bn} {e:Ty} {A:List e.den} {u:Value} (h:x.as c.hp (.list e)=a6 A) (hx:bu c x u):
  ∃a cp d,u=.slice a A.length cp/\dX (dM c.w c.free e) e.size A d/\(d=[]\/ ∃b off,a=a6 ⟨b,off,a7⟩/\b<c.w.heap.size/\ ¬c.bar b/\fE c.w b off d):=by
 cases x with
 |val J z=>
  simp only[bn.as]at h;have e:=fV h;subst e;rw[dY]at h;cases h;simp only[bu]at hx;obtain⟨a,n,d,B,N,D,E⟩:=oH hx;exact⟨a,n,d,B,D,E.imp id fun⟨b,off,f,i,o⟩=>⟨b,off,f,i.1,i.2.2.2,o⟩⟩
 |nils=>
  simp only[bn.as,Option.some.injEq]at h;subst h;simp only[bu]at hx;exact⟨a7,0,[],hx,rfl,.inl rfl⟩
 |lst J z b=>
  simp only[bn.as]at h;have e:=fV h;cases e;rw[dY]at h;cases h;simp only[bu]at hx;obtain⟨a,n,d,B,N,D,E⟩:=oH hx.1;exact⟨a,n,d,B,D,E.imp id fun⟨b,off,f,i,o⟩=>⟨b,off,f,i.1,i.2.2.2,o⟩⟩
 |emp=>
  simp only[bn.as,Option.some.injEq]at h;subst h;simp only[bu]at hx;obtain⟨a,rfl⟩:=hx;exact⟨a,0,[],rfl,rfl,.inl rfl⟩
 |slc id ver O=>
  simp only[bn.as,yC]at h;split at h
  .rename_i J v xs s
   replace h:=bK h;obtain⟨j,h⟩:=h;have j:v=ver:=by simpa using j
   subst j;split at h
   .rename_i X G
    have e:=fV G;cases e;rw[dY]at G;cases G;cases h;simp only[bu]at hx;have q:=(hx.2.2 _ _ _ s).2 rfl;obtain⟨_,Y,d,S,K,Z⟩:=y.obj id _ s;obtain⟨a,cp,j,hn,L⟩:=CP S;cases O with
    |none=>
     simp only[ik]at q;rw[j]at q;exact⟨a,cp,d,q,K,L.imp (fun h=>h) fun⟨g,f,i,U,o⟩=>⟨g,0,f,i,fun I=>(y.bar _ I).2.1 ⟨id,_,s,by rw[bY.blk,j,f];rfl⟩,o⟩⟩
    |some p=>
     obtain⟨lo,V⟩:=p;simp only[ik]at q;obtain⟨a',m,ab,M,p1,p2,p3,q⟩:=q;rw[j]at M;cases M;refine⟨(if cp=lo.toNat then a else a.map (·.add (lo.toNat*e.size))),cp-lo.toNat,(d.take (V.toNat*e.size)).drop (lo.toNat*e.size), ?_,dX.drop _ _ _ (dX.take _ _ _ K), ?_⟩
     .simp_all [V9,EN]
     .by_cases hcp:cp=lo.toNat
      .grind
      .rw[aq hcp];rcases L with W|⟨g,f,i,U,o⟩
       .left;rw[W];simp
       .right;refine⟨g,0+lo.toNat*e.size,by rw[f];simp[jm],i,fun I=>(y.bar _ I).2.1 ⟨id,_,s,by rw[bY.blk,j,f];rfl⟩, ?_⟩;rw[List.drop_take];exact o.sub _ _
   .cases h
  .cases h
 |agg l=>simp[bn.as,Ty.isAgg]at h
 |_=>simp[bn.as]at h
theorem VJ (g:c.Ok W0) {x:bn} {e:Ty} {d:List e.den} {u:Value} (h:x.as c.hp (.list e)=a6 d) (hx:bu c x u):
  ∃a cp f,u=.slice a d.length cp/\dX (dM c.w c.free e) e.size d f/\(f=[]\/ ∃b off,a=a6 ⟨b,off,a7⟩/\b<c.w.heap.size/\fE c.w b off f):=by
 grind [OT]
theorem Ee {k:IntKind} {w:World} {fr:Nat->Prop}: ∀(xs:List Int) (e:List Value),dX (dM w fr (.int k)) 1 xs e->e=xs.map (.int k)
 |[],_,h=>by cases h;rfl
 |x::xs,_,⟨d,g,i,l,f,j⟩=>by
  simp only[dM]at f;subst i;subst f;rw[Ee xs g j];rfl
theorem Ib: ∀(e:List Int) (d:List UInt8),e.foldl (fun r n=>r.push (UInt8.ofNat n.toNat)) (⟨d.toArray⟩:ByteArray)=⟨(d++ofBytes e).toArray⟩
 |[],d=>by simp[ofBytes]
 |n::e,d=>by
  rw[aP];have:(⟨d.toArray⟩:ByteArray).push (UInt8.ofNat n.toNat)=⟨(d++[UInt8.ofNat n.toNat]).toArray⟩:=by
   simp[ByteArray.push]
  rw[this,Ib e];simp[ofBytes]
theorem afD (hT:TOk P T) (A:c.Ok W0) {s d:TypeId} {x:bn} {v:Value} {K:bn->Option R} (h:xw T s d x c.hp K=a6 r) (hx:bu c x v):
  ∃z u,K z=a6 r/\bu c z u/\ ∀w',Dh c w'->(convert s d v).run P w'=.ok u w':=by
 unfold xw at h;cases hk:((T.at s).known&&(T.at d).known)
 .simp_all
 rw[hk]at h;simp only[ax,ac]at h;simp only[af]at hk;split at h
 .rename_i k1 k2 k3 n g i
  simp only[bu]at hx;obtain rfl:=hx.int_inv;have l:=hT.int hk.1 g;have o:=hT.int hk.2 i;exact⟨_,_,h,by simp only[bu];exact VD.int_mk,fun w' _=>by simp_all [convert,run_underlying,Conv.intToInt]⟩
 .rename_i str g i
  simp only[bu]at hx;obtain rfl:=hx.str_inv;have l:=hT.str hk.1 g;have o:=hT.str hk.2 i;exact⟨_,_,h,by simp only[bu];exact VD.str_mk,fun w' _=>by simp_all [convert,run_underlying]⟩
 .rename_i e g i
  split at h
  .rename_i B
   split at h
   .rename_i xs D
    replace h:=eu h;obtain⟨E,h⟩:=h;have G:=E;have l:=hT.slice hk.1 g;have o:=hT.str hk.2 i;have p:=hT.int G B;obtain⟨a,cp,f,rfl,I,J⟩:=VJ A D hx;refine⟨_,.string ⟨(ofBytes xs).toArray⟩,h,by simp only[bu];exact VD.str_mk,fun w' L=> ?_⟩;have q:=Ee xs f I;cases hxe:xs with
    |nil=>
     subst hxe;rcases a with _|M
     .simp only[convert,run_underlying l,run_underlying o,run_underlying p,Sem.run_bind,Result.andThen_ok,Conv.bytesToString,Sem.run_pure];rfl
     .rw[run_convert_bytes_string w' s d e _ _ _ l p o,run_bytesToString (P:=P) w' M _ cp [] (by rfl)];rfl
    |cons x0 Y=>
     have N:f≠[]:=by rw[q,hxe];simp
     obtain⟨b,y,rfl,O,S⟩:=J.resolve_left N;have U:=L.cells O S;have Z:(loadCells ⟨b,y,a7⟩ f.length).run P w'=.ok f.toArray w':=run_loadCells_list (P:=P) w' _ f fun j v V=>by
      obtain⟨W,X⟩:=List.getElem?_eq_some_iff.1 V;rw[jm,U j W,X]
     have ab:f.length=xs.length:=by rw[q];simp
     rw[<-hxe,run_convert_bytes_string w' s d e _ _ _ l p o,run_bytesToString (P:=P) w' ⟨b,y,a7⟩ xs.length cp xs (by simp_all)];have:=Ib xs [];simp only[aO]at this;rw[<-this];rfl
   .cases h
  .cases h
 .cases h
theorem DF {d e:Type} (f:d->Sem e) (g:d->e) (w:World): ∀(l:List d),(∀x∈l,(f x).run P w=.ok (g x) w)->(l.mapM f).run P w=.ok (l.map g) w
 |[],_=>rfl
 |x::l,h=>by
  simp only[List.mapM_cons,Sem.run_bind,h x (by simp),Result.andThen_ok,DF f g w l (fun y i=>h y (by simp[i])),Sem.run_pure,au]
theorem VC {d e:Type} (f:d->Sem e) (g:d->e) (w:World) (l:Array d) (h: ∀x∈l.toList,(f x).run P w=.ok (g x) w):(l.mapM f).run P w=.ok (l.map g) w:=by
 rw[Array.mapM_eq_mapM_toList,Sem.run_map,DF f g w l.toList h];simp only[Result.andThen_ok];congr 1
 grind
def SH (P:Program) (t:TypeId):Nat:=((P.info? t).map (·.size)).getD 0
theorem xQ (hT:TOk P T) (S:c.Ok W0) {cl:Bool} {call:eF R} {o:Oper} {st:St} {a:Act} {K:bn->St->Option R} (U:gq o.op=true) (G:c.hp=st.hp) (j:bg c st.fr a.tmps.toList)
  (h:dH T cl call o st K=a6 r): ∃z u,K z st=a6 r/\bu c z u/\ ∀w',Dh c w'->(execOp a.eval o).run P w'=.ok (.value u) w':=by
 have E: ∀{s:Sem Value} {u:Value} {w':World},s.run P w'=.ok u w'->(do pure (Next.value (<-s)):Sem Next).run P w'=.ok (.value u) w':=fun hs=>by
  simp_all
 obtain⟨aI,op,ty,aJ,aK,aQ⟩:=o;simp only at U;cases op<;>simp only[gq,iY,ag]at U
 case move x=>exact⟨_,_,h,dh j x,fun w' _=>rfl⟩
 case assign x=>exact⟨_,_,h,dh j x,fun w' _=>rfl⟩
 case pick x y z=>
  simp only[dH]at h;have hc:=dh j x;split at h
  .rename_i b L
   rw[L]at hc;simp only[bu]at hc;have ai:=hc.bool_inv;cases b
   .exact⟨_,_,h,dh j z,fun w' _=>by simp[execOp,ai,asBool]⟩
   .exact⟨_,_,h,dh j y,fun w' _=>by simp[execOp,ai,asBool]⟩
  .cases h
 case build t parts=>
  simp only[dH]at h;cases hk:(T.at t).known
  .simp_all
  rw[hk]at h;simp only[ax,ac]at h;split at h
  .rename_i fs ao
   split at h
   .rename_i cs Y
    obtain⟨Z,hu,av⟩:=hT.struct hk ao;obtain⟨i,z,hi,aS,aU,hz,aV,ab⟩:=hT.info hk;have aw:bg c (T.at t).zero z.cells.toList:=by grind [qM]
    have ab: ∀u∈z.cells.toList,u.oneCell'=true:=fun u hu=>List.all_eq_true.1 ab u hu;obtain⟨ay,g1,g2,g3⟩:=WV (c:=c) hT (place:=fun k=>(Z.map fun f=>(f.offset,SH P f.type))[k]?) (fun k aj ft ad az=>by
      rw[<-av,List.getElem?_map]at ad;cases hfl:Z.toList[k]? with
      |none=>simp_all
      |some fl=>
       rw[hfl]at ad;simp only[Option.map_some,Option.some.injEq,Prod.mk.injEq]at ad;have:Z[k]? =a6 fl:=by simpa using hfl
       obtain⟨i',z',aW,aX,_⟩:=hT.info az;simp_all [SH]) _ (parts.toList.map fun p=>(p.1,a.eval p.2)) _ _ _ Y aw ab (by simp) (by
      simp only[List.map_map,Function.comp_def];have:=bg.map_eval (c:=c) j (parts.toList.map (·.2));simp_all [Function.comp_def])
    have ae:=(hT t hk).2.2.2.2.2.2.1;rw[hu]at ae;simp only[Option.map_some,Option.some.injEq]at ae;refine⟨_,.agg ay.toArray,h, ?_,fun w' _=>E ?_⟩
    .have:=GG (c:=c) hT hk g2 g3;simp_all [TI.isAgg,valOf]
    .have hm:=VC (P:=P) (fun f:Field=>do pure (f.offset,<-sizeOf f.type)) (fun f=>(f.offset,SH P f.type)) w' Z (fun f hf=>by
      have:=List.all_eq_true.1 ae f hf;cases hi2:P.info? f.type with
      |none=>simp_all
      |some i2=>simp[sizeOf,typeInfo,hi2,SH])
     have aA:(zeroValue t).run P w'=.ok z w':=by simp[zeroValue,typeInfo,hi,hz]
     simp only[Instr.build,Sem.run_bind,aA,Result.andThen_ok,run_underlying hu,hm];simp_all
   .cases h
  .cases h
 case load t x=>
  simp only[dH]at h;rw[<-G]at h;obtain⟨z,u,q,A,B⟩:=aj8 (K:=fun v=>K v st) hT S h (dh j x);exact⟨z,u,q,A,fun w' D=>E (B w' D)⟩
 case nilCheck x=>
  simp only[dH]at h;have d:=dh j x;split at h
  .rename_i id aj N
   rw[N]at d;split at h
   .rename_i bt cs Y
    have V:=d;simp only[bu]at d;rw[<-G]at Y;have I:=d.2.2 _ _ Y;exact⟨_,_,h,V,fun w' _=>by simp[execOp,I]⟩
   .cases h
  .rename_i y e N
   rw[N]at d;have V:=d;simp only[bu]at d;obtain⟨b,o,zs,I,_⟩:=d;exact⟨_,_,h,V,fun w' _=>by simp[execOp,I]⟩
  .rename_i id aB i aj N
   rw[N]at d;split at h
   .rename_i e u xs ak
    replace h:=bK h;obtain⟨J,h⟩:=h;have J:u=aB:=by simpa using J
    subst J;have V:=d;simp only[bu]at d;rw[<-G]at ak;obtain⟨g,n,cp,_,I⟩:=(d.2.2 _ _ _ ak).2 rfl;exact⟨_,_,h,V,fun w' _=>by simp[execOp,I]⟩
   .cases h
  .cases h
 case binOp op t x y yt=>
  simp only[dH]at h;rw[<-G]at h;obtain⟨z,u,q,A,B⟩:=aj7 (P:=P) (ox:=x) (oy:=y) (K:=fun v=>K v st) hT S h (dh j x) (dh j y);exact⟨z,u,q,A,fun w' D=>E (B w')⟩
 case unOp op t x=>
  simp only[dH]at h;obtain⟨z,u,q,A,B⟩:=atx (P:=P) (K:=fun v=>K v st) h (dh j x);exact⟨z,u,q,A,fun w' D=>E (B w')⟩
 case convert sT dT x=>
  simp only[dH]at h;rw[<-G]at h;obtain⟨z,u,q,A,B⟩:=afD (P:=P) (K:=fun v=>K v st) hT S h (dh j x);exact⟨z,u,q,A,fun w' D=>E (B w' D)⟩
 case slice t x lo hi mx=>
  simp only[dH]at h;rw[<-G]at h;obtain⟨z,u,q,A,B⟩:=ac2 (P:=P) (K:=fun v=>K v st) hT S h (dh j x) (jZ.map j lo) (jZ.map j hi) (jZ.map j mx);exact⟨z,u,q,A,fun w' D=>E (B w')⟩
 case fieldAddr t x f=>
  simp only[dH]at h;rw[<-G]at h;obtain⟨z,u,q,A,B⟩:=JX (P:=P) (K:=fun v=>K v st) hT h (dh j x);exact⟨z,u,q,A,fun w' D=>E (B w')⟩
 case field t x f=>
  simp only[dH]at h;obtain⟨z,u,q,A,B⟩:=ac0 (P:=P) (K:=fun v=>K v st) hT h (dh j x);exact⟨z,u,q,A,fun w' D=>E (B w')⟩
 case indexAddr t x i=>
  simp only[dH]at h;rw[<-G]at h;obtain⟨z,u,q,A,B⟩:=JY (P:=P) (K:=fun v=>K v st) hT S h (dh j x) (dh j i);exact⟨z,u,q,A,fun w' D=>E (B w')⟩
 case index t x i=>
  simp only[dH]at h;split at h
  .rename_i s n hs hn
   replace h:=eu h;obtain⟨q,h⟩:=h;have d:=dh j x;rw[hs]at d;obtain⟨A,B⟩:=ac1 (P:=P) hT d (dh j i) hn q;exact⟨_,_,h,A,fun w' D=>E (B w')⟩
  .cases h
 case extract x n=>
  simp only[dH]at h;have d:=dh j x;split at h
  .rename_i l hl
   rw[hl]at d;split at h
   .rename_i v I
    simp only[bu]at d;obtain⟨vs,N,an⟩:=d;obtain⟨hn,I⟩:=List.getElem?_eq_some_iff.1 I;have aF:=bg.length _ _ an;simp at aF;have q:=bg.get _ _ an n hn (by simp;omega);rw[I]at q;simp only[Array.getElem_toList]at q;refine⟨_,_,h,q,fun w' _=>E ?_⟩;rw[N];have:vs[n]? =a6 vs[n]:=Array.getElem?_eq_getElem (by omega);simp[Instr.extract,this]
   .cases h
  .cases h
 case call cc=>
  obtain⟨bd,W,aG⟩:=cc;simp only at U;have M:=bg.map_eval (c:=c) j W.toList;split at U
  all_goals try (cases U;done)
  .
   simp only[dH,jo]at h;split at h<;>try (cases h;done)
   .rename_i x L d
    split at h<;>try (cases h;done)
    rename_i t ht
    rw[<-G]at h;obtain⟨O,aH⟩: ∃O,W= #[O]:=by
     obtain⟨l⟩:=W
     match l,d with
     |[O],_=>exact⟨O,rfl⟩
    subst aH;obtain⟨t0⟩:=aG;simp only at ht;subst ht;simp only[au,List.map_nil,List.cons.injEq,and_true]at d;subst d;obtain⟨z,u,q,A,B⟩:=q_len (P:=P) (K:=fun v=>K v st) hT S h (dh j O) (ty:=ty)
    grind [execOp,resolve,invoke,builtin]
   all_goals simp_all
  .
   simp only[dH,jo]at h;split at h<;>try (cases h;done)
   all_goals try (rename_i L _;cases L;done)
   rename_i k n l L d
   split at h<;>try (cases h;done)
   rename_i ns ah
   rw[d]at M;obtain⟨X⟩:=W;cases X with
   |nil=>simp_all
   |cons O X=>
    simp only[au,bg]at M;have J:=M.1;simp only[bu]at J;have q:=J.int_inv;have A:=qI _ _ _ ah M.2;exact⟨_,_,h,by simp only[bu];exact VD.int_mk,fun w' D=>by simp_all [execOp,resolve,invoke,builtin,Builtin.min_,OD]⟩
  .
   simp only[dH,jo]at h;split at h<;>try (cases h;done)
   all_goals try (rename_i L _;cases L;done)
   rename_i k n l L d
   split at h<;>try (cases h;done)
   rename_i ns ah
   rw[d]at M;obtain⟨X⟩:=W;cases X with
   |nil=>simp_all
   |cons O X=>
    simp only[au,bg]at M;have J:=M.1;simp only[bu]at J;have q:=J.int_inv;have A:=qI _ _ _ ah M.2;exact⟨_,_,h,by simp only[bu];exact VD.int_mk,fun w' D=>by simp_all [execOp,resolve,invoke,builtin,Builtin.max_,OC]⟩
end
end
section
open Option renaming some → a6, none → a7
open List renaming map_cons → au
open Nat renaming le_refl → ae, le_trans → az
open Go.RowKit
structure x9 (W0:World) (c:Cx) (st:St) (c':Cx) (st':St):Prop where
 hp:c'.hp=st'.hp
 nxt:c'.nxt=st'.nxt
 fr:st'.fr=st.fr
 stk:st'.stk=st.stk
 ok:c'.Ok W0
 le:c.Le c'
section
variable {P:Program} {T:TT} {W0:World} {c:Cx} {R:Type} {r:R} {t:TypeId}
theorem x9.refl (d:c.Ok W0) {st:St} (e:c.hp=st.hp) (h2:c.nxt=st.nxt):x9 W0 c st c st:=⟨e,h2,rfl,rfl,d,Cx.Le.refl c⟩
theorem x9.trans {c' d:Cx} {st e f:St} (h:x9 W0 c st c' e) (k:x9 W0 c' e d f):x9 W0 c st d f:=
 ⟨k.hp,k.nxt,k.fr.trans h.fr,k.stk.trans h.stk,k.ok,h.le.trans k.le⟩
theorem Ji {cl:Bool} {dst:Option Nat} {o:bY} {st:St} {K:Nat->St->Option R} (h:alloc cl dst o st K=a6 r):
  ∃n',cZ st.hp (AP cl st dst)=a7/\st.nxt<=AP cl st dst/\st.nxt<=n'/\K (AP cl st dst) {st with hp:=(AP cl st dst,o)::st.hp,nxt:=n'}=a6 r:=by
 unfold alloc at h;split at h
 .cases h
 .rename_i e
  replace h:=bK h;obtain⟨d,h⟩:=h;have d:st.nxt<=AP cl st dst:=by simpa using d
  grind
theorem iC {cl:Bool} {dst:Option Nat} {o:bY} {st:St} {K:Nat->St->Option R} (h:alloc cl dst o st K=a6 r):
  ∃id n',cZ st.hp id=a7/\st.nxt<=id/\st.nxt<=n'/\K id {st with hp:=(id,o)::st.hp,nxt:=n'}=a6 r:=
 let⟨n',d,e,f,g⟩:=Ji h
 ⟨_,n',d,e,f,g⟩
theorem xO {st:St} {id:Nat} (d:c.hp=st.hp) (h2:c.nxt=st.nxt) (e:cZ st.hp id=a7) (f:st.nxt<=id): ¬c.known id:=by
 rintro (⟨o,g⟩|h)
 all_goals grind
theorem lI (w:World) (o:Obj):Below w.heap.size w (w.alloc o):=(Below.refl _ _).alloc (ae _) o
theorem Gz (f:c.Ok W0) {st:St} (g:c.hp=st.hp) (h2:c.nxt=st.nxt) {id n':Nat} (j:cZ st.hp id=a7) (p:st.nxt<=id) (x:st.nxt<=n') {cs:List bn} {vs:Array Value} (e:TypeId)
  (q: ∀c',c.Le c'->cZ c'.hp id=a6 (.box e cs)->c'.known id->(c'.mu id).blk=c.w.heap.size->bg c' cs vs.toList) (s: ∀u∈vs.toList,u.oneCell'=true):
  ∃c',x9 W0 c st c' {st with hp:=(id,.box e cs)::st.hp,nxt:=n'}/\c'.w=c.w.alloc (.cells vs e)/\bu c' (.ptr id 0) (.pointer (a6 ⟨c.w.heap.size,0,a7⟩)):=by
 have hk:=xO g h2 j p;have d:=lI c.w (.cells vs e);have hl: ∀b,bY.blk (.box e cs) ⟨c.w.heap.size,undef⟩=a6 b->c.w.heap.size<=b:=fun b d=>by
  simp_all [bY.blk]
 have h:=Cx.Le.push (o:=.box e cs) (l:=⟨c.w.heap.size,undef⟩) (nxt:=n') (w:=c.w.alloc (.cells vs e)) hk (by omega) d.size d.block hl;have i:cZ (c.push id (.box e cs) ⟨c.w.heap.size,undef⟩ n' (c.w.alloc (.cells vs e))).hp id=a6 (.box e cs):=by simp[Cx.push,dG]
 have v:(c.push id (.box e cs) ⟨c.w.heap.size,undef⟩ n' (c.w.alloc (.cells vs e))).ORel W0.heap.size id (.box e cs):=by
  refine⟨by simp[Cx.push,upd_same];exact f.size,vs, ?_,q _ h i (.inl ⟨_,i⟩) (by simp[Cx.push,upd_same]),s⟩;simp only[Cx.push,upd_same];exact heap_alloc_new c.w _
 refine⟨_,⟨?_,rfl,rfl,rfl,f.push hk (by omega) d hl v,h⟩,rfl, ?_⟩
 .simp[Cx.push,g]
 .simp only[bu];refine⟨rfl,.inl ⟨.box e cs,by assumption⟩,fun y z _=>by simp[Cx.push,upd_same]⟩
theorem Ul (d:c.Ok W0) {st:St} (f:c.hp=st.hp) (h2:c.nxt=st.nxt) {id n':Nat} (g:cZ st.hp id=a7) (h:st.nxt<=id) (i:st.nxt<=n') {cs:List bn} {vs:Array Value} (j:bg c cs vs.toList)
  (l: ∀u∈vs.toList,u.oneCell'=true) (e:TypeId):
  ∃c',x9 W0 c st c' {st with hp:=(id,.box e cs)::st.hp,nxt:=n'}/\c'.w=c.w.alloc (.cells vs e)/\bu c' (.ptr id 0) (.pointer (a6 ⟨c.w.heap.size,0,a7⟩)):=
 Gz d f h2 g h i e (fun c' o _ _ _=>bg.le o _ _ j) l
theorem oK (j:c.Ok W0) {st:St} (p:c.hp=st.hp) (h2:c.nxt=st.nxt) {id n':Nat} (s:cZ st.hp id=a7) (x:st.nxt<=id) (N:st.nxt<=n') {y:Ty} (z:0<y.size) {xs:List y.den} {v:Value} {w:World}
  (f:Below c.w.heap.size c.w w) (e:TypeId) (d:List Value) (i:w.ownsRow c.w.heap.size e y.size v xs.length d) (A:dX (dM c.w c.free y) y.size xs d) (B:v.oneCell'=true) (D:y=.int .u8->e=lu):
  ∃c',x9 W0 c st c' {st with hp:=(id,.arr y 0 xs)::st.hp,nxt:=n'}/\c'.w=w/\bu c' (.slc id 0 a7) v:=by
 have hk:=xO p h2 s x;have hl: ∀b,bY.blk (.arr y 0 xs) ⟨0,v⟩=a6 b->c.w.heap.size<=b:=fun b E=>(World.ownsRow.lt i b E).1;have q:=Cx.Le.push (o:=.arr y 0 xs) (l:=⟨0,v⟩) (nxt:=n') (w:=w) hk (by omega) f.size f.block hl;have O:w.ownsRow W0.heap.size e y.size v xs.length d:=by
  refine⟨i.1, ?_⟩;rcases i.2 with h|⟨g,G,I,J,K,L⟩
  .exact .inl h
  .exact .inr ⟨g,G,I,J,az j.size K,L⟩
 have M:(c.push id (.arr y 0 xs) ⟨0,v⟩ n' w).ORel W0.heap.size id (.arr y 0 xs):=by
  refine⟨z,e,d, ?_,dX.mono (dM.mono q.free y) _ _ A,D⟩;simp_all [Cx.push,upd_same]
 refine⟨_,⟨?_,rfl,rfl,rfl,j.push hk (by omega) f hl M,q⟩,rfl, ?_⟩
 .simp[Cx.push,p]
 .simp only[bu];refine⟨B,.inl ⟨.arr y 0 xs,by simp[Cx.push,dG]⟩,fun t u S h=> ?_⟩;simp_all [Cx.push,ik,upd_same]
def DW (P:Program) (W0:World) (c:Cx) (st:St) (o:Oper) (a:Act) (K:bn->St->Option R) (r:R):Prop:=
 ∃z u d e,K z e=a6 r/\x9 W0 c st d e/\bu d z u/\((execOp a.eval o).run P c.w=.ok (.value u) d.w\/((execOp a.eval o).run P c.w=.ok .skip d.w/\u=undef))
theorem oI {st:St} {o:Oper} {a:Act} {K:bn->St->Option R} {s:Sem Value} {z:bn} {u:Value} {c':Cx} {d:St} (g:execOp a.eval o=(do pure (Next.value (<-s)))) (e:K z d=a6 r) (h2:x9 W0 c st c' d) (f:bu c' z u)
  (h:s.run P c.w=.ok u c'.w):DW P W0 c st o a K r:=⟨z,u,c',d,e,h2,f,.inl (by simp_all)⟩
theorem amM (hT:TOk P T) (A:c.Ok W0) {cl:Bool} {call:eF R} {o:Oper} {st:St} {a:Act} {K:bn->St->Option R} (B:c.hp=st.hp) (D:c.nxt=st.nxt) (S:o.op=.alloc t)
  (h:dH T cl call o st K=a6 r):DW P W0 c st o a K r:=by
 obtain⟨U,op,X,Y,Z,ab⟩:=o;simp only at S;subst S;simp only[dH]at h;replace h:=bK h;obtain⟨hk,h⟩:=h;obtain⟨i,z,hi,ak,al,hz,s,f⟩:=hT.info hk;have f: ∀u∈z.cells.toList,u.oneCell'=true:=fun u hu=>List.all_eq_true.1 f u hu;have ad:(Instr.alloc t true (.tuple #[])).run P c.w=.ok (.pointer (a6 ⟨c.w.heap.size,0,a7⟩)) (c.w.alloc (.cells z.cells t)):=by
  simp[Instr.alloc,zeroValue,typeInfo,hi,hz,newVar,newRow]
 have E:(alloc cl U (.box t (T.at t).zero) st fun id st=>K (.ptr id 0) st)=a6 r->DW P W0 c st ⟨U,.alloc t,X,Y,Z,ab⟩ a K r:=fun h=>by
  obtain⟨id,V,g,j,l,p⟩:=iC h;obtain⟨c',e,q,x⟩:=Ul A B D g j l (cs:=(T.at t).zero) (vs:=z.cells) (by grind [qM]) f t;exact oI rfl p e x (by rw[q];exact ad)
 split at h
 .rename_i et af G
  split at h
  .rename_i y hy
   replace h:=bK h;obtain⟨I,h⟩:=h;have I:0<y.size:=by simpa [Ky] using I
   obtain⟨J,n1,g,j,l,p⟩:=iC h;have W:z.cells.toList=[.slice a7 0 0]:=by
    rw[G]at s
    match hq:z.cells.toList,s with
    |[v],d=>
     simp only[au,List.map_nil,List.cons.injEq,and_true]at d;unfold uk at d
     grind
    |[],d=>simp at d
    |_::_::_,d=>simp at d
   obtain⟨c1,e,q,x⟩:=oK A B D g j l I (xs:=[]) (Below.refl _ _) (if y=.int .u8 then lu else et) [] (World.ownsRow_nil _ _ _ _) (by simp[dX]) (v:=.slice a7 0 0) rfl (fun h=>by simp[h]);obtain⟨id,V,L,M,N,O⟩:=iC p;obtain⟨c2,g1,g2,g3⟩:=Ul e.ok e.hp e.nxt L M N (cs:=[.slc J 0 a7]) (vs:=z.cells) (by simp_all [bg]) f t;rw[q]at g3;refine oI rfl O (e.trans g1) g3 ?_;simp_all
  .exact E h
 .rename_i fs af G
  rw[cond_eq_ite]at h;split at h
  .obtain⟨J,n1,g,j,l,p⟩:=iC h;have W:z.cells.toList=[.pointer a7,.slice a7 0 0]:=by
    rw[G]at s
    match hq:z.cells.toList,s with
    |[v,v'],d=>
     simp only[au,List.map_nil,List.cons.injEq,and_true]at d;obtain⟨ag,ah⟩:=d;have q1:v=.pointer a7:=by
      unfold uk at ag
      grind
     have q2:v'=.slice a7 0 0:=by
      unfold uk at ah
      grind
     rw[q1,q2]
    |[],d=>simp at d
    |[_],d=>simp at d
    |_::_::_::_,d=>simp at d
   obtain⟨c1,e,q,x⟩:=oK A B D g j l (y:=.int .u8) (by simp[Ty.size]) (xs:=[]) (Below.refl _ _) lu [] (World.ownsRow_nil _ _ _ _) (by simp[dX]) (v:=.slice a7 0 0) rfl (fun _=>rfl);obtain⟨V,L,M,N,O⟩:=Ji p;obtain⟨c2,g1,g2,g3⟩:=Gz e.ok e.hp e.nxt L M N (cs:=[.slf _,.slc J 0 a7]) (vs:=z.cells) t (fun c' ai hg aj an=>by
    rw[W];simp only[bg,bu];refine⟨⟨rfl,aj,fun _ _ _=>.inl trivial⟩, ?_,trivial⟩;have:=bu.le ai _ _ x
    assumption) f
   rw[q]at g3;refine oI rfl O (e.trans g1) g3 ?_;simp_all
  .exact E h
 .exact E h
theorem as7 (hT:TOk P T) (e:c.Ok W0) {cl:Bool} {call:eF R} {o:Oper} {st:St} {a:Act} {K:bn->St->Option R} {x:Operand} (f:c.hp=st.hp) (g:c.nxt=st.nxt) (i:bg c st.fr a.tmps.toList) (d:o.op=.box t x)
  (h:dH T cl call o st K=a6 r):DW P W0 c st o a K r:=by
 obtain⟨B,D,E,G,I,J⟩:=o;simp only at d;subst d;simp only[dH]at h;split at h
 .rename_i L j
  replace h:=bK h;obtain⟨hk,h⟩:=h;obtain⟨id,M,l,p,q,s⟩:=iC h;obtain⟨u,v⟩:=Hy j (dh i x);obtain⟨N,y,z,A⟩:=Ul e f g l p q u v t;refine oI rfl s y A ?_;rw[z];rfl
 .cases h
theorem ape {hp:fD} {y:Ty} {v:bn} {x:y.den} (h:v.as [] y=a6 x) {u:Value} (d:bu c v u):dM c.w c.free y x u.cells.toList:=by
 cases v with
 |val t' z=>
  simp only[bn.as]at h;have e:=fV h;subst e;rw[dY]at h;cases h;simp only[bu]at d;exact d.cells
 |nils=>
  simp only[bu]at d;subst d;cases y<;>simp only[bn.as,reduceCtorEq]at h;cases h;exact⟨a7,0,[],rfl,by simp,rfl,.inl rfl⟩
 |lst t' z b=>
  simp only[bn.as]at h;have e:=fV h;subst e;rw[dY]at h;cases h;simp only[bu]at d;exact d.1.cells
 |emp=>
  simp only[bu]at d;obtain⟨a,rfl⟩:=d;cases y<;>simp only[bn.as,reduceCtorEq]at h;cases h;exact⟨a,0,[],rfl,by simp,rfl,.inl rfl⟩
 |slc id ver g=>cases y<;>simp_all [bn.as,yC,cZ]
 |agg l=>
  simp only[bn.as]at h;replace h:=bK h;simp only[bu]at d;obtain⟨i,rfl,f,_⟩:=d;exact lZ h.2 f
 |_=>simp[bn.as]at h
theorem dX.replicate {e:Type} {Q:e->List Value->Prop} {size:Nat} {x:e} {d:List Value} (hd:d.length=size) (hx:Q x d): ∀n,dX Q size (List.replicate n x) (List.replicate n d).flatten
 |0=>by simp[dX]
 |n+1=>⟨d,(List.replicate n d).flatten,by rfl,hd,hx,dX.replicate hd hx n⟩
theorem AL (d:Array Value): ∀n,(madeCells d (n*d.size)).toList=(List.replicate n d.toList).flatten:=by
 intro n;by_cases h0:d.size=0
 .simp_all [madeCells]
 apply List.ext_getElem?;intro j;have f:(List.replicate n d.toList).flatten.length=n*d.size:=by simp
 by_cases e:j<n*d.size
 .have g: ∀n j,j<n*d.size->(List.replicate n d.toList).flatten[j]? =d.toList[j %d.size]? :=by
   intro n
   induction n with
   |zero=>omega
   |succ n h=>
    intro j e;rw[List.replicate_succ,List.flatten_cons]
    grind [Nat.mod_eq_of_lt,List.getElem?_append_right,Nat.mod_eq_sub_mod]
  grind [madeCells]
 simp_all [madeCells]
theorem Q5 {e:Ty} (place:Nat->Option (Nat×Nat)) (y: ∀i,place i=a6 (i*e.size,e.size)): ∀(j:List (Nat×bn)) (us:List (Nat×Value)) (xs f:List e.den) (g:List Value),FH e xs j=a6 f->dX (dM c.w c.free e) e.size xs g->
   us.map (·.1)=j.map (·.1)->bg c (j.map (·.2)) (us.map (·.2))-> ∃l,Instr.fill place g.toArray us=a6 l.toArray/\dX (dM c.w c.free e) e.size f l/\f.length=xs.length
 |[],us,xs,f,g,h,o,d,_=>by
  simp only[FH,Option.some.injEq]at h;subst h;cases us with
  |nil=>exact⟨g,rfl,o,rfl⟩
  |cons=>simp at d
 |(i,v)::j,us,xs,f,g,h,o,d,s=>by
  cases us with
  |nil=>simp at d
  |cons u us=>
   obtain⟨p,u⟩:=u;simp only[au,List.cons.injEq]at d;obtain⟨rfl,d⟩:=d;simp only[au,bg]at s;simp only[FH]at h;split at h
   .rename_i x E
    replace h:=bK h;obtain⟨q,h⟩:=h;have q:p<xs.length:=by simpa [Ky] using q
    have hd:=ape (hp:=[]) E s.1;have z:=dM.length _ _ _ hd;obtain⟨A,G,L,B,D,I,J⟩:=dX.at_ p xs g q o;subst I;have K:=dX.set x u.cells.toList z hd p xs B A D q o J G;obtain⟨l,g1,g2,g3⟩:=Q5 place y j us _ f _ h K d s.2;refine⟨l, ?_,g2,by rw[g3];simp⟩;rw[<-g1];simp only[Instr.fill,y];have M:u.cells.size=e.size:=by simpa using z
    rw[aq (by simp_all)];congr 1;have:=FX (p*e.size) u.cells (B++A++D) (by simp;omega)
    grind
   .cases h
end
end
section
open Option renaming some → a6, none → a7
open Bool renaming and_eq_true → af
open Nat renaming le_refl → ae, le_mul_of_pos_right → aX
open Go.RowKit
section
variable {P:Program} {T:TT} {W0:World} {c:Cx} {R:Type} {r:R} {t:TypeId}
theorem nU (hT:TOk P T) {n:Nat} {d:TypeId} (e:(T.at t).k=.slice d) (h:T.rowOf t n=true):P.underlying t=a6 (.slice d)/\(T.at d).known=true/\(T.at d).size=n/\0<n/\0<(T.at d).bytes:=by
 grind [kC]
theorem RY (hT:TOk P T) {f:TypeId} (hk:(T.at f).known=true) {e:Ty} {d:e.den} (hd:Dy e (T.at f).zero=a6 d):
  ∃i z,P.info? f=a6 i/\i.zero=a6 z/\i.size=(T.at f).size/\i.bytes=(T.at f).bytes/\dM c.w c.free e d z.cells.toList:=by
 obtain⟨i,z,g,h,j,l,o,p⟩:=hT.info hk
 grind [lZ,qM]
theorem YA (w:World) (d:List Value) (e:TypeId) (size n:Nat) (hl:d.length=n*size) (f:n<=maxLen):
  (w.alloc (.cells d.toArray e)).ownsRow w.heap.size e size (.slice (a6 ⟨w.heap.size,0,a7⟩) n n) n d:=
 ⟨hl,.inr ⟨w.heap.size,n,d.toArray,rfl,ae _,heap_alloc_new w _,ae _,f,by simpa using hl,by simp[<-hl]⟩⟩
theorem TZ (hT:TOk P T) (E:c.Ok W0) {cl:Bool} {call:eF R} {o:Oper} {st:St} {a:Act} {K:bn->St->Option R} {n:Nat} {f:Array (Nat×Operand)} (G:c.hp=st.hp) (I:c.nxt=st.nxt) (J:bg c st.fr a.tmps.toList)
  (l:o.op=.buildSlice t n f) (h:dH T cl call o st K=a6 r):DW P W0 c st o a K r:=by
 obtain⟨ah,op,ty,ai,aj,ak⟩:=o;simp only at l;subst l;simp only[dH]at h;split at h
 .rename_i g L
  split at h
  .rename_i e M
   split at h
   .rename_i d hd
    replace h:=bK h;obtain⟨q,h⟩:=h;simp only[af,leN,decide_eq_true_eq]at q;obtain⟨s,hk,N,u,_⟩:=nU hT L q.1;split at h
    .rename_i xs O
     obtain⟨id,n',S,U,V,W⟩:=iC h;obtain⟨i,z,X,Y,al,_,v⟩:=RY (c:=c) hT hk hd;have x:=dM.length _ _ _ v;have Z:z.cells.size=e.size:=by simpa using x
     have ab:=dX.replicate (Q:=dM c.w c.free e) x v n;obtain⟨j,g1,g2,g3⟩:=Q5 (c:=c) (fun i=>a6 (i*e.size,e.size)) (fun _=>rfl) _ (f.toList.map fun p=>(p.1,a.eval p.2)) _ _ _ O ab (by simp) (by
      simp only[List.map_map,Function.comp_def];have:=bg.map_eval (c:=c) J (f.toList.map (·.2));simp_all [Function.comp_def])
     have y:xs.length=n:=by rw[g3];simp
     have A:=dX.length _ _ g2;rw[y]at A;have an:n<=n*e.size:=aX n u;have B:=YA c.w j g e.size n A (by simp only[maxLen];omega);rw[<-y]at B;obtain⟨c',d1,d2,d3⟩:=oK E G I S U V u (lI c.w (.cells j.toArray g)) g j B g2 rfl (fun h=>hT.byte hk (by rw[M,h]));refine oI rfl W d1 d3 ?_;rw[d2];have D:(sizeOf g).run P c.w=.ok e.size c.w:=by rw[hT.sizeOf hk,N]
     have ao:(zeroValue g).run P c.w=.ok z c.w:=by simp[zeroValue,typeInfo,X,Y]
     have au:n*e.size<=2^24:=by omega
     have ad:Instr.fill (fun i=>a6 (i*e.size,e.size)) ((Array.range (n*e.size)).map (z.cells[· %z.cells.size]!)) (Array.map (fun p=>(p.1,a.eval p.2)) f).toList=a6 j.toArray:=by
      rw[<-g1];have:=AL z.cells n;rw[Z]at this;have h3:(Array.range (n*e.size)).map (z.cells[· %z.cells.size]!)=(List.replicate n z.cells.toList).flatten.toArray:=by
       apply Array.ext';rw[<-this];rfl
      rw[h3];simp
     by_cases h0:n*e.size=0
     .have ag:n=0:=by
       omega
      subst ag;simp only[Instr.buildSlice,Sem.run_bind,run_underlying s,Result.andThen_ok,D,Sem.run_ite,Nat.zero_mul,if_true,Sem.run_pure];simp only[Nat.zero_mul]at ad;rw[aq (by omega)];have av:Instr.fill (fun i=>a6 (i*e.size,e.size)) ((Array.range 0).map ((#[]:Array Value)[· %(#[]:Array Value).size]!)) (Array.map (fun p=>(p.1,a.eval p.2)) f).toList=a6 j.toArray:=by
       grind
      simp_all [newRow]
     .simp only[Instr.buildSlice,Sem.run_bind,run_underlying s,Result.andThen_ok,D,Sem.run_ite];simp_all [newRow]
    .cases h
   .cases h
  .cases h
 .cases h
theorem XT (hT:TOk P T) (y:c.Ok W0) {cl:Bool} {call:eF R} {o:Oper} {st:St} {a:Act} {K:bn->St->Option R} {l cp:Operand} (A:c.hp=st.hp) (B:c.nxt=st.nxt) (p:bg c st.fr a.tmps.toList)
  (q:o.op=.makeSlice t l cp) (h:dH T cl call o st K=a6 r):DW P W0 c st o a K r:=by
 obtain⟨aj,op,ty,ak,al,an⟩:=o;simp only at q;subst q;simp only[dH]at h;split at h
 .rename_i g D
  split at h
  .rename_i e ln f E hl G
   split at h
   .rename_i d hd
    replace h:=eu h;obtain⟨s,h⟩:=h;simp only[af,decide_eq_true_eq]at s;obtain⟨I,J,L,b3⟩:=s;obtain⟨M,hk,N,O,S⟩:=nU hT D I;obtain⟨id,n',U,V,W,X⟩:=iC h;obtain⟨i,z,Y,Z,ab,ao,u⟩:=RY (c:=c) hT hk hd;have v:=dM.length _ _ _ u;have j:z.cells.size=e.size:=by simpa using v
    have ad:=dX.replicate (Q:=dM c.w c.free e) v u ln.toNat;obtain⟨k,r1⟩:=pI hl (dh p l);obtain⟨k',r2⟩:=pI G (dh p cp);have au:f.toNat<=f.toNat*(T.at g).bytes:=aX _ S;have av:f.toNat<=140737488355328:=by grind [mW]
    have ag:f<=9223372036854775807:=by omega
    have ah:(i.bytes:Int)*f<=281474976710656:=by
     grind [mW]
    have aw:=run_make (P:=P) c.w t g i z M Y Z k k' ln f J L ah ag;have x:=AL z.cells f.toNat;rw[j]at x;have ax:((List.replicate f.toNat z.cells.toList).flatten).length=f.toNat*e.size:=by simp[j]
    have ai:(c.w.alloc (.cells (madeCells z.cells (f.toNat*i.size)) g)).ownsRow c.w.heap.size g e.size (.slice (a6 ⟨c.w.heap.size,0,a7⟩) ln.toNat f.toNat) (List.replicate ln.toNat d).length (List.replicate ln.toNat z.cells.toList).flatten:=by
     refine⟨by simp[j],.inr ⟨c.w.heap.size,f.toNat,madeCells z.cells (f.toNat*i.size),by simp,ae _,heap_alloc_new _ _,by simp;omega,by simp only[maxLen];omega, ?_, ?_⟩⟩
     .grind
     .rw[ab,N,x];have:f.toNat=ln.toNat+(f.toNat-ln.toNat):=by omega
      rw[this,<-List.replicate_append_replicate,List.flatten_append];rw[List.take_append];simp[j];rw[List.take_of_length_le (by simp[j])]
    obtain⟨c',d1,d2,d3⟩:=oK y A B U V W O (lI c.w _) g _ ai ad rfl (fun h=>hT.byte hk (by rw[E,h]));refine oI rfl X d1 d3 ?_;simp_all
   .cases h
  .cases h
 .cases h
end
end
section
open Option renaming some → a6, none → a7
open List renaming length_append → aj, nil_append → aO, eq_nil_of_length_eq_zero → aW
open Nat renaming le_refl → ae
open Go.RowKit
section
variable {P:Program} {T:TT} {W0:World} {c:Cx} {R:Type} {r:R} {t:TypeId}
theorem Ut {w:World} {B:Nat} {e:TypeId} {size n cap g:Nat} {f:List Value} (h:w.ownsRow B e size (.slice (a6 ⟨g,0,a7⟩) n cap) n f) {k:Nat} (hk:k<=n):
  w.ownsRow B e size (.slice (a6 ⟨g,0,a7⟩) k cap) k (f.take (k*size)):=by
 have hl:=h.1;have q:=Nat.mul_le_mul_right size hk;refine⟨by simp;omega,.inr ?_⟩;rcases h.2 with ⟨d,_⟩|⟨s,u,i,d,j,l,v,o,p,x⟩
 .cases d
 .cases d;refine⟨g,cap,i,rfl,j,l,by omega,o,p, ?_⟩
  grind
theorem D5 {d:TypeId} (x:P.underlying t=a6 (.slice d)) {w:World} {B:Nat} {i:TypeInfo} {z:Value} {size V:Nat} (hi:P.info? d=a6 i) (E:i.zero=a6 z) (Z:i.size=size) (ab:i.bytes=V)
  (G:z.cells.size=size) (I:0<size) {f:TypeId} {v:Value} {n:Nat} {o:List Value} (h:w.ownsRow B f size v n o) {a:Option Addr} {m cp:Nat} {news:List Value} (hl:news.length=m*size) (J: ∀u∈news,u.oneCell'=true)
  (ad:news=[]\/ ∃b off,a=a6 ⟨b,off,a7⟩/\fE w b off news) (K:n+m<=maxLen) (L:(n+m)*V<=140737488355328) (M:B<=w.heap.size) (ty:TypeId):
  ∃l w' q,(Builtin.append_ #[t,t] ty #[v,.slice a m cp]).run P w=.ok l w'/\w'.ownsRow B q size l (n+m) (o++news)/\w.grownBy w' v.ownBlock/\(l.ownBlock=v.ownBlock\/l.ownBlock=a6 w.heap.size)/\l.oneCell'=true/\(q=f\/q=d):=by
 by_cases hm:m=0
 .subst hm;have hn:news=[]:=aW (by simpa using hl);subst hn;obtain⟨N,W,s,af,_⟩:=oP h;refine⟨v,w,f, ?_,by simpa using h,⟨rfl,rfl,rfl,ae _,fun _ _ _=>rfl⟩,.inl rfl,by rw[s];rfl,.inl rfl⟩;rw[s];cases a<;>cases N<;>simp[Builtin.append_,run_underlying x,sizeOf,typeInfo,hi,Builtin.lenOf,Builtin.firstCells,loadCells,loadCellsFrom,af,storeCells]
 .have ag:news≠[]:=by
   intro h0;rw[h0]at hl;have:=Nat.mul_pos (Nat.pos_of_ne_zero hm) I;simp at hl;omega
  obtain⟨b,off,rfl,hc⟩:=ad.resolve_left ag;have D: ∀j u,news[j]? =a6 u->w.cell? ((⟨b,off,a7⟩:Addr).add j)=a6 u:=fun j u hj=>by
   obtain⟨ah,ai⟩:=List.getElem?_eq_some_iff.1 hj;rw[jm,hc j ah,ai]
  subst Z;subst ab;by_cases he:f=d
  .subst he;obtain⟨l,w',q,y,O,_,S⟩:=run_append_own_at (P:=P) w B t ty f i z i.size i.bytes x hi E rfl rfl G I v n o h ⟨b,off,a7⟩ m cp news hl D J K L M;obtain⟨N,W,s,_⟩:=oP y;exact⟨l,w',f,q,y,O,S,by rw[s];rfl,.inl rfl⟩
  .
   rcases h.2 with ⟨rfl,rfl⟩|⟨g,p,A,rfl,ak,X,ax,al,an,ay⟩
   .have hx:o=[]:=aW (by simpa using h.1);subst hx;obtain⟨l,w',q,y,O,_,S⟩:=run_append_own_at (P:=P) w B t ty d i z i.size i.bytes x hi E rfl rfl G I (.slice a7 0 0) 0 [] (World.ownsRow_nil _ _ _ _) ⟨b,off,a7⟩ m cp news hl D J K L M;obtain⟨N,W,s,_⟩:=oP y;exact⟨l,w',d,q,y,O,S,by rw[s];rfl,.inr rfl⟩
   .by_cases hroom:n+m<=p
    .have ao:n*i.size+news.length<=A.size:=by rw[hl,an,<-Nat.add_mul];exact Nat.mul_le_mul_right _ hroom
     have hf:=run_firstCells_some (P:=P) w i.size m ⟨b,off,a7⟩ m cp news hl D;have Y:=run_storeCells_at P g (n*i.size) f news 0 A w X (by simpa using ao) J;simp only[Nat.add_zero]at Y;have hr:(Builtin.append_ #[t,t] ty #[.slice (a6 ⟨g,0,a7⟩) n p,.slice (a6 ⟨b,off,a7⟩) m cp]).run P w=
       .ok (.slice (a6 ⟨g,0,a7⟩) (n+m) p) (w.setRow g (A.toList.take (n*i.size)++news++A.toList.drop (n*i.size+news.length)).toArray):=by
      simp[Builtin.append_,run_underlying x,sizeOf,typeInfo,hi,Builtin.lenOf,hroom,hf,Addr.add_lit,Y]
     have U:(o++news).length=(n+m)*i.size:=by grind
     refine⟨_,_,f,hr,⟨U,.inr ⟨g,p,_,rfl,ak,setRow_heap w g A _ f _ X,hroom,al, ?_, ?_⟩⟩,⟨rfl,rfl,rfl,by simp,fun k _ hk=>setRow_other w g k _ (fun e=>hk (by simp[Value.ownBlock,e]))⟩,Or.inl rfl,rfl,.inl rfl⟩
     all_goals grind
    .have holds: ∀j u,o[j]? =a6 u->w.cell? ((⟨g,0,a7⟩:Addr).add j)=a6 u:=h.cells (g:=g) rfl;have hr:=run_append_grow (P:=P) w t ty d i z x hi E ⟨g,0,a7⟩ n p o h.1 holds ⟨b,off,a7⟩ m cp news hl D (by omega) (by grind [maxLen]) (growslice_fits (by omega) L);have au:=grownCap_ge w (n+m) p d;have aw:grownCap w (n+m) p d<=maxLen:=grownCap_le_maxLen w (n+m) p d K;have U:(o++news).length=(n+m)*i.size:=by rw[aj,h.1,hl,Nat.add_mul]
     refine⟨_,_,d,hr,⟨U,.inr ⟨w.heap.size,_,_,rfl,M,heap_alloc_new w.drew _,au,aw, ?_, ?_⟩⟩,⟨rfl,rfl,rfl,by simp,fun k hk _=>Below.heap_alloc w.drew _ k hk⟩,Or.inr rfl,rfl,.inr rfl⟩
     .simp only[Array.size_append,List.size_toArray,size_zeroCells,G,h.1,hl,<-Nat.add_mul];simp_all
     grind
theorem Zv (hT:TOk P T) {d:TypeId} (o:P.underlying t=a6 (.slice d)) {w:World} {i:TypeInfo} {z:Value} {size p:Nat} (hi:P.info? d=a6 i) (q:i.zero=a6 z) (A:i.size=size) (B:i.bytes=p)
  (D:z.cells.size=size) (E:0<size) {av:Option Addr} {b off m cp:Nat} {news:List Value} (hl:news.length=m*size) (G: ∀u∈news,u.oneCell'=true)
  (I:fE w b off news) (O:0<m) (S:m<=maxLen) (U:m*p<=140737488355328) (ty:TypeId):
  ∃e w' g,(Builtin.append_ #[t,t] ty #[.slice av 0 0,.slice (a6 ⟨b,off,a7⟩) m cp]).run P w=.ok e w'/\w'.ownsRow w.heap.size g size e m news/\Below w.heap.size w w'/\e.oneCell'=true/\g=d:=by
 have s: ∀j u,news[j]? =a6 u->w.cell? ((⟨b,off,a7⟩:Addr).add j)=a6 u:=fun j u J=>by
  obtain⟨K,L⟩:=List.getElem?_eq_some_iff.1 J;rw[jm,I j K,L]
 subst A;subst B;cases av with
 |none=>
  obtain⟨e,w',g,l,f,_,V⟩:=run_append_own_at (P:=P) w w.heap.size t ty d i z i.size i.bytes o hi q rfl rfl D E (.slice a7 0 0) 0 [] (World.ownsRow_nil _ _ _ _) ⟨b,off,a7⟩ m cp news hl s G (by omega) (by simp_all) (ae _);obtain⟨av,W,M,_⟩:=oP l;rw[Nat.zero_add,aO]at l;exact⟨e,w',d,g,l,⟨f.os,f.tape,f.output,f.size,fun k hk=>f.block k hk (by simp[Value.ownBlock])⟩,by rw[M];rfl,rfl⟩
 |some N=>
  have hr:=run_append_grow (P:=P) w t ty d i z o hi q N 0 0 [] (by simp) (fun j v h=>by simp at h) ⟨b,off,a7⟩ m cp news hl s (by omega) (by grind [maxLen]) (growslice_fits (by omega) (by simp_all));have x:=grownCap_ge w (0+m) 0 d;have y:grownCap w (0+m) 0 d<=maxLen:=grownCap_le_maxLen w (0+m) 0 d (by omega);simp only[Nat.zero_add]at hr x y;refine⟨_,_,d,hr, ?_, ?_,rfl,rfl⟩
  .refine⟨hl,.inr ⟨w.heap.size,_,_,rfl,ae _,heap_alloc_new w.drew _,x,y, ?_, ?_⟩⟩
   .have:=Nat.add_mul m (grownCap w m 0 d-m) i.size;simp_all [size_zeroCells]
   simp_all
  .exact⟨rfl,rfl,rfl,by simp,fun k hk=>Below.heap_alloc w.drew _ k hk⟩
theorem LK {u d:TypeId} (l:P.underlying t=a6 (.slice d)) (o:P.underlying u=a6 .string) {w:World} {B:Nat} {i:TypeInfo} (hi:P.info? d=a6 i) (q:i.zero=a6 (.int .u8 0)) (z:i.size=1) (x:i.bytes=1)
  {v:Value} {n:Nat} {h:List Value} (p:w.ownsRow B d 1 v n h) (s:ByteArray) (D:n+s.size<=140737488355328) (E:B<=w.heap.size) (ty:TypeId):
  ∃e w',(Builtin.append_ #[t,u] ty #[v,.string s]).run P w=.ok e w'/\w'.ownsRow B d 1 e (n+s.size) (h++Lib.strCells s)/\w.grownBy w' v.ownBlock/\(e.ownBlock=v.ownBlock\/e.ownBlock=a6 w.heap.size)/\e.oneCell'=true:=by
 obtain⟨e,w',f,A,G,L⟩:=Lib.run_append_own_string (P:=P) w B t u ty d i l o hi q z x v n h p s (by simp only[maxLen];omega) D E;obtain⟨M,N,I,_⟩:=oP A;refine⟨e,w',f,A,G, ?_,by rw[I];rfl⟩;have O:h.length=n:=by simpa using p.1
 rcases p.2 with ⟨rfl,rfl⟩|⟨g,y,J,rfl,S,K,U,V,W,X⟩
 .by_cases hm:s.size=0
  .simp_all
  .right;have hr:=run_append_nil_string (P:=P) w t u ty d i (.int .u8 0) l o hi q s (by omega) (by omega) (by rw[x];omega);rw[hr]at f;cases f;rfl
 .by_cases hroom:n+s.size<=y
  .left;have hr:=Lib.run_append_room_string (P:=P) w t u ty d i l o hi z g n y J K s hroom (by omega);rw[hr]at f;cases f;rfl
  .right;have holds: ∀j u,h[j]? =a6 u->w.cell? ((⟨g,0,a7⟩:Addr).add j)=a6 u:=p.cells (g:=g) rfl;have hr:=Lib.run_append_grow_string (P:=P) w t u ty d i (.int .u8 0) l o hi q ⟨g,0,a7⟩ n y h (by simp_all) holds s (by omega) (by omega) (by rw[x];exact growslice_fits (by omega) (by omega));rw[hr]at f;cases f;rfl
end
end
section
open Option renaming some → a6, none → a7
open Bool renaming and_eq_true → af
open List renaming length_append → aj, map_cons → au, nil_append → aO
open Nat renaming le_refl → ae, eq_of_beq_eq_true → ah, le_mul_of_pos_right → aX
open Go.RowKit
section
variable {P:Program} {T:TT} {W0:World} {c:Cx} {R:Type} {r:R} {t:TypeId}
theorem pG {d:Type} {l:List d} {b:Nat} (h:dZ l b=true):l.length*b<=140737488355328:=by
 unfold dZ mW at h;simp_all
theorem dX.one {w:World} {fr:Nat->Prop} {e:Ty}: ∀(xs:List e.den) (g:List Value),dX (dM w fr e) e.size xs g-> ∀u∈g,u.oneCell'=true
 |[],_,h=>by cases h;simp
 |y::i,_,⟨d,j,l,q,o,p⟩=>by
  subst l;intro u f;rcases List.mem_append.1 f with f|f
  .exact dM.one _ _ _ o u f
  .exact dX.one i j p u f
theorem ac5 (g:c.Ok W0) {st:St} (A:c.hp=st.hp) (B:c.nxt=st.nxt) {e:Ty} (D:0<e.size) {id d:Nat} {xs:List e.den} (i:cZ c.hp id=a6 (.arr e d xs)) {f:Value} {w':World} {o:TypeId} {ws:List e.den} {p:List Value}
  (N:w'.ownsRow W0.heap.size o e.size f ws.length p) (q:dX (dM c.w c.free e) e.size ws p) (l:c.w.grownBy w' (c.mu id).v.ownBlock) (E: ∀b,(c.mu id).v.ownBlock=a6 b->W0.heap.size<=b)
  (O:f.ownBlock=(c.mu id).v.ownBlock\/f.ownBlock=a6 c.w.heap.size) (G:f.oneCell'=true) (I:e=.int .u8->o=lu):
  ∃c',x9 W0 c st c' {st with hp:=gX st.hp id (.arr e (d+1) ws)}/\c'.w=w'/\bu c' (.slc id (d+1) a7) f:=by
 have J:Below W0.heap.size W0 w':=g.bel.grown l g.size E;have s:(bY.arr e d xs).like (c.mu id) (.arr e (d+1) ws) ⟨0,f⟩:=⟨by omega,fun h=>by omega⟩;have u: ∀b,b<c.w.heap.size->(bY.arr e d xs).blk (c.mu id)≠a6 b->w'.heap[b]? =c.w.heap[b]? :=fun b j S=>l.block b j (by
  grind [bY.blk])
 have x: ∀b,(bY.arr e (d+1) ws).blk ⟨0,f⟩=a6 b->(bY.arr e d xs).blk (c.mu id)=a6 b\/c.w.heap.size<=b:=fun b j=>by
  simp only[bY.blk]at j ⊢
  grind
 have y: ∀(b:Nat) (L:Loop),(bY.arr e d xs).blk (c.mu id)=a6 b->c.w.heap[b]? =a6 (Obj.loop L)-> ∃K:Loop,w'.heap[b]? =a6 (Obj.loop K):=fun b L j q=>absurd q ((g.obj id _ i).no_loop (by simp) j);have z:=Cx.Le.put (w:=w') g i s l.size u x y;refine⟨c.put id (.arr e (d+1) ws) ⟨0,f⟩ w',⟨by simp[Cx.put,A],B,rfl,rfl,g.put i s J l.size u x y ?_,z⟩,rfl, ?_⟩
 .refine⟨D,o,p, ?_,dX.mono (dM.mono z.free e) _ _ q,I⟩;simp_all [Cx.put,upd_same]
 .simp only[bu];refine⟨G,.inl ⟨_,Cx.put_get i⟩,fun U V W M=> ?_⟩;rw[Cx.put_get i]at M;simp_all [ik,Cx.put,upd_same]
theorem LJ (hT:TOk P T) (o:c.Ok W0) {st:St} (J:c.hp=st.hp) (K:c.nxt=st.nxt) {f:TypeId} (L:P.underlying t=a6 (.slice f)) (hk:(T.at f).known=true) {e:Ty} (j:(T.at f).size=e.size) (M:0<e.size) (N:0<(T.at f).bytes)
  {id p:Nat} {xs:List e.den} (y:cZ c.hp id=a6 (.arr e p xs)) {v:Value} {k cp:Nat} {g:Option Addr} (A:(c.mu id).v=.slice g xs.length cp) (az:k<=xs.length) (O:v=.slice g k cp)
  {d:List e.den} {a:Option Addr} {m:Nat} {s:List Value} (u:dX (dM c.w c.free e) e.size d s) (S:s=[]\/ ∃b off,a=a6 ⟨b,off,a7⟩/\b<c.w.heap.size/\fE c.w b off s)
  (aA:((xs.take k++d).length)*(T.at f).bytes<=140737488355328) (ty:TypeId) (U:e=.int .u8->f=lu):
  ∃c' x,x9 W0 c st c' {st with hp:=gX st.hp id (.arr e (p+1) (xs.take k++d))}/\(Builtin.append_ #[t,t] ty #[v,.slice a d.length m]).run P c.w=.ok x c'.w/\bu c' (.slc id (p+1) a7) x:=by
 obtain⟨_,V,W,B,X,Y⟩:=o.obj id _ y;obtain⟨i,z,Z,ab,ad,hz,ag,aB⟩:=hT.info hk;have ai:z.cells.size=e.size:=by
  have:=congrArg List.length ag;rw[hT.zlen hk,j]at this;simpa using this
 have ak:=dX.take k _ _ X;have al:=dX.length _ _ u;have an:=dX.one _ _ u;have aF:(xs.take k).length=k:=by simp;omega
 have D:c.w.ownsRow W0.heap.size V e.size v k (W.take (k*e.size)):=by
  rw[A]at B;rcases B.2 with ⟨l,e2⟩|⟨g',aG,aH,l,_⟩
  .simp only[Value.slice.injEq]at l;obtain⟨rfl,_,rfl⟩:=l;simp_all [World.ownsRow_nil]
  grind [Ut]
 have ao:k+d.length<=maxLen:=by
  have h2:k+d.length<=(k+d.length)*(T.at f).bytes:=aX _ N
  grind [maxLen]
 obtain⟨x,w',l,hr,av,E,G,aw,ax⟩:=D5 L Z hz ab ad (by rw[ai,j]) (by omega) (by rw[j];exact D) (a:=a) (cp:=m) (by rw[j];exact al) an (S.imp (fun h=>h) fun⟨b,off,q1,_,q3⟩=>⟨b,off,q1,q3⟩) ao
  (by simp_all) o.size ty
 rw[j]at av;have I:v.ownBlock=(c.mu id).v.ownBlock:=by rw[A,O];cases g<;>rfl
 have ay: ∀b,(c.mu id).v.ownBlock=a6 b->W0.heap.size<=b:=fun b hb=>(World.ownsRow.lt D b (I.trans hb)).1;rw[I]at E G;obtain⟨c',d1,d2,d3⟩:=ac5 o J K M y (ws:=xs.take k++d) (by simp_all) (dX.append _ _ _ _ ak u) E ay G aw (fun h=>ax.elim (fun q=>q.trans (Y h)) fun q=>q.trans (U h))
 grind
theorem He {w:World} {fr:Nat->Prop} (s:List UInt8):dX (dM w fr (.int .u8)) (Ty.int .u8).size (bF s) (Lib.strCells ⟨s.toArray⟩):=by
 induction s with
 |nil=>rfl
 |cons b l d=>
  refine⟨[.int .u8 b.toNat],Lib.strCells ⟨l.toArray⟩,by simp[Lib.strCells],rfl,rfl, ?_⟩
  assumption
theorem afd (hT:TOk P T) (A:c.Ok W0) {cl:Bool} {dst:Option Tmp} {ty:TypeId} {pos:String} {after:Array Edge} {guard:Option (Nat×Bool)} {st:St} {a:Act} {K:bn->St->Option R} {args:Array Operand} {t t':TypeId} {s x:bn} (J:c.hp=st.hp) (X:c.nxt=st.nxt) (Y:bg c st.fr a.tmps.toList)
  (B:args.toList.map (fG st.fr)=[s,x]) (h:xu T cl dst t t' s x st K=a6 r):DW P W0 c st ⟨dst,.call {callee:=.builtin .append,args:=args,argTypes:=[t,t'].toArray},ty,pos,after,guard⟩ a K r:=by
 obtain⟨al⟩:=args
 match al,B with
 |[D,L],B=>
  simp only[au,List.map_nil,List.cons.injEq,and_true]at B;obtain⟨rfl,rfl⟩:=B;have o:=dh Y D;have E:=dh Y L;have aH: ∀w,(execOp a.eval ⟨dst,.call {callee:=.builtin .append,args:=[D,L].toArray,argTypes:=[t,t'].toArray},ty,pos,after,guard⟩).run P w=
    ((Builtin.append_ #[t,t'] ty #[a.eval D,a.eval L]).run P w).andThen fun v G=>.ok (.value v) G:=fun w=>by
   simp[execOp,resolve,invoke,builtin,Sem.run_bind]
  unfold xu at h;split at h
  .rename_i d y an ao
   rw[ao]at E;simp only[bu]at E;have E:=E.str_inv;split at h
   .rename_i Z
    replace h:=bK h;obtain⟨hc,h⟩:=h;simp only[af]at hc;obtain⟨⟨av,aw⟩,ab⟩:=hc;have ad:=BX hT av;obtain⟨hu,hk,aI,aJ,aK⟩:=nU hT an aw;have ab:(T.at d).bytes=1:=ah ab;obtain⟨i,z,M,aP,aQ,hz,aS,aU⟩:=hT.info hk;have N:d=lu:=hT.byte hk Z;have ag:i.zero=a6 (.int .u8 0):=by
     rcases(hT d hk).2.2.1 with q|q
     .simp_all
     .rw[Z]at q;have ax:(T.at d).k=.int .u8:=by
       cases hkq:(T.at d).k with
       |int k=>simp_all [jU]
       |struct fs=>
        rw[hkq]at q;simp only[jU]at q;cases fs with
        |nil=>simp[iV]at q
        |cons f l=>
         grind [iV]
       |slice e'=>
        rw[hkq]at q;simp only[jU]at q;cases hq:(T.at e').ty<;>rw[hq]at q<;>simp at q
       |bool=>rw[hkq]at q;cases q
       |str=>rw[hkq]at q;cases q
       |other=>rw[hkq]at q;cases q
       |fn=>rw[hkq]at q;cases q
       |ptr e'=>rw[hkq]at q;cases q
       |map _ _=>rw[hkq]at q;cases q
      exact hT.zero_byte hk ax M
    cases hsv:fG st.fr D with
    |nils=>
     rw[hsv]at h o;simp only at h;simp only[bu]at o;obtain⟨j,h⟩:=eu h;have j:y.length<=140737488355328:=of_decide_eq_true j;obtain⟨v',G,hr,p,g,ai,O⟩:=LK (ty:=ty) hu ad M ag (by omega) (by omega) (World.ownsRow_nil c.w c.w.heap.size d 1) ⟨y.toArray⟩ (by show 0+y.toArray.size<=_;simpa using j) (ae _);obtain⟨id,n',f1,f2,f3,f4⟩:=iC h;have ay:Below c.w.heap.size c.w G:=⟨g.os,g.tape,g.output,g.size,fun k hk=>g.block k hk (by simp[Value.ownBlock])⟩;have az:0+(⟨y.toArray⟩:ByteArray).size=(bF y).length:=by show 0+y.toArray.size=_;simp[bF]
     rw[aO,az]at p;obtain⟨S,U,d2,V⟩:=oK A J X f1 f2 f3 (y:=.int .u8) (by simp[Ty.size]) ay d _ p (He y) O (fun _=>N);exact⟨_,_,S,_,f4,U,V,.inl (by simp_all)⟩
    |slc id ver vw=>
     rw[hsv]at h o;simp only at h;split at h
     .rename_i u xs I
      rw[<-J]at I;replace h:=bK h;obtain⟨W,h⟩:=h;have W:u=ver:=by simpa using W
      subst W;split at h
      .replace h:=eu h;obtain⟨j,h⟩:=h;have j:=pG j;simp only[bu]at o;have aA:=(o.2.2 _ _ _ I).2 rfl;simp only[ik]at aA;obtain⟨_,e0,zs,ak,hL,aB⟩:=A.obj id _ I;have aF:e0=d:=(aB rfl).trans N.symm;subst aF;have aG:(⟨y.toArray⟩:ByteArray).size=(bF y).length:=by show y.toArray.size=_;simp[bF]
       obtain⟨v',G,hr,p,g,ai,O⟩:=LK (ty:=ty) hu ad M ag (by omega) (by omega) ak ⟨y.toArray⟩ (by simp_all) A.size;rw[aG,<-aj]at p;obtain⟨S,U,d2,V⟩:=ac5 A J X (e:=.int .u8) (by simp[Ty.size]) I p (dX.append _ _ _ _ hL (He y)) g (fun b hb=>(World.ownsRow.lt ak b hb).1) ai O (fun _=>N);exact⟨_,_,S,_,h,U,V,.inl (by simp_all)⟩
      .cases h
     .cases h
    |_=>rw[hsv]at h;cases h
   .cases h
  .cases h
theorem aja (hT:TOk P T) (D:c.Ok W0) {cl:Bool} {call:eF R} {o:Oper} {st:St} {a:Act} {K:bn->St->Option R} {args:Array Operand} {ts:Array TypeId} (E:c.hp=st.hp) (U:c.nxt=st.nxt) (aH:bg c st.fr a.tmps.toList)
  (ho:o.op=.call {callee:=.builtin .append,args:=args,argTypes:=ts}) (h:dH T cl call o st K=a6 r):DW P W0 c st o a K r:=by
 obtain⟨aV,op,O,aW,bd,bf⟩:=o;simp only at ho;subst ho;simp only[dH,jo]at h;split at h<;>try (cases h;done)
 all_goals try (rename_i hb _;cases hb;done)
 rename_i s x hb ab
 split at h<;>try (cases h;done)
 rename_i t t' aI
 obtain⟨ts⟩:=ts;simp only at aI;subst aI;rw[cond_eq_ite]at h;split at h
 rotate_left
 .grind [afd]
 rename_i ai
 have ai:t=t':=by simpa using ai
 subst ai;obtain⟨al⟩:=args
 match al,ab with
 |[s0,x0],ab=>
  simp only[au,List.map_nil,List.cons.injEq,and_true]at ab;obtain⟨rfl,rfl⟩:=ab;have f:=dh aH s0;have hx:=dh aH x0;have aJ: ∀w,(execOp a.eval ⟨aV,.call {callee:=.builtin .append,args:=[s0,x0].toArray,argTypes:=[t,t].toArray},O,aW,bd,bf⟩).run P w=
    ((Builtin.append_ #[t,t] O #[a.eval s0,a.eval x0]).run P w).andThen fun v w'=>.ok (.value v) w':=fun w=>by
   simp[execOp,resolve,invoke,builtin,Sem.run_bind]
  unfold FB at h;split at h
  .rename_i et ad
   split at h
   .rename_i e he
    split at h
    .cases h
    .rename_i j aK
     rw[<-E]at aK;obtain⟨a2,m2,ak,aP,l,ag⟩:=VJ D aK hx;split at h
     .
      rename_i V
      rw[V]at f;simp only[bu]at f;replace h:=eu h;obtain⟨p,h⟩:=h;simp only[af]at p;obtain⟨y,hk,d,G,I⟩:=nU hT ad p.1;have W:=pG p.2;obtain⟨i,z,J,an,ao,hz,aw,bt⟩:=hT.info hk;have ax:z.cells.size=e.size:=by
       have:=congrArg List.length aw;rw[hT.zlen hk,d]at this;simpa using this
      have ay:=dX.length _ _ l;have az:=dX.one _ _ l;have aQ:0+j.length<=maxLen:=by
       have h2:j.length<=j.length*(T.at et).bytes:=aX _ I;simp only[maxLen];omega
      obtain⟨v',w',e1,hr,X,L,dd,aA,aB⟩:=D5 y J hz an ao (by rw[ax,d]) (by omega) (World.ownsRow_nil c.w c.w.heap.size et (T.at et).size) (a:=a2) (cp:=m2) (by rw[d];exact ay) az (ag.imp (fun h=>h) fun⟨b,aS,q1,_,q3⟩=>⟨b,aS,q1,q3⟩) aQ
       (by simp_all) (ae _) O
      rw[d,aO,Nat.zero_add]at X;obtain⟨id,n',f1,f2,f3,f4⟩:=iC h;have cb:Below c.w.heap.size c.w w':=⟨L.os,L.tape,L.output,L.size,fun k hk=>L.block k hk (by simp[Value.ownBlock])⟩;obtain⟨M,A,d2,N⟩:=oK D E U f1 f2 f3 G cb e1 ak X l aA (fun q=>(aB.elim (fun q=>q) fun q=>q).trans (hT.byte hk (by rw[he,q])));exact⟨_,_,M,_,f4,A,N,.inl (by simp_all)⟩
     .
      rename_i V
      rw[V]at f;simp only[bu]at f;obtain⟨Y,f⟩:=f;replace h:=eu h;obtain⟨p,h⟩:=h;simp only[af]at p;obtain⟨y,hk,d,G,I⟩:=nU hT ad p.1;have W:=pG p.2;obtain⟨i,z,J,an,ao,hz,aw,bt⟩:=hT.info hk;have ax:z.cells.size=e.size:=by
       have:=congrArg List.length aw;rw[hT.zlen hk,d]at this;simpa using this
      have ay:=dX.length _ _ l;have az:=dX.one _ _ l;have aQ:0+j.length<=maxLen:=by
       have h2:j.length<=j.length*(T.at et).bytes:=aX _ I;simp only[maxLen];omega
      cases hlt:Ky 0 j.length with
      |false=>
       rw[hlt]at h;simp only[ac]at h;have h0:j.length=0:=by simpa [Ky] using hlt
       refine⟨.emp,.slice Y 0 0,c,st,h,x9.refl D E U,by simp only[bu];exact⟨Y,rfl⟩,.inl ?_⟩;rw[aJ,f,aP,h0];cases a2<;>cases Y<;>simp[Builtin.append_,run_underlying y,sizeOf,typeInfo,J,Builtin.lenOf,Builtin.firstCells,loadCells,loadCellsFrom,storeCells]
      |true=>
       rw[hlt]at h;simp only[aa]at h;have cc:0<j.length:=by simpa [Ky] using hlt
       have cd:ak≠[]:=by
        grind [Nat.mul_pos]
       obtain⟨b,aS,rfl,_,hc⟩:=ag.resolve_left cd;obtain⟨v',w',e1,hr,X,L,aA,aB⟩:=Zv hT y J hz an ao (by rw[ax,d]) (by omega) (w:=c.w) (av:=Y) (cp:=m2) (by rw[d];exact ay) az hc cc (by omega) W O;rw[d]at X;obtain⟨id,n',f1,f2,f3,f4⟩:=iC h;obtain⟨M,A,d2,N⟩:=oK D E U f1 f2 f3 G L e1 ak X l aA (fun q=>aB.trans (hT.byte hk (by rw[he,q])));exact⟨_,_,M,_,f4,A,N,.inl (by simp_all)⟩
     .
      rename_i id ch vw V
      rw[V]at f;split at h
      .rename_i e' u xs Z
       rw[<-E]at Z;replace h:=bK h;obtain⟨aF,h⟩:=h;have aF:u=ch:=by simpa using aF
       subst aF;split at h
       .rename_i df aG
        have cn:=fV aG;cases cn;rw[dY]at aG;cases aG;simp only[bu]at f;have S:=(f.2.2 _ _ _ Z).2 rfl;obtain⟨_,e0,zs,cu,hL,dl⟩:=D.obj id _ Z;obtain⟨g,cp,hv,p,_⟩:=oP cu;split at h
        .replace h:=eu h;obtain⟨B,h⟩:=h;simp only[af]at B;obtain⟨y,hk,d,G,I⟩:=nU hT ad B.1;have W:=pG B.2;simp only[ik]at S;rw[hv]at S;obtain⟨M,v',A,d2,N⟩:=LJ hT D E U y hk d G I Z hv (ae _) S (m:=m2) l ag (by simp_all) O (fun q=>hT.byte hk (by rw[he,q]));rw[List.take_length]at A;exact⟨_,_,M,_,h,A,N,.inl (by simp_all)⟩
        .rename_i lo J
         replace h:=eu h;obtain⟨B,h⟩:=h;simp only[af,bC,beq_iff_eq]at B;obtain⟨B,rfl,cv⟩:=B;obtain⟨y,hk,d,G,I⟩:=nU hT ad B;have W:=pG cv;simp only[ik]at S;obtain⟨g',m',dp,aU,p1,p2,p3,S⟩:=S;rw[hv]at aU;cases aU;have dc:a.eval s0=.slice g J.toNat cp:=by
          simp_all [Addr.add]
         obtain⟨M,v',A,d2,N⟩:=LJ hT D E U y hk d G I Z hv (k:=J.toNat) (by omega) dc (m:=m2) l ag W O (fun q=>hT.byte hk (by rw[he,q]));exact⟨_,_,M,_,h,A,N,.inl (by rw[aJ,aP,d2];rfl)⟩
       .cases h
      .cases h
     .cases h
   .cases h
  .cases h
end
end
section
open Option renaming some → a6, none → a7
open Bool renaming and_eq_true → af
open List renaming append_assoc → ai, length_append → aj, map_cons → au, nil_append → aO, drop_of_length_le → aU
open Nat renaming le_refl → ae, eq_of_beq_eq_true → ah, le_trans → az
open Go.RowKit
section
variable {P:Program} {T:TT} {W0:World} {c:Cx} {R:Type} {r:R} {t:TypeId}
theorem DC {cs vs d:List bn} {off:Nat} (h:putCells cs off vs=a6 d):off+vs.length<=cs.length/\d=cs.take off++vs++cs.drop (off+vs.length):=by
 unfold putCells at h;replace h:=bK h;simp_all
theorem J4 (hT:TOk P T) (hk:(T.at t).known=true) {w:World} {g o:Nat} {d:Array Value} {e:TypeId} (f:w.heap[g]? =a6 (.cells d e (0,0))) {v:Value} (hl:v.cells.size=(T.at t).size) (h:o+v.cells.size<=d.size)
  (i: ∀u∈v.cells.toList,u.oneCell'=true):
  (Instr.storeAt t (.pointer (a6 ⟨g,o,a7⟩)) v).run P w=.ok () (w.setRow g (d.toList.take o++v.cells.toList++d.toList.drop (o+v.cells.size)).toArray):=by
 have j:=run_storeCells_at P g o e v.cells.toList 0 d w f (by simpa using h) i;simp only[Nat.add_zero,Array.length_toList]at j;simp only[Instr.storeAt,Instr.sureAddr,Sem.run_bind,Sem.run_pure,Result.andThen_ok,storeVar,hT.sizeOf hk w,Sem.run_ite];simp_all
theorem ajc (hT:TOk P T) (s:c.Ok W0) {dst:Option Nat} {ty:TypeId} {pos} {after} {guard} {st:St} {a:Act} {K:St->Option R} {x y:Operand} (W:c.hp=st.hp) (ao:c.nxt=st.nxt) (av:bg c st.fr a.tmps.toList)
  (h:FM T st t (fG st.fr x) (fG st.fr y) K=a6 r): ∃c' aw,K aw=a6 r/\x9 W0 c st c' aw/\(execOp a.eval ⟨dst,.store t x y,ty,pos,after,guard⟩).run P c.w=.ok .skip c'.w:=by
 simp only[FM]at h;split at h
 .cases h
 rename_i l aF
 replace h:=bK h;obtain⟨hk,h⟩:=h;simp only[af,beq_iff_eq]at hk;obtain⟨hk,ax⟩:=hk;obtain⟨r1,r2⟩:=Hy aF (dh av y);have hl:l.length=(a.eval y).cells.size:=by simpa using bg.length _ _ r1
 have D:=dh av x;have ay: ∀w w',(Instr.storeAt t (a.eval x) (a.eval y)).run P w=.ok () w'->(execOp a.eval ⟨dst,.store t x y,ty,pos,after,guard⟩).run P w=.ok .skip w':=fun w w' hw=>by
  simp_all [execOp]
 split at h
 .rename_i id f ab
  rw[ab]at D;split at h
  .rename_i E cs z
   split at h
   .rename_i bf X
    obtain⟨p1,rfl⟩:=DC X;rw[<-W]at z;simp only[bu]at D;have hv:=D.2.2 _ _ z;obtain⟨hB,us,h3,h4,h5⟩:=s.obj id _ z;have cb:cs.length=us.size:=by simpa using bg.length _ _ h4
    have G:=J4 (o:=f) hT hk h3 (v:=a.eval y) (by rw[<-hl,ax]) (by omega) r2;rw[<-hv]at G;have J:(bY.box E cs).like (c.mu id) (.box E (cs.take f++l++cs.drop (f+l.length))) (c.mu id):=rfl;have M:c.w.heap.size<=(c.w.setRow (c.mu id).blk (us.toList.take f++(a.eval y).cells.toList++us.toList.drop (f+(a.eval y).cells.size)).toArray).heap.size:=by simp
    have N: ∀b,b<c.w.heap.size->(bY.box E cs).blk (c.mu id)≠a6 b->(c.w.setRow (c.mu id).blk (us.toList.take f++(a.eval y).cells.toList++us.toList.drop (f+(a.eval y).cells.size)).toArray).heap[b]? =c.w.heap[b]? :=
     fun b _ ad=>setRow_other _ _ _ _ (fun e=>ad (by simp[bY.blk,e]))
    have O: ∀b,(bY.box E (cs.take f++l++cs.drop (f+l.length))).blk (c.mu id)=a6 b->(bY.box E cs).blk (c.mu id)=a6 b\/c.w.heap.size<=b:=fun b A=>.inl A;have S: ∀(b:Nat) (L:Loop),(bY.box E cs).blk (c.mu id)=a6 b->c.w.heap[b]? =a6 (Obj.loop L)-> ∃L':Loop,(c.w.setRow (c.mu id).blk (us.toList.take f++(a.eval y).cells.toList++us.toList.drop (f+(a.eval y).cells.size)).toArray).heap[b]? =a6 (Obj.loop L'):=fun b L A U=>absurd U ((s.obj id _ z).no_loop (by simp) A);have Y:=Cx.Le.put (w:=c.w.setRow (c.mu id).blk (us.toList.take f++(a.eval y).cells.toList++us.toList.drop (f+(a.eval y).cells.size)).toArray) s z J M N O S;have ag:Below W0.heap.size W0 (c.w.setRow (c.mu id).blk (us.toList.take f++(a.eval y).cells.toList++us.toList.drop (f+(a.eval y).cells.size)).toArray):=
     s.bel.trans ⟨rfl,rfl,rfl,by simp,fun k hk=>setRow_other _ _ _ _ (by omega)⟩
    refine⟨c.put id _ (c.mu id) _,_,h,⟨by simp[Cx.put,W],ao,rfl,rfl,s.put z J ag M N O S ?_,Y⟩,ay _ _ G⟩;refine⟨by simp only[Cx.put,upd_same];exact hB,(us.toList.take f++(a.eval y).cells.toList++us.toList.drop (f+(a.eval y).cells.size)).toArray, ?_, ?_, ?_⟩
    .simp only[Cx.put,upd_same]
     grind [setRow_heap]
    .grind [bg.append,bg.take,bg.drop,bg.le]
    grind
   .cases h
  .cases h
 .rename_i id aG i f ab
  rw[ab]at D;split at h
  .rename_i e u xs I
   rw[<-W]at I;replace h:=bK h;obtain⟨ak,h⟩:=h;have ak:u=aG:=by simpa using ak
   subst ak;replace h:=bK h;obtain⟨V,h⟩:=h;have V:i<xs.length:=by simpa [Ky] using V
   split at h
   .rename_i cs X
    split at h
    .rename_i x' aH
     simp only[bu]at D;obtain⟨B,n',aI,q1,q2⟩:=(D.2.2 _ _ _ I).2 rfl;obtain⟨aJ,e0,zs,al,U,aK⟩:=s.obj id _ I;rcases al.2 with ⟨Z,e2⟩|⟨g,cc,j,Z,e2,e3,e4,e5,e6,e7⟩
     .omega
     rw[q1]at Z;simp only[Value.slice.injEq,Option.some.injEq,Addr.mk.injEq,and_true]at Z;obtain⟨rfl,rfl,rfl⟩:=Z;obtain⟨d,d1,d2,p,q,d3,d4⟩:=dX.at_ i xs zs V U;have aP:xs.getD i e.dflt=xs[i]:=by simp[List.getD,V]
     rw[aP]at X;obtain⟨p1,rfl⟩:=DC X;have hf:=Ae (c:=c) e _ _ d2;have cd:=bg.length _ _ hf;have ch:f+l.length<=d.length:=by omega
     have aQ:=bg.append _ _ _ _ (bg.append _ _ _ _ (bg.take f _ _ hf) r1) (bg.drop (f+l.length) _ _ hf);have aA:=lZ aH aQ;have aS:=dM.length _ _ _ aA;have an:j.toList=p++d++q++j.toList.drop (xs.length*e.size):=by
      grind [List.take_append_drop]
     have z:j.size=xs.length*e.size+(j.toList.drop (xs.length*e.size)).length:=by
      have h1:=congrArg List.length an;have h2:=congrArg List.length d3;rw[al.1]at h2
      grind
     have aB:=congrArg List.length d3;rw[al.1]at aB;simp only[aj]at aB;have G:=J4 (o:=i*e.size+f) hT hk e3 (v:=a.eval y) (by rw[<-hl,ax]) (by omega) r2;rw[<-q2]at G;have aV:j.toList.take (i*e.size+f)++(a.eval y).cells.toList++j.toList.drop (i*e.size+f+(a.eval y).cells.size)=p++(d.take f++(a.eval y).cells.toList++d.drop (f+l.length))++q++j.toList.drop (xs.length*e.size):=by
      have t1:j.toList.take (i*e.size+f)=p++d.take f:=by
       rw[an,ai,ai,List.take_append,List.take_of_length_le (by omega),d4,Nat.add_sub_cancel_left,List.take_append_of_le_length (by omega)]
      have t2:j.toList.drop (i*e.size+f+(a.eval y).cells.size)=d.drop (f+l.length)++q++j.toList.drop (xs.length*e.size):=by
       conv=>lhs;rw[an]
       rw[ai,ai,List.drop_append,aU (by omega),aO,d4,List.drop_append,List.drop_append];have z1:i*e.size+f+(a.eval y).cells.size-i*e.size=f+l.length:=by omega
       have z2:f+l.length-d.length=0:=by omega
       rw[z1,z2];simp
      rw[t1,t2];simp
     rw[aV]at G;have aW:=dX.set x' (d.take f++(a.eval y).cells.toList++d.drop (f+l.length)) aS aA i xs p d q V (by grind) d4 d1;generalize d.take f++(a.eval y).cells.toList++d.drop (f+l.length)=d' at*;have J:(bY.arr e u xs).like (c.mu id) (.arr e u (gp xs i x')) (c.mu id):=⟨ae _,fun _=>⟨rfl,rfl⟩⟩;have aX:(bY.arr e u xs).blk (c.mu id)=a6 B:=by simp[bY.blk,q1,Value.ownBlock]
     have M:c.w.heap.size<=(c.w.setRow B (p++d'++q++j.toList.drop (xs.length*e.size)).toArray).heap.size:=by simp
     have N: ∀b,b<c.w.heap.size->(bY.arr e u xs).blk (c.mu id)≠a6 b->(c.w.setRow B (p++d'++q++j.toList.drop (xs.length*e.size)).toArray).heap[b]? =c.w.heap[b]? :=
      fun b _ ad=>setRow_other _ _ _ _ (fun e=>ad (by rw[aX,e]))
     have O: ∀b,(bY.arr e u (gp xs i x')).blk (c.mu id)=a6 b->(bY.arr e u xs).blk (c.mu id)=a6 b\/c.w.heap.size<=b:=fun b A=>.inl A;have S: ∀(b:Nat) (L:Loop),(bY.arr e u xs).blk (c.mu id)=a6 b->c.w.heap[b]? =a6 (Obj.loop L)-> ∃L':Loop,(c.w.setRow B (p++d'++q++j.toList.drop (xs.length*e.size)).toArray).heap[b]? =a6 (Obj.loop L'):=fun b L A U=>absurd U ((s.obj id _ I).no_loop (by simp) A);have Y:=Cx.Le.put (w:=c.w.setRow B (p++d'++q++j.toList.drop (xs.length*e.size)).toArray) s I J M N O S;have ag:Below W0.heap.size W0 (c.w.setRow B (p++d'++q++j.toList.drop (xs.length*e.size)).toArray):=
      s.bel.trans ⟨rfl,rfl,rfl,by simp,fun k hk=>setRow_other _ _ _ _ (by omega)⟩
     refine⟨c.put id _ (c.mu id) _,_,h,⟨by simp[Cx.put,W],ao,rfl,rfl,s.put I J ag M N O S ?_,Y⟩,ay _ _ G⟩;refine⟨aJ,e0,p++d'++q, ?_,dX.mono (dM.mono Y.free e) _ _ aW,aK⟩;have bd:(p++d'++q).length=xs.length*e.size:=by
      grind
     simp only[Cx.put,upd_same,gp,List.length_set];refine⟨bd,.inr ⟨B,aI,_,q1,e2,setRow_heap c.w _ j _ e0 _ e3,e4,e5, ?_, ?_⟩⟩
     all_goals grind
    .cases h
   .cases h
  .cases h
 .cases h
theorem Dz {w:World} {B:Nat} {e:TypeId} {size n:Nat} {v d:Value} {i:List Value} (h:w.ownsRow B e size v n i) {hi:Int} (D:0<=hi) (E:hi<=n) (s:ik size v (a6 (0,hi)) d):
  w.ownsRow B e size d hi.toNat (i.take (hi.toNat*size))/\ ∀b,d.ownBlock=a6 b->v.ownBlock=a6 b:=by
 obtain⟨a,m,cp,j,_,_,G,u⟩:=s;have hk:hi.toNat<=n:=by omega
 have q:(i.take (hi.toNat*size)).length=hi.toNat*size:=by
  rw[List.length_take,h.1];simp_all
 rcases h.2 with ⟨f,l⟩|⟨g,I,x,f,l,y,J,z,A,K⟩
 .rw[j]at f;cases f;subst l;have:hi.toNat=0:=by omega
  have o:d=.slice a7 0 0:=by rw[u,this];rfl
  subst o;refine⟨⟨q,.inl ⟨rfl,this⟩⟩,fun b p=>by cases p⟩
 .rw[j]at f;cases f;have o:d=.slice (a6 ⟨g,0,a7⟩) hi.toNat cp:=by
   grind [Addr.add]
  subst o;subst j;refine⟨⟨q,.inr ⟨g,cp,x,rfl,l,y,by omega,z,A, ?_⟩⟩,fun b p=>p⟩
  grind
theorem alV {st:St} {c':Cx} {j:St} (hd:x9 W0 c st c' j) {id off i:Nat} {l:TypeId} {cs:List bn} {e:Ty} {w:Nat} {xs:List e.den} {hi:Int} (al:id≠i)
  (u:cZ j.hp id=a6 (.box l cs)) (g:cZ j.hp i=a6 (.arr e w xs)) (an:cs.getD off .undef=.slc i w (a6 (0,hi))):
  ∃v,x9 W0 c st v {j with hp:=gX (gX j.hp i (.arr e (w+1) (xs.take hi.toNat))) id (.box l (cs.set off (.slc i (w+1) a7)))}/\v.w=c'.w:=by
 have o:=hd.ok;rw[<-hd.hp]at u g;obtain⟨hB,us,h3,x,I⟩:=o.obj id _ u;have ao:cs.length=us.toList.length:=bg.length _ _ x;have av:off<cs.length:=by
  grind
 have aw:off<us.toList.length:=by omega
 have J:bu c' (.slc i w (a6 (0,hi))) us.toList[off]:=by
  have:=bg.getD x off;simp_all
 obtain⟨K,M,N,y,d,O⟩:=o.obj i _ g;have p:=J;simp only[bu]at p;have z:=(p.2.2 _ _ _ g).2 rfl;have⟨S,U⟩:0<=hi/\hi<=bi xs:=by
  obtain⟨a1,n1,f,A,_,V,W,_⟩:=z;obtain⟨a2,c2,X,_⟩:=oP y;rw[X]at A;cases A;exact⟨V,W⟩
 obtain⟨ax,B⟩:=Dz y S U z;have hk:(bY.arr e w xs).like (c'.mu i) (.arr e (w+1) (xs.take hi.toNat)) ⟨(c'.mu i).blk,us.toList[off]⟩:=⟨by omega,fun e=>by omega⟩;have D:=Cx.Le.put (w:=c'.w) o g hk (ae _) (fun _ _ _=>rfl) (fun b h=>.inl (B b h)) (fun b L _ d=>⟨L,d⟩);have q:=Cx.Ok.put (w:=c'.w) o g hk o.bel (ae _) (fun _ _ _=>rfl) (fun b h=>.inl (B b h)) (fun b L _ d=>⟨L,d⟩) (by
  refine⟨K,M,N.take (hi.toNat*e.size), ?_,dX.take _ _ _ (dX.mono (dM.mono D.free e) _ _ d),O⟩;simp_all [bi,Cx.put,upd_same])
 have ay:bu (c'.put i (bY.arr e (w+1) (List.take hi.toNat xs)) ⟨(c'.mu i).blk,us.toList[off]⟩ c'.w) (.slc i (w+1) a7) us.toList[off]:=by
  simp only[bu];refine⟨p.1,.inl ⟨_,Cx.put_get g⟩,fun t' u' aA Y=> ?_⟩;rw[Cx.put_get g]at Y;simp_all [ik,Cx.put,upd_same]
 have E:cZ (c'.put i (bY.arr e (w+1) (List.take hi.toNat xs)) ⟨(c'.mu i).blk,us.toList[off]⟩ c'.w).hp id=a6 (.box l cs):=by
  simp only[Cx.put,iO]
  grind
 have aB:(c'.put i (bY.arr e (w+1) (List.take hi.toNat xs)) ⟨(c'.mu i).blk,us.toList[off]⟩ c'.w).mu id=c'.mu id:=by
  simp_all [Cx.put,upd_ne]
 generalize s:c'.put i (bY.arr e (w+1) (List.take hi.toNat xs)) ⟨(c'.mu i).blk,us.toList[off]⟩ c'.w=f at*;have Z:f.w=c'.w:=by rw[<-s];rfl
 have ab:f.hp=gX c'.hp i (.arr e (w+1) (xs.take hi.toNat)):=by rw[<-s];rfl
 have ad:f.nxt=c'.nxt:=by rw[<-s];rfl
 have G:(bY.box l cs).like (f.mu id) (.box l (cs.set off (.slc i (w+1) a7))) (f.mu id):=rfl;have ag:=Cx.Le.put (w:=f.w) q E G (ae _) (fun _ _ _=>rfl) (fun b h=>.inl h) (fun b L _ d=>⟨L,d⟩);have ak:=Cx.Ok.put (w:=f.w) q E G q.bel (ae _) (fun _ _ _=>rfl) (fun b h=>.inl h) (fun b L _ d=>⟨L,d⟩) (by
  refine⟨by simp_all [Cx.put,upd_same],us,by simp_all [Cx.put,upd_same], ?_,I⟩
  grind [bg.le,bg.setL])
 refine⟨_,⟨?_, ?_,hd.fr,hd.stk,ak,(hd.le.trans D).trans ag⟩,Z⟩
 .simp only[Cx.put];rw[ab,hd.hp]
 .show f.nxt=j.nxt;rw[ad,hd.nxt]
theorem aeN {g:fD} {st:St} {x y:bn} {K:St->Option R} {c':Cx} {f:St} (hd:x9 W0 c st c' f) (h:WS g f x y K=a6 r): ∃d e,K e=a6 r/\x9 W0 c st d e/\d.w=c'.w:=by
 have same:K f=a6 r-> ∃d e,K e=a6 r/\x9 W0 c st d e/\d.w=c'.w:=fun h=>⟨c',f,h,hd,rfl⟩;unfold WS at h;split at h
 .split at h
  .split at h
   .rw[cond_eq_ite]at h;split at h
    .rename_i i
     simp only[af,Bool.not_eq_true']at i;split at h
     .rename_i l o
      split at h
      .rename_i p
       rw[cond_eq_ite]at h;split at h
       .rename_i j
        simp only[af,beq_iff_eq]at j
        grind [ah,alV]
       .exact same h
      .exact same h
     .exact same h
    .exact same h
   .exact same h
  .exact same h
 .exact same h
theorem amN (hT:TOk P T) (l:c.Ok W0) {cl:Bool} {call:eF R} {o:Oper} {st:St} {a:Act} {K:bn->St->Option R} {x y:Operand} (p:c.hp=st.hp) (q:c.nxt=st.nxt) (s:bg c st.fr a.tmps.toList)
  (d:o.op=.store t x y) (h:dH T cl call o st K=a6 r):DW P W0 c st o a K r:=by
 obtain⟨e,G,f,g,i,j⟩:=o;simp only at d;subst d;simp only[dH]at h;obtain⟨I,J,u,hd,v⟩:=ajc (dst:=e) (ty:=f) (pos:=g) (after:=i) (guard:=j) hT l p q s h;obtain⟨z,A,B,D,E⟩:=aeN hd u;exact⟨_,undef,z,A,B,D,by simp[bu],.inr ⟨by rw[E];exact v,rfl⟩⟩
theorem P7 (w:World) (t d ty:TypeId) (B size n:Nat) (v:Value) (f:List Value) (e:TypeId) (h:w.ownsRow B e size v n f) (i:P.underlying ty=a6 (.pointer d)):
  ∃u w',(Builtin.unsafeSliceData_ #[t] ty #[v]).run P w=.ok u w'/\Below w.heap.size w w'/\u.oneCell'=true/\(∃p,u=.pointer p)/\ ∀a m cp,v=.slice a m cp->m≠0->u=.pointer a:=by
 rcases h.2 with ⟨rfl,rfl⟩|⟨g,j,l,rfl,_,o,s,_⟩
 .exact⟨_,w,Lib.run_unsafeSliceData_nil w _ _ 0 0,Below.refl _ _,rfl,⟨_,rfl⟩,fun a m cp h q=>by simp_all⟩
 .by_cases hc:j=0
  .subst hc;refine⟨_,_,Lib.run_unsafeSliceData_zero w _ _ d i ⟨g,0,a7⟩ n (e,l.size) (by simp[World.shape?,o]),lI _ _,rfl,⟨_,rfl⟩,fun a m cp h q=> ?_⟩;cases h;omega
  .exact⟨_,w,Lib.run_unsafeSliceData_row w _ _ _ _ _ hc,Below.refl _ _,rfl,⟨_,rfl⟩,fun a m cp h _=>by cases h;rfl⟩
theorem XV (hT:TOk P T) (s:c.Ok W0) {cl:Bool} {call:eF R} {o:Oper} {st:St} {a:Act} {K:bn->St->Option R} {args:Array Operand} {i:Array TypeId} (x:c.hp=st.hp) (G:c.nxt=st.nxt) (I:bg c st.fr a.tmps.toList)
  (y:o.op=.call {callee:=.builtin .unsafeSliceData,args:=args,argTypes:=i}) (h:dH T cl call o st K=a6 r):DW P W0 c st o a K r:=by
 obtain⟨J,op,j,L,M,N⟩:=o;simp only at y;subst y;simp only[dH,jo]at h;split at h<;>try (cases h;done)
 all_goals try (rename_i z _;cases z;done)
 rename_i id ag z f
 split at h<;>try (cases h;done)
 rename_i t A
 split at h<;>try (cases h;done)
 rename_i e v xs d
 rw[cond_eq_ite]at h;split at h
 .rename_i B
  simp only[af,beq_iff_eq]at B;obtain⟨rfl,ak,O⟩:=B;obtain⟨i⟩:=i;simp only at A;subst A;obtain⟨S⟩:=args
  match S with
  |[]=>simp at f
  |_::_::_=>simp at f
  |[l]=>
   simp only[au,List.map_nil,List.cons.injEq,and_true]at f;have p:=dh I l;rw[f]at p;simp only[bu]at p;rw[<-x]at d;have D:=(p.2.2 _ _ _ d).2 rfl;simp only[ik]at D;obtain⟨_,U,V,W,hL,an⟩:=s.obj id _ d;obtain⟨X,Y⟩:=hT.isPtr O;obtain⟨u,q,hr,E,Z,hp,ab⟩:=P7 c.w t X j W0.heap.size e.size xs.length (c.mu id).v V U W Y;refine⟨_,u,c.at_ q,st,h,⟨x,G,rfl,rfl,s.ext E,Cx.Le.ext E⟩, ?_,.inl ?_⟩
   .simp only[bu];refine⟨Z,.inl ⟨_,d⟩,fun t' u' ad g=> ?_⟩;have g:cZ c.hp id=a6 (.arr t' u' ad):=g;rw[d]at g;cases g;exact⟨ae _,fun _=>⟨hp,ab⟩⟩
   .have:(execOp a.eval ⟨J,.call {callee:=.builtin .unsafeSliceData,args:=[l].toArray,argTypes:=[t].toArray},j,L,M,N⟩).run P c.w=
      ((Builtin.unsafeSliceData_ #[t] j #[a.eval l]).run P c.w).andThen fun v q=>.ok (.value v) q:=by
     simp[execOp,resolve,invoke,builtin,Sem.run_bind]
    rw[this,D,hr];rfl
 .cases h
theorem GX (w:World): ∀(xs:List Int) (a:Addr) (d:ByteArray),(∀j x,xs[j]? =a6 x->w.cell? (a.add j)=a6 (.int .u8 x))->(loadBytes a d xs.length).run P w=.ok (xs.foldl (fun r n=>r.push (UInt8.ofNat n.toNat)) d) w
 |[],a,d,_=>by simp[loadBytes]
 |x::xs,a,d,h=>by
  have f:w.cell? a=a6 (.int .u8 x):=by
   have:=h 0 x rfl
   assumption
  have g:=GX w xs (a.add 1) (d.push (UInt8.ofNat x.toNat)) fun j y e=>by
   have:=h (j+1) y (by simpa using e)
   grind [Addr.add]
  simp_all [loadBytes]
theorem OE {d it ty e:TypeId} (hp:P.underlying d=a6 (.pointer e)) (h:P.cellsOf e=1) (w:World) (g cells:Nat) (i:w.shape? g=a6 (e,cells)) (xs:List Int) (l:xs≠[]) (B:xs.length<=cells) (D:xs.length<=9223372036854775807)
  (o: ∀j x,xs[j]? =a6 x->w.cell? ((⟨g,0,a7⟩:Addr).add j)=a6 (.int .u8 x)):
  (Builtin.unsafeString_ #[d,it] ty #[.pointer (a6 ⟨g,0,a7⟩),.int .i64 xs.length]).run P w=.ok (.string ⟨(ofBytes xs).toArray⟩) (w.freeze ⟨g,0,a7⟩ xs.length):=by
 have hl:xs.length≠0:=by simpa using l
 have p:=GX (P:=P) w xs ⟨g,0,a7⟩ .empty o;have q:=Lib.liesAt_bytes (P:=P) h (cells/P.cellsOf e) xs.length (by simp_all);have u: ¬(9223372036854775807:Int)<(xs.length:Int):=by omega
 have v:Builtin.unsafeString_ #[d,it] ty #[.pointer (a6 ⟨g,0,a7⟩),.int .i64 xs.length]=
   (do
    let n<-asInt (.int .i64 xs.length)
    if n<0 then runtimePanic (.error "unsafe.String: len out of range")
    if n>IntKind.i64.max then unsupported (.unsafePointer "String: a length above the largest int")
    if n=0 then pure (.string .empty)
    else if<-variablesAt ⟨g,0,a7⟩ (<-elemOf d) n.toNat then do
     let s<-loadBytes ⟨g,0,a7⟩ .empty n.toNat
     freeze ⟨g,0,a7⟩ n.toNat
     pure (.string s)
    else unsupported (.unsafePointer "String: not so many bytes at ptr")):=rfl
 rw[v];have y:IntKind.i64.max=9223372036854775807:=rfl;have z: ¬(xs.length:Int)<0:=by omega
 have f:=Ib xs [];have A:(⟨([]:List UInt8).toArray⟩:ByteArray)=.empty:=rfl;rw[A]at f;simp[asInt,asIntOf,y,u,z,hl,variablesAt,i,elemOf,run_underlying hp,q,p];exact f
theorem XR (d:c.Ok W0) {st:St} (x:c.hp=st.hp) (y:c.nxt=st.nxt) {id f:Nat} {e:Ty} {xs:List e.den} (i:cZ c.hp id=a6 (.arr e f xs)) {w':World} (j:c.w.heap.size<=w'.heap.size)
  (o: ∀b,(c.mu id).v.ownBlock≠a6 b->w'.heap[b]? =c.w.heap[b]?) (l:w'.os=c.w.os/\w'.tape=c.w.tape/\w'.output=c.w.output):
  ∃c',x9 W0 c st c' {st with hp:=gX st.hp id .dead}/\c'.w=w':=by
 have p:(bY.arr e f xs).like (c.mu id) .dead (c.mu id):=trivial;have q: ∀(b:Nat) (L:Loop),(bY.arr e f xs).blk (c.mu id)=a6 b->c.w.heap[b]? =a6 (Obj.loop L)-> ∃z:Loop,w'.heap[b]? =a6 (Obj.loop z):=fun b L g A=>absurd A ((d.obj id _ i).no_loop (by simp) g);have s: ∀b,bY.dead.blk (c.mu id)=a6 b->(bY.arr e f xs).blk (c.mu id)=a6 b\/c.w.heap.size<=b:=fun b g=>by cases g
 have u: ∀b,b<c.w.heap.size->(bY.arr e f xs).blk (c.mu id)≠a6 b->w'.heap[b]? =c.w.heap[b]? :=fun b _ B=>o b B;have D:Below W0.heap.size W0 w':=by
  refine⟨l.1.trans d.bel.os,l.2.1.trans d.bel.tape,l.2.2.trans d.bel.output,az d.bel.size j,fun b g=>(o b fun h=> ?_).trans (d.bel.block b g)⟩;have:=((d.obj id _ i).lt (b:=b) h).1;omega
 have E:=Cx.Le.put (w:=w') d i p j u s q;exact⟨c.put id .dead (c.mu id) w',⟨by simp[Cx.put,x],y,rfl,rfl,d.put i p D j u s q trivial,E⟩,rfl⟩
theorem NL (hT:TOk P T) (y:c.Ok W0) {cl:Bool} {call:eF R} {o:Oper} {st:St} {a:Act} {K:bn->St->Option R} {args:Array Operand} {z:Array TypeId} (A:c.hp=st.hp) (U:c.nxt=st.nxt) (V:bg c st.fr a.tmps.toList)
  (W:o.op=.call {callee:=.builtin .unsafeString,args:=args,argTypes:=z}) (h:dH T cl call o st K=a6 r):DW P W0 c st o a K r:=by
 obtain⟨an,op,i,ao,av,aw⟩:=o;simp only at W;subst W;simp only[dH,jo]at h;split at h<;>try (cases h;done)
 all_goals try (rename_i u _;cases u;done)
 rename_i id aS n u d
 split at h<;>try (cases h;done)
 rename_i B l X
 split at h<;>try (cases h;done)
 rename_i v xs q
 rw[cond_eq_ite]at h;split at h
 .rename_i Y
  simp only[af,beq_iff_eq]at Y;obtain⟨rfl,ax⟩:=Y;replace h:=eu h;obtain⟨D,h⟩:=h;have D:n=(xs.length:Int):=by simpa [bC,bi] using D
  subst D;obtain⟨z⟩:=z;simp only at X;subst X;obtain⟨al⟩:=args
  match al with
  |[]=>simp at d
  |[_]=>simp at d
  |_::_::_::_=>simp at d
  |[E,G]=>
   simp only[au,List.map_nil,List.cons.injEq,and_true]at d;have I:=dh V E;have f:=dh V G;rw[d.1]at I;rw[d.2]at f;simp only[bu]at I f;have f:=f.int_inv;rw[<-A]at q;obtain⟨hp,ay⟩:=(I.2.2 _ _ _ q).2 rfl;obtain⟨_,e0,Z,ab,hL,J⟩:=y.obj id _ q;have J:=J rfl;obtain⟨aA,aB⟩:=hT.isBytes ax;have ad:(execOp a.eval ⟨an,.call {callee:=.builtin .unsafeString,args:=[E,G].toArray,argTypes:=[B,l].toArray},i,ao,av,aw⟩).run P c.w=
     ((Builtin.unsafeString_ #[B,l] i #[a.eval E,a.eval G]).run P c.w).andThen fun v L=>.ok (.value v) L:=by
    simp[execOp,resolve,invoke,builtin,Sem.run_bind]
   have aF:Z=xs.map (.int .u8):=Ee xs Z hL;by_cases hx:xs=[]
   .subst hx;obtain⟨p,hp⟩:=hp;obtain⟨M,N,O⟩:=XR y A U q (w':=c.w) (ae _) (fun _ _=>rfl) ⟨rfl,rfl,rfl⟩;refine⟨_,.string .empty,M,_,h,N, ?_,.inl ?_⟩
    .simp only[bu];exact VD.str_mk
    .rw[ad,hp,f];have:=Lib.run_unsafeString_none (P:=P) c.w B l i p;simp only[List.length_nil,Int.natCast_zero]at this ⊢;rw[this,O];rfl
   .have s:xs.length≠0:=by simpa using hx
    rcases ab.2 with ⟨_,h0⟩|⟨g,aG,ag,S,aV,hg,aW,aH,ak,aX⟩
    .exact absurd h0 s
    .have hp:=ay _ _ _ S s;have aI: ∀b,(c.mu id).v.ownBlock≠a6 b->(c.w.freeze ⟨g,0,a7⟩ xs.length).heap[b]? =c.w.heap[b]? :=fun b u=>by
      have aJ:g≠b:=fun e=>u (by rw[S,<-e];rfl);unfold World.freeze;rw[aq s];simp only[Array.getElem?_modify];rw[aq aJ]
     have aK:(c.w.freeze ⟨g,0,a7⟩ xs.length).heap.size=c.w.heap.size:=by
      unfold World.freeze;rw[aq s];simp
     have aP:(c.w.freeze ⟨g,0,a7⟩ xs.length).os=c.w.os/\(c.w.freeze ⟨g,0,a7⟩ xs.length).tape=c.w.tape/\(c.w.freeze ⟨g,0,a7⟩ xs.length).output=c.w.output:=by
      unfold World.freeze;rw[aq s];exact⟨rfl,rfl,rfl⟩
     obtain⟨M,N,O⟩:=XR y A U q (w':=c.w.freeze ⟨g,0,a7⟩ xs.length) (Nat.le_of_eq aK.symm) aI aP;refine⟨_,.string ⟨(ofBytes xs).toArray⟩,M,_,h,N, ?_,.inl ?_⟩
     .simp only[bu];exact VD.str_mk
     .rw[ad,hp,f];have aQ: ∀j x,xs[j]? =a6 x->c.w.cell? ((⟨g,0,a7⟩:Addr).add j)=a6 (.int .u8 x):=fun j x hj=>by
       have:=ab.cells (g:=g) (by rw[S];rfl) j (.int .u8 x) (by rw[aF];simp[hj]);exact this
      have ak:ag.size=aG:=by simpa [Ty.size] using ak
      rw[OE (ty:=i) (it:=l) aA aB c.w g ag.size (by rw[<-J];simp[World.shape?,hg]) xs hx (by omega) (by unfold maxLen at aH;omega) aQ,O];rfl
 .cases h
end
end
section
open Option renaming some → a6, none → a7
open Bool renaming and_eq_true → af
open List renaming map_cons → au
open Go.RowKit
theorem MZ {d l:IntKind} {a:Int}: ∀(f:List MapEntry) (g:List (Int×Int)) (i:Nat),f.map (fun e=>(e.key,e.val))=g.map (fun p=>(Value.int d p.1,Value.int l p.2))->
  (AO g a=a7/\Instr.findNow (.int d) (.int d a) f i=a6 a7/\ ∀b cl,(f++[(⟨.int d a,.int l b,cl⟩:MapEntry)]).map (fun e=>(e.key,e.val))=(kN g a b).map (fun p=>(Value.int d p.1,Value.int l p.2)))\/
  ∃v j,AO g a=a6 v/\Instr.findNow (.int d) (.int d a) f i=a6 (a6 (i+j,.int l v))/\(∃q,f[j]? =a6 q/\q.key=.int d a)/\
   ∀b,(f.modify j (fun e=>{e with key:=.int d a,val:=.int l b})).map (fun e=>(e.key,e.val))=(kN g a b).map (fun p=>(Value.int d p.1,Value.int l p.2))
 |[],[],i,_=>.inl ⟨rfl,rfl,fun b cl=>rfl⟩
 |[],_::_,_,h=>by simp at h
 |_::_,[],_,h=>by simp at h
 |e::f,(k,v)::g,i,h=>by
  simp only[au,List.cons.injEq,Prod.mk.injEq]at h;obtain⟨⟨u,y⟩,x⟩:=h;have s:Instr.sameNow (.int d) (.int d a) e.key=a6 (a==k):=by rw[u];simp[Instr.sameNow]
  by_cases hak:a=k
  .subst hak;refine .inr ⟨v,0,by simp[AO,bC], ?_,⟨e,rfl,u⟩,fun b=> ?_⟩
   .simp[Instr.findNow,s,y]
   .simp[kN,bC,x]
  .have o:(a==k)=false:=by simpa using hak
   rw[o]at s;rcases MZ (a:=a) f g (i+1) x with ⟨g1,g2,g3⟩|⟨z,j,g1,g2,⟨q,g3,g4⟩,g5⟩
   .refine .inl ⟨by simp[AO,bC,o,g1],by simp[Instr.findNow,s,g2],fun b cl=> ?_⟩;have:=g3 b cl;simp only[kN,bC,o,ac,List.cons_append,au,List.cons.injEq,Prod.mk.injEq];simp_all
   .refine .inr ⟨z,j+1,by simp[AO,bC,o,g1], ?_,⟨q,by simpa using g3,g4⟩,fun b=> ?_⟩
    .grind [Instr.findNow]
    .have:=g5 b;simp only[kN,bC,o,ac,List.modify_succ_cons,au,List.cons.injEq,Prod.mk.injEq];simp_all
section
variable {P:Program} {T:TT} {W0:World} {c:Cx} {R:Type} {r:R} {t:TypeId}
theorem NW (hT:TOk P T) {a b:IntKind} (h:T.mapOf t=a6 (a,b)): ∃k e,P.underlying t=a6 (.map k e)/\P.underlying k=a6 (.int a)/\ ∃i,P.info? e=a6 i/\i.zero=a6 (.int b 0):=by
 unfold TT.mapOf at h;replace h:=bK h;obtain⟨hk,h⟩:=h;split at h
 .rename_i k e g
  replace h:=bK h;obtain⟨d,h⟩:=h;simp only[af]at d;split at h
  .rename_i o p j l
   cases h;obtain⟨i,z,f,_⟩:=hT.info d.2;exact⟨k,e,hT.map hk g,hT.int d.1 j,i,f,hT.zero_int d.2 l f⟩
  .cases h
 .cases h
theorem aqH (g:c.Ok W0) {st:St} (h:c.hp=st.hp) (h2:c.nxt=st.nxt) {id n':Nat} (i:cZ st.hp id=a7) (j:st.nxt<=id) (s:st.nxt<=n') (d e:IntKind):
  ∃c',x9 W0 c st c' {st with hp:=(id,.mp d e [])::st.hp,nxt:=n'}/\c'.w=c.w.alloc (.map #[] 0)/\bu c' (.mpv id) (.map (a6 c.w.heap.size)):=by
 have hk:=xO h h2 i j;have f:=lI c.w (.map #[] 0);have hl: ∀b,bY.blk (.mp d e []) ⟨c.w.heap.size,undef⟩=a6 b->c.w.heap.size<=b:=fun b f=>by
  simp_all [bY.blk]
 have p:=Cx.Le.push (o:=.mp d e []) (l:=⟨c.w.heap.size,undef⟩) (nxt:=n') (w:=c.w.alloc (.map #[] 0)) hk (by omega) f.size f.block hl;have q:(c.push id (.mp d e []) ⟨c.w.heap.size,undef⟩ n' (c.w.alloc (.map #[] 0))).ORel W0.heap.size id (.mp d e []):=by
  refine⟨by simp[Cx.push,upd_same];exact g.size,#[],0, ?_,rfl⟩;simp only[Cx.push,upd_same];exact heap_alloc_new c.w _
 refine⟨_,⟨?_,rfl,rfl,rfl,g.push hk (by omega) f hl q,p⟩,rfl, ?_⟩
 .simp[Cx.push,h]
 .simp only[bu];refine⟨rfl,.inl ⟨.mp d e [],by simp[Cx.push,dG]⟩,fun _ _ _ _=>by simp[Cx.push,upd_same]⟩
theorem afe (hT:TOk P T) (e:c.Ok W0) {cl:Bool} {call:eF R} {o:Oper} {st:St} {a:Act} {K:bn->St->Option R} {f:Option Operand} (g:c.hp=st.hp) (i:c.nxt=st.nxt) (d:o.op=.makeMap t f)
  (h:dH T cl call o st K=a6 r):DW P W0 c st o a K r:=by
 obtain⟨z,A,B,D,E,G⟩:=o;simp only at d;subst d;simp only[dH]at h;split at h
 .rename_i j l I
  obtain⟨id,J,p,q,u,v⟩:=iC h;obtain⟨L,x,M,y⟩:=aqH e g i p q u j l;refine oI (s:=Instr.makeMap t a7) rfl v x y (by simp_all [Instr.makeMap])
 .cases h
theorem ajb (hT:TOk P T) (f:c.Ok W0) {cl:Bool} {call:eF R} {o:Oper} {st:St} {a:Act} {K:bn->St->Option R} {x y:Operand} {ok:Bool} (g:c.hp=st.hp) (z:c.nxt=st.nxt) (A:bg c st.fr a.tmps.toList) (B:o.op=.lookup t x y ok)
  (h:dH T cl call o st K=a6 r):DW P W0 c st o a K r:=by
 obtain⟨ab,op,ty,ad,ae,ag⟩:=o;simp only at B;subst B;simp only[dH]at h;split at h
 .rename_i kk vk id M N
  split at h
  .rename_i ah d O D n l S
   replace h:=bK h;obtain⟨hk,h⟩:=h;simp only[af,decide_eq_true_eq]at hk;obtain⟨rfl,rfl,rfl⟩:=hk;obtain⟨kt,U,E,e,i,V,W⟩:=NW hT M;have p:=dh A x;rw[N]at p;simp only[bu]at p;rw[<-g]at l;have G:=p.2.2 _ _ _ l;obtain⟨hB,X,ai,I,Y⟩:=f.obj id _ l;have q:=dh A y;rw[S]at q;simp only[bu]at q;have J:=q.int_inv;have Z:(zeroValue U).run P c.w=.ok (.int d 0) c.w:=by simp[zeroValue,typeInfo,V,W]
   have L:MapKept.IsKey (.int D) (.int D n):=rfl;rcases MZ (a:=n) X.toList O 0 Y with ⟨g1,g2,_⟩|⟨v,j,g1,g2,_,_⟩
   .simp only[kw,ajz,g1]at h;refine oI (s:=Instr.lookup t (a.eval x) (a.eval y) ok) (u:=if ok then .tuple #[.int d 0,.bool false]else .int d 0) rfl h (x9.refl f g z) ?_ ?_
    .cases ok
     .simp_all [bu,VD.int_mk]
     .simp only[aa,bu,if_true];exact⟨_,rfl,by simp_all [bg,bu,VD.int_mk,VD.bool_mk]⟩
    .rw[G,J];simp[Instr.lookup,run_underlying E,MapKept.run_getObj_map I,MapKept.run_checkKey e L,MapKept.run_findKey e g2,Z,Result.andThen]
   .simp only[kw,ajz,g1]at h;refine oI (s:=Instr.lookup t (a.eval x) (a.eval y) ok) (u:=if ok then .tuple #[.int d v,.bool true]else .int d v) rfl h (x9.refl f g z) ?_ ?_
    .cases ok
     .simp_all [bu,VD.int_mk]
     .simp only[aa,bu,if_true];exact⟨_,rfl,by simp_all [bg,bu,VD.int_mk,VD.bool_mk]⟩
    .rw[G,J];simp[Instr.lookup,run_underlying E,MapKept.run_getObj_map I,MapKept.run_checkKey e L,MapKept.run_findKey e g2,Result.andThen]
  .cases h
 .cases h
theorem XU (hT:TOk P T) (A:c.Ok W0) {cl:Bool} {call:eF R} {o:Oper} {st:St} {a:Act} {K:bn->St->Option R} {x y z:Operand} (U:c.hp=st.hp) (ag:c.nxt=st.nxt) (I:bg c st.fr a.tmps.toList) (V:o.op=.mapUpdate t x y z)
  (h:dH T cl call o st K=a6 r):DW P W0 c st o a K r:=by
 obtain⟨ah,op,ty,ai,aj,ak⟩:=o;simp only at V;subst V;simp only[dH]at h;split at h
 .rename_i kk vk id hm al
  split at h
  .rename_i aA aB s f n q b u hn B
   replace h:=bK h;obtain⟨hk,h⟩:=h;simp only[af,decide_eq_true_eq]at hk;obtain⟨rfl,rfl,rfl,rfl⟩:=hk;obtain⟨kt,et,W,E,i,u3,u4⟩:=NW hT hm;have J:=dh I x;rw[al]at J;simp only[bu]at J;rw[<-U]at u;have hv:=J.2.2 _ _ _ u;obtain⟨hB,G,M,D,h4⟩:=A.obj id _ u;have N:=dh I y;rw[hn]at N;simp only[bu]at N;have an:=N.int_inv;have O:=dh I z;rw[B]at O;simp only[bu]at O;have ao:=O.int_inv;have S:MapKept.IsKey (.int f) (.int f n):=rfl;have X: ∃g l,(Instr.mapUpdate t (a.eval x) (a.eval y) (a.eval z)).run P c.w=.ok () {c.w with heap:=c.w.heap.setIfInBounds (c.mu id).blk (.map g l)}/\g.toList.map (fun e=>(e.key,e.val))=(kN s n b).map (fun p=>(Value.int f p.1,Value.int q p.2)):=by
    rw[hv,an,ao];rcases MZ (a:=n) G.toList s 0 h4 with ⟨g1,g2,g3⟩|⟨v,j,g1,g2,⟨e0,g3,g4⟩,g5⟩
    .exact⟨G.push ⟨.int f n,.int q b,M⟩,M+1,by
      simp[Instr.mapUpdate,run_underlying W,MapKept.run_getObj_map D,MapKept.run_checkKey E S,MapKept.run_findKey E g2,MapKept.run_setObj_map _ D,Result.andThen],by
      simp_all⟩
    .have hj:G[j]? =a6 e0:=by simpa using g3
     exact⟨G.modify j (fun e'=>{e' with key:=.int f n,val:=.int q b}),M,by
      simp[Instr.mapUpdate,run_underlying W,MapKept.run_getObj_map D,MapKept.run_checkKey E S,MapKept.run_findKey E g2,hj,g4,MapKept.run_keyThatStays S,MapKept.run_setObj_map _ D,Result.andThen],by
      simp_all⟩
   obtain⟨g,l,X,av⟩:=X;have aw:(execOp a.eval ⟨ah,.mapUpdate t x y z,ty,ai,aj,ak⟩).run P c.w=.ok .skip {c.w with heap:=c.w.heap.setIfInBounds (c.mu id).blk (.map g l)}:=by
    simp_all [execOp]
   have gX:=MapKept.heap_set (o':=Obj.map g l) D;have Y:(bY.mp f q s).like (c.mu id) (.mp f q (kN s n b)) (c.mu id):=rfl;have Z:c.w.heap.size<=({c.w with heap:=c.w.heap.setIfInBounds (c.mu id).blk (.map g l)}:World).heap.size:=by simp
   have ab: ∀d,d<c.w.heap.size->(bY.mp f q s).blk (c.mu id)≠a6 d->({c.w with heap:=c.w.heap.setIfInBounds (c.mu id).blk (.map g l)}:World).heap[d]? =c.w.heap[d]? :=
    fun d _ ax=>gX.2 d (fun e=>ax (by simp[bY.blk,e]))
   have ad: ∀d,(bY.mp f q (kN s n b)).blk (c.mu id)=a6 d->(bY.mp f q s).blk (c.mu id)=a6 d\/c.w.heap.size<=d:=fun d B=>.inl B;have ae: ∀(d:Nat) (L:Loop),(bY.mp f q s).blk (c.mu id)=a6 d->c.w.heap[d]? =a6 (Obj.loop L)-> ∃L':Loop,({c.w with heap:=c.w.heap.setIfInBounds (c.mu id).blk (.map g l)}:World).heap[d]? =a6 (Obj.loop L'):=fun d L B hL=>absurd hL ((A.obj id _ u).no_loop (by simp) B);have ay:=Cx.Le.put (w:={c.w with heap:=c.w.heap.setIfInBounds (c.mu id).blk (.map g l)}) A u Y Z ab ad ae;have az:Below W0.heap.size W0 {c.w with heap:=c.w.heap.setIfInBounds (c.mu id).blk (.map g l)}:=
    A.bel.trans ⟨rfl,rfl,rfl,by simp,fun k hk=>gX.2 k (by omega)⟩
   refine⟨_,undef,c.put id _ (c.mu id) _,_,h,⟨by simp[Cx.put,U],ag,rfl,rfl,A.put u Y az Z ab ad ae ?_,ay⟩,by simp[bu],.inr ⟨aw,rfl⟩⟩;refine⟨by simp only[Cx.put,upd_same];exact hB,g,l, ?_,av⟩;simp_all [Cx.put,upd_same]
  .cases h
 .cases h
end
end
section
open Option renaming some → a6, none → a7
open Nat renaming le_refl → ae, le_trans → az
open Go.RowKit
def FW (rd:Option Nat):Fence:={Fence.wide with round:=rd}
theorem mO (rd:Option Nat) {n:Nat}:(FW rd).depth.isSome=true->1<=n:=fun h=>by simp[FW,Fence.wide]at h
def mkD (r:Nat):Deferred:={target:=.collected r,args:= #[]}
def zD (c:Cx):List (List bn)->List (Array Value)->Prop
 |[],[]=>True
 |f::d,t::e=>bg c f t.toList/\zD c d e
 |_,_=>False
theorem zD.le {c c':Cx} (h:c.Le c'): ∀(e:List (List bn)) (g:List (Array Value)),zD c e g->zD c' e g
 |[],[],_=>trivial
 |f::e,t::g,d=>⟨bg.le h _ _ d.1,zD.le h e g d.2⟩
 |[],_::_,d=>d.elim
 |_::_,[],d=>d.elim
structure Cx.Mono (c c':Cx):Prop where
 mks: ∀r,r∈c.mks->r∈c'.mks
 lp: ∀(b:Nat) (L:Loop),c.w.heap[b]? =a6 (Obj.loop L)-> ∃L':Loop,c'.w.heap[b]? =a6 (Obj.loop L')
 size:c.w.heap.size<=c'.w.heap.size
 bar:c'.bar=c.bar
 out: ∀b,c.out b->c'.out b/\c'.w.heap[b]? =c.w.heap[b]?
theorem Cx.Le.mono {c c':Cx} (h:c.Le c'):c.Mono c':=⟨h.mks,h.lp,h.size,h.bar,h.out⟩
theorem Cx.Mono.refl (c:Cx):c.Mono c:=⟨fun _ h=>h,fun b L h=>⟨L,h⟩,ae _,rfl,fun _ h=>⟨h,rfl⟩⟩
theorem Cx.Mono.trans {a b c:Cx} (h:a.Mono b) (k:b.Mono c):a.Mono c:=
 ⟨fun r hr=>k.mks r (h.mks r hr),fun b L e=>let⟨f,g⟩:=h.lp b L e;k.lp b f g,az h.size k.size,k.bar.trans h.bar,fun x d=>⟨(k.out x (h.out x d).1).1,(k.out x (h.out x d).1).2.trans (h.out x d).2⟩⟩
structure gI (W0:World) (b0:Nat) (rd:Option Nat) (c:Cx) (st:St) (a:Act) (ats:List (Array Value)):Prop where
 hp:c.hp=st.hp
 nxt:c.nxt=st.nxt
 ok:c.Ok W0
 fr:bg c st.fr a.tmps.toList
 stk:zD c st.stk ats
 df: ∃ds:List Nat,a.defers=ds.map mkD/\ds.Nodup/\ ∀r∈ds,r∈c.mks/\b0<=r
 rd: ∀l,rd=a6 l-> ∃L:Loop,c.w.heap[l]? =a6 (Obj.loop L)
section
variable {P:Program} {T:TT} {W0:World} {b0 n:Nat} {rd:Option Nat} {c:Cx} {R:Type} {r:R} {st:St} {a:Act} {ats:List (Array Value)}
theorem aj6 (a:Act) (dst:Option Nat) (v:Value) (fr:List bn) (z:bn) (h:bg c fr a.tmps.toList) (e:bu c z v):bg c (match dst with|some d=>fr.set d z|none=>fr) (a.put dst v).tmps.toList:=by
 grind [Act.put,bg.set]
theorem arh (st:St) (dst:Option Nat) (z:bn):(st.put dst z).fr=(match dst with|some d=>st.fr.set d z|none=>st.fr)/\(st.put dst z).hp=st.hp/\(st.put dst z).nxt=st.nxt/\(st.put dst z).stk=st.stk:=by
 cases dst<;>exact⟨rfl,rfl,rfl,rfl⟩
theorem put_defers (a:Act) (dst:Option Nat) (v:Value):(a.put dst v).defers=a.defers:=by cases dst<;>rfl
theorem gI.put (h:gI W0 b0 rd c st a ats) {dst:Option Nat} {z:bn} {v:Value} (d:bu c z v):gI W0 b0 rd c (st.put dst z) (a.put dst v) ats:=by
 obtain⟨e,f,g,i⟩:=arh st dst z;exact⟨h.hp.trans f.symm,h.nxt.trans g.symm,h.ok,by rw[e];exact aj6 a dst v _ z h.fr d,by rw[i];exact h.stk,by rw[put_defers];exact h.df,h.rd⟩
theorem gI.did (h:gI W0 b0 rd c st a ats) {c':Cx} {d:St} (hd:x9 W0 c st c' d):gI W0 b0 rd c' d a ats:=
 ⟨hd.hp,hd.nxt,hd.ok,by rw[hd.fr];exact bg.le hd.le _ _ h.fr,by rw[hd.stk];exact zD.le hd.le _ _ h.stk,
  let⟨f,g,i,e⟩:=h.df;⟨f,g,i,fun r hr=>⟨hd.le.mks r (e r hr).1,(e r hr).2⟩⟩,fun l hl=>let⟨L,j⟩:=h.rd l hl;hd.le.lp l L j⟩
def kP (P:Program) (W0:World) (n:Nat) (call:eF R):Prop:=
 ∀(b0:Nat) (rd:Option Nat) (f:bn) (g:List bn) (l:Option Nat) (st:St) (K:bn->St->Option R) (r:R),call f g l st K=a6 r->
  ∀(c:Cx) (a:Act) (ats:List (Array Value)) (h:Value) (i:Array Value),gI W0 b0 rd c st a ats->bu c f h->bg c g i.toList->
   ∀(o:Oper) (next:Act->World->Prop) (Q:Exit->Act->World->Prop),(∀e z u j,K z j=a6 r->gI W0 b0 rd e j a ats->bu e z u->c.Mono e->next (a.put o.dst u) e.w)->
    o.uponIn (FW rd) n P a next Q ((do let d<-Deferred.ofValue h i;invoke d.target d.args:Sem Next).run P c.w)
def oG:Op->Bool
 |.defer _=>true
 |_=>false
theorem uF {o:Oper} (h:oG o.op=false) (rd:Option Nat) (d:Operand->Value):Oper.semAt rd d o=execOp d o:=
 Oper.semAt_eq rd d o fun c e=>by rw[e]at h;cases h
theorem oz (o:Oper) (w:World) (d:Operand->Value): ∀f,o.about P w d=a6 f->(FW rd).fn f:=fun _ _=>trivial
theorem lH {o:Oper} {K:bn->St->Option R} (hd:oG o.op=false) (h:DW P W0 c st o a K r) (hr:gI W0 b0 rd c st a ats) {next:Act->World->Prop} {Q:Exit->Act->World->Prop}
  (g: ∀c' z u e,K z e=a6 r->gI W0 b0 rd c' e a ats->bu c' z u->c.Mono c'->next (a.put o.dst u) c'.w):o.wpIn (FW rd) n P a c.w next Q:=by
 obtain⟨z,u,c',e,i,f,j,d⟩:=h;refine⟨oz o c.w _, ?_⟩;rw[uF hd];have:=g c' z u e i (hr.did f) j f.le.mono;rcases d with d|⟨d,rfl⟩
 .rw[d];exact this
 .rw[d];exact this
theorem Oe (hT:TOk P T) {cl:Bool} {call:eF R} (G:kP P W0 n call) {o:Oper} {K:bn->St->Option R} (h:dH T cl call o st K=a6 r) (hr:gI W0 b0 rd c st a ats) {next:Act->World->Prop} {Q:Exit->Act->World->Prop}
  (d: ∀c' z u A,K z A=a6 r->gI W0 b0 rd c' A a ats->bu c' z u->c.Mono c'->next (a.put o.dst u) c'.w):o.wpIn (FW rd) n P a c.w next Q:=by
 by_cases hq:gq o.op=true
 .obtain⟨z,u,I,q,J⟩:=xQ hT hr.ok hq hr.hp hr.fr h;have hd:oG o.op=false:=by cases ho:o.op<;>simp_all [gq,iY,oG]
  exact lH hd ⟨z,u,c,st,I,x9.refl hr.ok hr.hp hr.nxt,q,.inl (J c.w (Below.refl _ _))⟩ hr d
 .cases ho:o.op with
  |alloc t=>exact lH (by rw[ho];rfl) (amM hT hr.ok hr.hp hr.nxt ho h) hr d
  |box t x=>exact lH (by rw[ho];rfl) (as7 hT hr.ok hr.hp hr.nxt hr.fr ho h) hr d
  |buildSlice t k N=>exact lH (by rw[ho];rfl) (TZ hT hr.ok hr.hp hr.nxt hr.fr ho h) hr d
  |makeSlice t l cp=>exact lH (by rw[ho];rfl) (XT hT hr.ok hr.hp hr.nxt hr.fr ho h) hr d
  |store t x y=>exact lH (by rw[ho];rfl) (amN hT hr.ok hr.hp hr.nxt hr.fr ho h) hr d
  |makeFunc fn first s=>
   obtain⟨dst,v,e,g,i,j⟩:=o;simp only at ho;subst ho;simp only[dH]at h;split at h
   .rename_i f B
    obtain⟨O⟩:=first
    simp only at B;subst B;refine lH rfl ⟨_,.func (.func f) #[] (s.map a.eval),c,st,h,x9.refl hr.ok hr.hp hr.nxt, ?_,.inl ?_⟩ hr d
    .simp only[bu];refine⟨_,rfl, ?_⟩;have:=bg.map_eval (c:=c) hr.fr s.toList;simpa using this
    simp_all [execOp,Instr.makeFunc]
   .rename_i l f S
    replace h:=bK h;obtain⟨U,h⟩:=h;have L:s= #[]:=by
     simp_all
    subst L;refine lH rfl ⟨_,.func (.func f) (first.map a.eval) #[],c,st,h,x9.refl hr.ok hr.hp hr.nxt, ?_,.inl ?_⟩ hr d
    .simp only[bu];refine⟨_,rfl, ?_⟩;have:=bg.map_eval (c:=c) hr.fr first.toList;simpa using this
    simp_all [execOp,Instr.makeFunc]
   .cases h
  |makeMap t V=>exact lH (by rw[ho];rfl) (afe hT hr.ok hr.hp hr.nxt ho h) hr d
  |lookup t x y k=>exact lH (by rw[ho];rfl) (ajb hT hr.ok hr.hp hr.nxt hr.fr ho h) hr d
  |mapUpdate t x y z=>exact lH (by rw[ho];rfl) (XU hT hr.ok hr.hp hr.nxt hr.fr ho h) hr d
  |call M=>
   obtain⟨D,p,E⟩:=M;cases D with
   |builtin b=>
    cases b with
    |append=>exact lH (by rw[ho];rfl) (aja hT hr.ok hr.hp hr.nxt hr.fr ho h) hr d
    |unsafeSliceData=>exact lH (by rw[ho];rfl) (XV hT hr.ok hr.hp hr.nxt hr.fr ho h) hr d
    |unsafeString=>exact lH (by rw[ho];rfl) (NL hT hr.ok hr.hp hr.nxt hr.fr ho h) hr d
    |len=>rw[ho]at hq;exact absurd rfl hq
    |min=>rw[ho]at hq;exact absurd rfl hq
    |max=>rw[ho]at hq;exact absurd rfl hq
    |_=>
     obtain⟨dst,v,e,g,i,j⟩:=o;simp only at ho;subst ho;simp[dH,jo]at h
   |invoke x m=>
    simp_all [dH]
   |value f=>
    obtain⟨dst,v,e,g,i,j⟩:=o;simp only at ho;subst ho;simp only[dH]at h;refine⟨oz _ c.w _, ?_⟩;rw[uF rfl];have q:=G b0 rd _ _ dst st K r h c a ats (a.eval f) (p.map a.eval) hr (dh hr.fr f) (by
     have:=bg.map_eval (c:=c) hr.fr p.toList;simpa using this) ⟨dst,.call {callee:=.value f,args:=p,argTypes:=E},e,g,i,j⟩ next Q d
    exact q
  |_=>
   obtain⟨dst,v,e,g,i,j⟩:=o;simp only at ho;subst ho
   first
    |(simp[gq,iY]at hq;done)
    |(simp[dH]at h;done)
theorem ET (ops:Array Oper) (j d:Nat) (h:(ops[j]?).bind (·.dst)=a6 d) (tmps:Array Value):yielded ops tmps j=(match tmps[d]? with|some (.bool b)=>a6 b|_=>a7):=by
 grind [yielded]
theorem IB (hT:TOk P T) {cl:Bool} {call:eF R} (s:kP P W0 n call) (ops:Array Oper) {K:St->Option R} {Q:Exit->Act->World->Prop}: ∀(l:List Oper) (c:Cx) (st:St) (a:Act),fU T cl call ops K l st=a6 r->gI W0 b0 rd c st a ats->
  (∀c' e p,K e=a6 r->gI W0 b0 rd c' e p ats->c.Mono c'->Q .normal p c'.w)->wpListIn (FW rd) n P ops Q l a c.w
 |[],c,st,a,h,hr,q=>by
  simp only[fU]at h;exact q c st a h hr (Cx.Mono.refl c)
 |o::l,c,st,a,h,hr,q=>by
  simp only[fU]at h;have Y: ∀(c:Cx) (st:St) (a:Act),gI W0 b0 rd c st a ats->(∀c' e p,K e=a6 r->gI W0 b0 rd c' e p ats->c.Mono c'->Q .normal p c'.w)->dH T cl call o st (fun v st=>fU T cl call ops K l (st.put o.dst v))=a6 r->
    o.wpIn (FW rd) n P a c.w (wpListIn (FW rd) n P ops Q l) Q:=fun c st a hr q h=>
   Oe hT s h hr fun c' z u e E G I J=>IB hT s ops l c' (e.put o.dst z) (a.put o.dst u) E (G.put I) fun L M N k1 k2 k3=>q L M N k1 k2 (J.trans k3)
  have y: ∀(st:St),gI W0 b0 rd c st a ats->fU T cl call ops K l (st.put o.dst (.tup []))=a6 r->(∀f,o.about P c.w a.eval=a6 f->(FW rd).fn f)/\wpListIn (FW rd) n P ops Q l (a.put o.dst undef) c.w:=fun st hr h=>
   ⟨oz o c.w _,IB hT s ops l c (st.put o.dst (.tup [])) (a.put o.dst undef) h (hr.put (by simp only[bu];exact⟨#[],rfl,by simp[bg]⟩)) q⟩
  simp only[wpListIn];cases hg:o.guard with
  |none=>
   rw[hg]at h;rw[am (by simp[Region.wanted,hg])]
   grind
  |some O=>
   obtain⟨j,S⟩:=O;rw[hg]at h;simp only at h;split at h
   .cases h
   .rename_i d hd
    have g:=ET ops j d hd a.tmps;have i:=hr.fr.getD d;have U:=bg.length _ _ hr.fr;rw[Array.length_toList]at U;split at h
    .rename_i b A
     rw[A]at i;simp only[bu]at i;have V:=i.bool_inv;have Z:d<a.tmps.size:=by
      grind
     have B:a.tmps[d]? =a6 (.bool b):=by
      simp_all
     rw[B]at g;simp only at g;have W:a.put (a6 d) (.bool b)=a:=by
      simp only[Act.put];obtain⟨ab,ad⟩:=Array.getElem?_eq_some_iff.1 B;have:a.tmps.setIfInBounds d (.bool b)=a.tmps:=by
       grind
      rw[this]
     have D:gI W0 b0 rd c (st.put (a6 d) (.val .bool b)) a ats:=by
      have:=hr.put (dst:=a6 d) (z:=.val .bool b) (v:=.bool b) (by simp_all [bu]);rwa [W]at this
     cases b<;>cases S<;>(try simp only[aa,ac]at h)
     .rw[am (by simp[Region.wanted,hg,g])]
      grind
     .rw[aq (by simp[Region.wanted,hg,g])];exact y _ D h
     .rw[aq (by simp[Region.wanted,hg,g])];exact y _ D h
     .rw[am (by simp[Region.wanted,hg,g])]
      grind
    .rename_i A
     rw[A]at i;simp only[bu]at i;obtain⟨vs,V,_⟩:=i;have X:yielded ops a.tmps j=a7:=by
      rw[g];cases he:a.tmps[d]? with
      |none=>rfl
      |some x=>
       simp_all
     rw[aq (by simp[Region.wanted,hg,X])];exact y st hr h
    .cases h
end
end
section
open List renaming mem_cons_of_mem → ak, map_cons → au
open Nat renaming le_refl → ae
open Go.RowKit
structure Cx.Keeps (c c':Cx) (l:List Nat):Prop where
 free: ∀b,c.free b->c'.free b/\c'.w.heap[b]? =c.w.heap[b]?
 ref: ∀id∈l,c.known id->c'.known id
 obj: ∀id∈l,∀o',cZ c'.hp id=some o'-> ∃o,cZ c.hp id=some o/\o.like (c.mu id) o' (c'.mu id)
theorem Cx.Keeps.sub {c c':Cx} {l m:List Nat} (h:c.Keeps c' l) (e: ∀i∈m,i∈l):c.Keeps c' m:=⟨h.free,fun i d=>h.ref i (e i d),fun i d=>h.obj i (e i d)⟩
theorem Cx.Keeps.left {c c':Cx} {l m:List Nat} (h:c.Keeps c' (l++m)):c.Keeps c' l:=h.sub fun i d=>List.mem_append_left _ d
theorem Cx.Keeps.right {c c':Cx} {l m:List Nat} (h:c.Keeps c' (l++m)):c.Keeps c' m:=h.sub fun i d=>List.mem_append_right _ d
mutual
theorem bu.keeps {c c':Cx}: ∀(v:bn) (x:Value),c.Keeps c' (refs v)->bu c v x->bu c' v x
 |.undef,_,_,_=>by simp[bu]
 |.val t x,v,h,d=>by
  simp only[bu]at d ⊢;exact⟨fun e=>let⟨cs,j,g⟩:=d.1 e;⟨cs,j,dM.mono h.free t x _ g⟩,fun e=>dM.mono h.free t x _ (d.2 e)⟩
 |.nils,_,_,d=>by assumption
 |.emp,_,_,d=>by assumption
 |.lst t x b,v,h,d=>by
  simp only[bu]at d ⊢;exact⟨⟨fun e=>let⟨cs,j,g⟩:=d.1.1 e;⟨cs,j,dM.mono h.free (.list t) x _ g⟩,fun e=>dM.mono h.free (.list t) x _ (d.1.2 e)⟩,d.2⟩
 |.nilp,_,_,d=>by assumption
 |.nilfn,_,_,d=>by assumption
 |.tup l,v,h,d=>by simp only[bu]at d ⊢;obtain⟨y,j,g⟩:=d;exact⟨y,j,bg.keeps l _ (by simpa [refs] using h) g⟩
 |.agg l,v,h,d=>by simp only[bu]at d ⊢;obtain⟨y,j,g,z⟩:=d;exact⟨y,j,bg.keeps l _ (by simpa [refs] using h) g,z⟩
 |.cellp t x,v,h,d=>by
  simp only[bu]at d ⊢;obtain⟨b,o,D,j,g,z,E⟩:=d;exact⟨b,o,D,j,(h.free b g).1,z.of_block (h.free b g).2,dM.mono h.free t x _ E⟩
 |.ptr id G,v,h,d=>by
  simp only[bu]at d ⊢;obtain⟨q,d⟩:=d;refine⟨q,h.ref id (by simp[refs]) d.1,fun t cs s=> ?_⟩;obtain⟨o,j,g⟩:=h.obj id (by simp[refs]) _ s;cases o<;>simp only[bY.like]at g;simp_all
 |.slf id,v,h,d=>by
  simp only[bu]at d ⊢;obtain⟨q,d⟩:=d;refine⟨q,h.ref id (by simp[refs]) d.1,fun t cs s=> ?_⟩;obtain⟨o,j,g⟩:=h.obj id (by simp[refs]) _ s;cases o<;>simp only[bY.like]at g;simp_all
 |.sd id A,v,h,d=>by
  simp only[bu]at d ⊢;obtain⟨q,d⟩:=d;refine⟨q,h.ref id (by simp[refs]) d.1,fun t u xs s=> ?_⟩;obtain⟨o,j,g⟩:=h.obj id (by simp[refs]) _ s;cases o with
  |arr t' v' B=>
   grind [bY.like]
  |box _ _=>simp[bY.like]at g
  |lp _ _ _ _ _ _ _ _=>simp[bY.like]at g
  |dead=>simp[bY.like]at g
  |mp _ _ _=>simp[bY.like]at g
 |.slc id A I,v,h,d=>by
  simp only[bu]at d ⊢;obtain⟨q,d⟩:=d;refine⟨q,h.ref id (by simp[refs]) d.1,fun t u xs s=> ?_⟩;obtain⟨o,j,g⟩:=h.obj id (by simp[refs]) _ s;cases o with
  |arr t' v' B=>
   grind [bY.like]
  |box _ _=>simp[bY.like]at g
  |lp _ _ _ _ _ _ _ _=>simp[bY.like]at g
  |dead=>simp[bY.like]at g
  |mp _ _ _=>simp[bY.like]at g
 |.ep id A i G,v,h,d=>by
  simp only[bu]at d ⊢;obtain⟨q,d⟩:=d;refine⟨q,h.ref id (by simp[refs]) d.1,fun t u xs s=> ?_⟩;obtain⟨o,j,g⟩:=h.obj id (by simp[refs]) _ s;cases o with
  |arr t' v' B=>
   grind [bY.like]
  |box _ _=>simp[bY.like]at g
  |lp _ _ _ _ _ _ _ _=>simp[bY.like]at g
  |dead=>simp[bY.like]at g
  |mp _ _ _=>simp[bY.like]at g
 |.fn f l,v,h,d=>by simp only[bu]at d ⊢;obtain⟨y,j,g⟩:=d;exact⟨y,j,bg.keeps l _ (by simpa [refs] using h) g⟩
 |.mfn f l,v,h,d=>by simp only[bu]at d ⊢;obtain⟨y,j,g⟩:=d;exact⟨y,j,bg.keeps l _ (by simpa [refs] using h) g⟩
 |.mpv id,v,h,d=>by
  simp only[bu]at d ⊢;obtain⟨q,d⟩:=d;refine⟨q,h.ref id (by simp[refs]) d.1,fun J K L s=> ?_⟩;obtain⟨o,j,g⟩:=h.obj id (by simp[refs]) _ s;cases o<;>simp only[bY.like]at g;simp_all
 |.yld id,v,h,d=>by
  simp only[bu]at d ⊢;obtain⟨q,d⟩:=d;refine⟨q,h.ref id (by simp[refs]) d.1,fun f M N iK O S n p s=> ?_⟩;obtain⟨o,j,g⟩:=h.obj id (by simp[refs]) _ s;cases o<;>simp only[bY.like]at g;simp_all
theorem bg.keeps {c c':Cx}: ∀(l:List bn) (xs:List Value),c.Keeps c' (jS l)->bg c l xs->bg c' l xs
 |[],[],_,_=>by simp[bg]
 |v::l,x::xs,h,d=>by
  simp only[jS]at h;simp only[bg]at d ⊢;exact⟨bu.keeps v x h.left d.1,bg.keeps l xs h.right d.2⟩
 |[],_::_,_,d=>by simp[bg]at d
 |_::_,[],_,d=>by simp[bg]at d
end
theorem zD.keeps {c c':Cx}: ∀(e:List (List bn)) (g:List (Array Value)),c.Keeps c' (pU e)->zD c e g->zD c' e g
 |[],[],_,_=>trivial
 |f::e,t::g,h,d=>by
  simp only[pU]at h;exact⟨bg.keeps _ _ h.left d.1,zD.keeps e g h.right d.2⟩
 |[],_::_,_,d=>d.elim
 |_::_,[],_,d=>d.elim
theorem je (p:Nat->Bool): ∀(h:fD) (i:Nat),cZ (h.filter fun e=>p e.1) i=if p i=true then cZ h i else none
 |[],i=>by simp[cZ]
 |(k,o)::h,i=>by
  rw[List.filter_cons];by_cases hk:p k=true
  .simp only[hk,if_true,dG,je p h i]
   grind
  .rw[aq hk,je p h i,dG]
   grind
theorem ut: ∀(h:fD) (i:Nat) (o:bY),cZ h i=some o->(i,o)∈h
 |[],i,o,d=>by simp[cZ]at d
 |(k,e)::h,i,o,d=>by
  rw[dG]at d;split at d
  .simp_all
  .exact ak _ (ut h i o d)
theorem xR: ∀(h:fD) (e:Nat×bY),e∈h-> ∀i∈e.2.refs,i∈uC h
 |[],e,d,i,f=>by simp at d
 |(k,o)::h,e,d,i,f=>by
  simp only[uC,List.mem_append];rcases List.mem_cons.1 d with g|g
  .simp_all
  .right;exact xR h e g i f
theorem qZ {d l:List Nat} (h:AU d l=true): ∀i∈l,i∉d:=by
 intro i e hd;have:=List.all_eq_true.1 h i e;simp only[Bool.not_eq_true',Uk]at this;have f:d.any (Nat.beq i)=true:=List.any_eq_true.2 ⟨i,hd,by simp⟩;simp_all
theorem Cx.keeps_filter {c:Cx} {p:Nat->Bool} {l:List Nat} (q: ∀i∈l,i∉((c.hp.filter fun e=> !p e.1).map (·.1))):c.Keeps {c with hp:=c.hp.filter fun e=>p e.1} l:=by
 refine⟨fun b g=>⟨⟨g.1, ?_,g.2.2⟩,rfl⟩,fun i h hk=> ?_,fun i h j d=> ?_⟩
 .rintro ⟨i,o,f,s⟩;rw[je]at f;split at f
  .exact g.2.1 ⟨i,o,f,s⟩
  .cases f
 .rcases hk with ⟨o,d⟩|hk
  .left;refine⟨o, ?_⟩;rw[je];split
   .exact d
   .rename_i hp
    exfalso;refine q i h (List.mem_map.2 ⟨(i,o),List.mem_filter.2 ⟨ut _ _ _ d,by simp[hp]⟩,rfl⟩)
  .exact .inr hk
 .rw[je]at d;split at d
  .exact⟨j,d,j.like_refl _⟩
  .cases d
section
variable {P:Program} {T:TT} {W0:World} {b0 n:Nat} {rd:Option Nat} {c:Cx} {R:Type} {r:R} {st:St} {a:Act} {ats:List (Array Value)}
theorem Oh (c:Cx) (p:Nat->Bool): ∀b,c.out b->({c with hp:=c.hp.filter fun e=>p e.1}:Cx).out b/\({c with hp:=c.hp.filter fun e=>p e.1}:Cx).w.heap[b]? =c.w.heap[b]? :=fun b f=>⟨⟨f.1,(by
 rintro ⟨i,o,d,g⟩;simp only at d g;rw[je]at d;split at d
 .exact f.2.1 ⟨i,o,d,g⟩
 .cases d),f.2.2⟩,rfl⟩
theorem Cx.Ok.filter (l:c.Ok W0) {p:Nat->Bool} (hk:c.Keeps {c with hp:=c.hp.filter fun e=>p e.1} (uC (c.hp.filter fun e=>p e.1))):({c with hp:=c.hp.filter fun e=>p e.1}:Cx).Ok W0:=by
 have sub: ∀i o,cZ (c.hp.filter fun e=>p e.1) i=some o->cZ c.hp i=some o:=fun i o h=>by
  simp_all [je]
 refine⟨l.bel,fun i o z=> ?_,fun i j o q b d g=>l.inj i j o q b (sub i o d) (sub j q g),l.mks,fun b v=>⟨(l.bar b v).1,(fun⟨i,o,d,g⟩=>(l.bar b v).2.1 ⟨i,o,sub i o d,g⟩),(l.bar b v).2.2⟩,l.phi⟩;have s:=l.obj i o (sub i o z);have A:=ut _ _ _ z;cases o with
 |box e cs=>
  obtain⟨d,B,g,u,x⟩:=s;exact⟨d,B,g,bg.keeps _ _ (hk.sub fun j y=>xR _ _ A j y) u,x⟩
 |arr t ver xs=>
  obtain⟨s,e,D,d,g,u⟩:=s;exact⟨s,e,D,d,dX.mono (dM.mono hk.free t) _ _ g,u⟩
 |lp f fr ps iK bd ky n p=>
  obtain⟨s,d,L,g,u,x⟩:=s;exact⟨s,d,L,g,bg.keeps _ _ (hk.sub fun j y=>xR _ _ A j y) u,x⟩
 |dead=>trivial
 |mp kk vk E=>exact s
theorem gI.gc (hr:gI W0 b0 rd c st a ats) {d:Nat} {v:bn} {u:Value} (l:bu c v u) {f:St} (h:gc d v st=some f):
  ∃c',gI W0 b0 rd c' f a ats/\bu c' v u/\c.Mono c'/\c'.w=c.w/\f.stk=st.stk/\f.fr=st.fr:=by
 obtain⟨fr,stk,o,q⟩:=st;simp only[Go.Proofs.YtlhpdcadgbjhiaaGreatDoor.gc]at h;rw[cond_eq_ite]at h;split at h
 .rename_i g
  cases h;have j:=hr.hp;simp only at j;subst j;have s: ∀p:Nat->Bool,AU ((c.hp.filter fun e=> !p e.1).map (·.1)) (refs v++jS fr++pU stk++uC (c.hp.filter fun e=>p e.1))=true->
    ∃c',gI W0 b0 rd c' ⟨fr,stk,c.hp.filter fun e=>p e.1,q⟩ a ats/\bu c' v u/\c.Mono c'/\c'.w=c.w/\stk=stk/\fr=fr:=fun p g=>by
   have x:=qZ g;have hk:=Cx.keeps_filter (c:=c) (p:=p) x;exact⟨{c with hp:=c.hp.filter fun e=>p e.1},⟨rfl,hr.nxt,hr.ok.filter (p:=p) hk.right,bg.keeps _ _ hk.left.left.right hr.fr,zD.keeps _ _ hk.left.right hr.stk,hr.df,hr.rd⟩,bu.keeps _ _ hk.left.left.left l,⟨fun _ h=>h,fun b L h=>⟨L,h⟩,ae _,rfl,Oh c p⟩,rfl,rfl,rfl⟩
  exact s (fun i=>Nat.blt i d||Uk (aj9 (c.hp.filter fun e=> !Nat.blt e.1 d) 3 (refs v++jS fr++pU stk++uC (c.hp.filter fun e=>Nat.blt e.1 d))) i) g
 .cases h
theorem Xw (f:bY->bY): ∀(h:fD) (i:Nat),cZ (h.map fun e=>(e.1,f e.2)) i=(cZ h i).map f
 |[],i=>rfl
 |(k,o)::h,i=>by
  simp only[au,dG,Xw f h i];split<;>rfl
def Cx.anew (c:Cx):Cx:={c with hp:=c.hp.map fun e=>(e.1,e.2.anew c.hp)}
theorem bY.anew_blk (h:fD) (o:bY) (l:Loc):(o.anew h).blk l=o.blk l:=by cases o<;>rfl
theorem Cx.anew_get (c:Cx) (i:Nat):cZ c.anew.hp i=(cZ c.hp i).map (bY.anew c.hp):=Xw _ _ _
theorem Cx.anew_free (c:Cx): ∀b,c.free b->c.anew.free b/\c.anew.w.heap[b]? =c.w.heap[b]? :=fun b d=>⟨⟨d.1,by
 rintro ⟨i,o,e,f⟩;rw[Cx.anew_get]at e;obtain⟨g,h,rfl⟩:=Option.map_eq_some_iff.1 e;rw[bY.anew_blk]at f;exact d.2.1 ⟨i,g,h,f⟩,d.2.2⟩,rfl⟩
theorem Cx.anew_out (c:Cx): ∀b,c.out b->c.anew.out b/\c.anew.w.heap[b]? =c.w.heap[b]? :=fun b d=>⟨⟨d.1,(by
 rintro ⟨i,o,e,f⟩;rw[Cx.anew_get]at e;obtain⟨g,h,rfl⟩:=Option.map_eq_some_iff.1 e;rw[bY.anew_blk]at f;exact d.2.1 ⟨i,g,h,f⟩),d.2.2⟩,rfl⟩
theorem Cx.anew_known (c:Cx) {i:Nat} (h:c.known i):c.anew.known i:=by
 rcases h with ⟨o,d⟩|h
 .exact .inl ⟨_,by rw[Cx.anew_get,d];rfl⟩
 .exact .inr h
theorem Ai {h:fD} {id d:Nat} (hf:Nq h id d=true): ∃t xs,cZ h id=some (.arr t d xs):=by
 simp only[Nq,ao6]at hf
 grind
mutual
theorem bu.anew {c:Cx}: ∀(v:bn) (x:Value),bu c v x->bu c.anew (Go.Proofs.YtlhpdcadgbjhiaaGreatDoor.anew c.hp v) x
 |.undef,_,_=>by simp[bu,Go.Proofs.YtlhpdcadgbjhiaaGreatDoor.anew]
 |.val t x,v,d=>by
  simp only[bu,Go.Proofs.YtlhpdcadgbjhiaaGreatDoor.anew]at d ⊢;exact⟨fun e=>let⟨cs,h,g⟩:=d.1 e;⟨cs,h,dM.mono c.anew_free t x _ g⟩,fun e=>dM.mono c.anew_free t x _ (d.2 e)⟩
 |.nils,_,d=>by simpa only[bu,Go.Proofs.YtlhpdcadgbjhiaaGreatDoor.anew] using d
 |.emp,_,d=>by simpa only[bu,Go.Proofs.YtlhpdcadgbjhiaaGreatDoor.anew] using d
 |.lst t x b,v,d=>by
  simp only[bu,Go.Proofs.YtlhpdcadgbjhiaaGreatDoor.anew]at d ⊢;exact⟨⟨fun e=>let⟨cs,h,g⟩:=d.1.1 e;⟨cs,h,dM.mono c.anew_free (.list t) x _ g⟩,fun e=>dM.mono c.anew_free (.list t) x _ (d.1.2 e)⟩,d.2⟩
 |.nilp,_,d=>by simpa only[bu,Go.Proofs.YtlhpdcadgbjhiaaGreatDoor.anew] using d
 |.nilfn,_,d=>by simpa only[bu,Go.Proofs.YtlhpdcadgbjhiaaGreatDoor.anew] using d
 |.tup l,v,d=>by simp only[bu,Go.Proofs.YtlhpdcadgbjhiaaGreatDoor.anew]at d ⊢;obtain⟨s,h,g⟩:=d;exact⟨s,h,bg.anew l _ g⟩
 |.agg l,v,d=>by simp only[bu,Go.Proofs.YtlhpdcadgbjhiaaGreatDoor.anew]at d ⊢;obtain⟨s,h,g,A⟩:=d;exact⟨s,h,bg.anew l _ g,A⟩
 |.cellp t x,v,d=>by
  simp only[bu,Go.Proofs.YtlhpdcadgbjhiaaGreatDoor.anew]at d ⊢;obtain⟨b,o,J,h,g,A,K⟩:=d;exact⟨b,o,J,h,(c.anew_free b g).1,A.of_block (c.anew_free b g).2,dM.mono c.anew_free t x _ K⟩
 |.ptr id L,v,d=>by
  simp only[bu,Go.Proofs.YtlhpdcadgbjhiaaGreatDoor.anew]at d ⊢;obtain⟨q,d⟩:=d;refine⟨q,c.anew_known d.1,fun t cs j=> ?_⟩;rw[Cx.anew_get]at j;obtain⟨o,h,g⟩:=Option.map_eq_some_iff.1 j;cases o<;>simp only[bY.anew,reduceCtorEq]at g;exact d.2 _ _ h
 |.slf id,v,d=>by
  simp only[bu,Go.Proofs.YtlhpdcadgbjhiaaGreatDoor.anew]at d ⊢;obtain⟨q,d⟩:=d;refine⟨q,c.anew_known d.1,fun t cs j=> ?_⟩;rw[Cx.anew_get]at j;obtain⟨o,h,g⟩:=Option.map_eq_some_iff.1 j;cases o<;>simp only[bY.anew,reduceCtorEq]at g;exact d.2 _ _ h
 |.sd id D,v,d=>by
  simp only[bu,Go.Proofs.YtlhpdcadgbjhiaaGreatDoor.anew]at d ⊢;rw[cond_eq_ite];split
  .rename_i z
   obtain⟨E,G,y⟩:=Ai z;simp only[bu];obtain⟨q,d⟩:=d;refine⟨q,c.anew_known d.1,fun t u xs j=>⟨Nat.zero_le _,fun I=> ?_⟩⟩;exact(d.2 _ _ _ y).2 rfl
  .simp[bu]
 |.slc id D M,v,d=>by
  simp only[bu,Go.Proofs.YtlhpdcadgbjhiaaGreatDoor.anew]at d ⊢;rw[cond_eq_ite];split
  .rename_i z
   obtain⟨E,G,y⟩:=Ai z;simp only[bu];obtain⟨q,d⟩:=d;refine⟨q,c.anew_known d.1,fun t u xs j=>⟨Nat.zero_le _,fun I=> ?_⟩⟩;rw[Cx.anew_get,y]at j;simp only[Option.map_some,bY.anew,Option.some.injEq,bY.arr.injEq]at j;obtain⟨B,_,_⟩:=j;rw[<-B];exact(d.2 _ _ _ y).2 rfl
  .simp[bu]
 |.ep id D i L,v,d=>by
  simp only[bu,Go.Proofs.YtlhpdcadgbjhiaaGreatDoor.anew]at d ⊢;rw[cond_eq_ite];split
  .rename_i z
   obtain⟨E,G,y⟩:=Ai z;simp only[bu];obtain⟨q,d⟩:=d;refine⟨q,c.anew_known d.1,fun t u xs j=>⟨Nat.zero_le _,fun I=> ?_⟩⟩;rw[Cx.anew_get,y]at j;simp only[Option.map_some,bY.anew,Option.some.injEq,bY.arr.injEq]at j;obtain⟨B,_,_⟩:=j;rw[<-B];exact(d.2 _ _ _ y).2 rfl
  .simp[bu]
 |.fn f l,v,d=>by simp only[bu,Go.Proofs.YtlhpdcadgbjhiaaGreatDoor.anew]at d ⊢;obtain⟨s,h,g⟩:=d;exact⟨s,h,bg.anew l _ g⟩
 |.mfn f l,v,d=>by simp only[bu,Go.Proofs.YtlhpdcadgbjhiaaGreatDoor.anew]at d ⊢;obtain⟨s,h,g⟩:=d;exact⟨s,h,bg.anew l _ g⟩
 |.mpv id,v,d=>by
  simp only[bu,Go.Proofs.YtlhpdcadgbjhiaaGreatDoor.anew]at d ⊢;obtain⟨q,d⟩:=d;refine⟨q,c.anew_known d.1,fun N O S j=> ?_⟩;rw[Cx.anew_get]at j;obtain⟨o,h,g⟩:=Option.map_eq_some_iff.1 j;cases o<;>simp only[bY.anew,reduceCtorEq]at g;exact d.2 _ _ _ h
 |.yld id,v,d=>by
  simp only[bu,Go.Proofs.YtlhpdcadgbjhiaaGreatDoor.anew]at d ⊢;obtain⟨q,d⟩:=d;refine⟨q,c.anew_known d.1,fun f U V iK W X n p j=> ?_⟩;rw[Cx.anew_get]at j;obtain⟨o,h,g⟩:=Option.map_eq_some_iff.1 j;cases o<;>simp only[bY.anew,reduceCtorEq]at g;exact d.2 _ _ _ _ _ _ _ _ h
theorem bg.anew {c:Cx}: ∀(l:List bn) (xs:List Value),bg c l xs->bg c.anew (xf c.hp l) xs
 |[],[],_=>by simp[bg,xf]
 |v::l,x::xs,d=>by
  simp only[bg,xf]at d ⊢;exact⟨bu.anew v x d.1,bg.anew l xs d.2⟩
 |[],_::_,d=>by simp[bg]at d
 |_::_,[],d=>by simp[bg]at d
end
theorem zD.anew {c:Cx}: ∀(e:List (List bn)) (g:List (Array Value)),zD c e g->zD c.anew (e.map (xf c.hp)) g
 |[],[],_=>trivial
 |f::e,t::g,d=>⟨bg.anew _ _ d.1,zD.anew e g d.2⟩
 |[],_::_,d=>d.elim
 |_::_,[],d=>d.elim
theorem gI.anew (hr:gI W0 b0 rd c st a ats): ∃c',gI W0 b0 rd c' (Sm st) a ats/\c.Mono c'/\c'.w=c.w:=by
 obtain⟨z,K,M,N⟩:=st;have v:=hr.hp;simp only at v;subst v;refine⟨c.anew,⟨rfl,hr.nxt,⟨hr.ok.bel,fun i o x=> ?_,fun i j o q b d g l u=> ?_,hr.ok.mks,fun b A=>(Cx.anew_out c b (hr.ok.bar b A)).1,hr.ok.phi⟩,bg.anew _ _ hr.fr,zD.anew _ _ hr.stk,hr.df,hr.rd⟩,⟨fun _ h=>h,fun b L h=>⟨L,h⟩,ae _,rfl,Cx.anew_out c⟩,rfl⟩
 .rw[Cx.anew_get]at x;obtain⟨y,d,rfl⟩:=Option.map_eq_some_iff.1 x;have s:=hr.ok.obj i y d;cases y with
  |box e cs=>
   obtain⟨d,B,g,l,u⟩:=s;exact⟨d,B,g,bg.anew _ _ l,u⟩
  |arr t ver xs=>
   obtain⟨s,e,D,d,g,l⟩:=s;exact⟨s,e,D,d,dX.mono (dM.mono c.anew_free t) _ _ g,l⟩
  |lp f z ps iK bd ky n p=>
   obtain⟨s,d,L,g,l,u⟩:=s;exact⟨s,d,L,g,bg.anew _ _ l,u⟩
  |dead=>trivial
  |mp kk vk O=>exact s
 .rw[Cx.anew_get]at d g;obtain⟨E,G,rfl⟩:=Option.map_eq_some_iff.1 d;obtain⟨I,J,rfl⟩:=Option.map_eq_some_iff.1 g;rw[bY.anew_blk]at l u;exact hr.ok.inj i j E I b G J l u
theorem xH {l:List Nat}: ∀(i:Nat) (fr:List bn) (xs:List Value),bg c fr xs->bg c (Dv l i fr) xs
 |i,[],[],_=>by simp[bg,Dv]
 |i,v::fr,x::xs,h=>by
  simp only[bg,Dv]at h ⊢;refine⟨?_,xH (i+1) fr xs h.2⟩;rw[cond_eq_ite]
  grind [bu]
 |i,[],_::_,h=>by simp[bg]at h
 |i,_::_,[],h=>by simp[bg]at h
end
end
end Go.Proofs.YtlhpdcadgbjhiaaGreatDoor
